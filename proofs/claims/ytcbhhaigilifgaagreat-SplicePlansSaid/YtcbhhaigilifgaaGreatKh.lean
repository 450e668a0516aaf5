/- Parts of the proof, in one file. -/
import Derived.Test.YtcbhhaigilifgaaGreatKg
open Option renaming some → ab, none → ad
open Bool renaming true → ae, false → af
open Decidable renaming decide → ag
open Array renaming replicate → ycg, getElem?_eq_getElem → ycm, getElem?_eq_some_iff → ycv, getD_eq_getD_getElem? → ycw, getElem?_setIfInBounds → ydc
open Bool renaming and_eq_true → yi, or_eq_true → yck
open Go renaming Program → yg, Value → yh, Oper → yj, World → yy
open Go.Proofs.Tryz renaming prog → yb
open Int renaming toNat_natCast → yau
open List renaming length_append → yl, range → yn, getElem?_eq_some_iff → yu, replicate → yx, nil_append → yz, length_map → yaa, append_assoc → yab, length_take → yac, getElem?_eq_getElem → yad, length_cons → yah, take_length → yal, all_eq_true → yan, getElem?_cons_succ → yaq, map_append → yat, getElem?_cons_zero → yav, append_nil → yba, mem_singleton → ybf, getElem_of_mem → ybi, getElem?_eq_none → ybk, mem_range → ybv, mem_map → ybx, mem_cons → ycc, length_nil → ycn, mem_append → ycr, getD_eq_getElem?_getD → ycu, length_singleton → ydb
open Nat renaming le_refl → ym, mod_eq_of_lt → yap, zero_add → yax, mul_comm → ybo, le_trans → ybr, mul_le_mul_right → ycb, two_pow_add_eq_or_of_lt → ycz
open Option renaming bind_some → ya, bind_eq_some_iff → yf
open Option.some renaming inj → ybq
open Prod.mk renaming injEq → yq
open UInt64 renaming ofNat → yao, toNat_ofNat' → ybe
open UInt8 renaming ofNat → yar
set_option linter.unusedVariables false
set_option linter.unusedSimpArgs false
section
set_option maxRecDepth 4000
namespace Go.Proofs.YtcbhhaigilifgaaGreat
open Go Go.Ev
def eO(l:yL yB):Nat->Nat
 |0=>0
 |k+1=>eO l k*256+((l[k]?).map UInt8.toNat).getD 0
theorem PB(l:yL yB):∀k,eO l k < 256 ^ k
 |0=>by simp[eO]
 |k+1=>by
  have:=PB l k
  have h:((l[k]?).map UInt8.toNat).getD 0 < 256:=by
   cases l[k]? with
   |none=>simp
   |some d=>exact d.toNat_lt
  rw[eO,Nat.pow_succ];omega
theorem ZFT(n:Nat):∀k,k<=8->n < 18446744073709551616->eO (fa n) k=n / 2 ^ (64 - 8*k)
 |0,_,h=>by rw[eO,Nat.div_eq_of_lt (by omega)]
 |k+1,g,h=>by
  rw[eO,ZFT n k (by omega) h,zq n (by omega)];have e:(64 - 8*k)=(56 - 8*k)+8:=by omega
  have f:64 - 8*(k+1)=56 - 8*k:=by omega
  rw[e,f,Nat.pow_add, <-Nat.div_div_eq_div_mul];simp;omega
def QF(r:Zg)(n:Nat):yL yB×Zg:=if r.2=ae\/r.1.length < n then([],([],ae)) else(r.1.take n,(r.1.drop n,r.2))
theorem ZFU{n:Nat}{z:Int}(f:0<=z)(h:z<=(n:Int)):dL n (ab z) ad=ae:=by simp[dL,f,h]
theorem ZMr{n:Nat}{z:Int}(f:0<=z)(h:z<=(n:Int)):dL n ad (ab z)=ae:=by simp[dL,f,h]
theorem ZCG{l:yL yB}(h:l.length<=1000000000):Yf yD l=ab l:=by
 unfold Yf;rw[yW (ZT (by omega) (by omega))]
theorem PC{z:Int}{r:Zg}(g:0<=z)(h:r.1.length<=2000000):Wr yD z r=ab (QF r z.toNat):=by
 obtain⟨b,no⟩:=r;obtain⟨n,rfl⟩:=Int.eq_ofNat_of_zero_le g;unfold Wr QF Vm;dsimp only at h ⊢;rw[yau];by_cases f:no=ae
 .grind
 by_cases j:b.length < n
 .grind
 rw[yX f,yX (cZ (by omega)),yW (ZMr (by omega) (by omega)),ZCG (by rw[yac];omega),ya,yW (ZFU (by omega) (by omega)),yX (by rintro(h|h);exact f h;exact j h)]
theorem ui(r:Zg)(n:Nat):(QF r n).1.length<=n/\(QF r n).2.1.length<=r.1.length:=by
 unfold QF
 all_goals grind
theorem PD{b r:yL yB}{n:Nat}(h:b.length=n):QF (b++r,af) n=(b,(r,af)):=by
 subst h;unfold QF;grind
def il(r:Zg):yL yB×Zg:=((QF r 32).1++yx (32 - (QF r 32).1.length) 0,(QF r 32).2)
theorem ZHm(r:Zg):(il r).1.length=32/\(il r).2.1.length<=r.1.length:=by
 have f:=ui r 32;unfold il;grind
theorem ZKk{b r:yL yB}(h:b.length=32):il (b++r,af)=(b,(r,af)):=by
 unfold il;rw[PD h,h];simp
def jq(r:Zg):yU×Zg:=(yao (eO (QF r 8).1 (QF r 8).1.length),(QF r 8).2)
theorem ZKl{l:yL yB}{k:Nat}{d:yB}(g:k < 8)(f:l[k]? =ab d):(QR (yao (eO l k)) 8)|||(yao d.toNat)=yao (eO l (k+1)):=by
 have h:=PB l k;have j:256 ^ k<=256 ^ 7:=Nat.pow_le_pow_right (by omega) (by omega);have m:=d.toNat_lt;apply UInt64.toNat_inj.1;unfold QR
 rw[UInt64.toNat_or,ybe,ybe,ybe,ybe,yap (a:=eO l k) (by omega),yap (a:=d.toNat) (by omega),yap (a:=eO l k*2 ^ 8) (by omega),eO,f,
  ybo (eO l k) (2 ^ 8), <-ycz (by omega)]
 simp;omega
theorem kN{r:Zg}(h:r.1.length<=2000000):Xn yD r=ab (jq r):=by
 unfold Xn jq;rw[PC (by omega) h,ya];have f:=ui r 8;rw[show(8:Int).toNat=8 from rfl]
 generalize QF r 8=q at f;obtain⟨l,s⟩:=q;dsimp only at f ⊢
 rw[show((0:yU),l,(l.length:Int),(0:Int),s)=(λk:Nat=>(yao (eO l k),l,(l.length:Int),(k:Int),s)) 0 from rfl,
  ZA (x:=(yao (eO l l.length),s)) l.length (λk:Nat=>(yao (eO l k),l,(l.length:Int),(k:Int),s)) ?_ ?_ (by omega),ya]
 .intro k g;obtain⟨e,j,_⟩:=Zi g;unfold VM;dsimp only;rw[yW (Zw g),Zl j,ya,ZKl (by omega) j,Zp (by omega)]
 .unfold VM;grind
theorem uj(r:Zg):(jq r).2.1.length<=r.1.length:=(ui r 8).2
theorem uk(x:yU)(r:yL yB):jq (fa x.toNat++r,af)=(x,(r,af)):=by
 unfold jq;rw[PD (Y3 _),Y3];dsimp only;rw[ZFT _ 8 (by omega) (UInt64.toNat_lt _)];simp
def W3(b:yL yB):Nat->Nat->Nat->Bool×Nat×Nat
 |0,k,_=>(af,0,k)
 |f+1,k,n=>match b[k]? with
  |none=>(af,0,k)
  |some d=>if 8 < k\/(0 < k/\d.toNat=0) then(af,0,k) else if d.toNat < 128 then(ae,n+d.toNat % 128*128 ^ k,k+1) else W3 b f (k+1) (n+d.toNat % 128*128 ^ k)
theorem zR{b:yL yB}{f k n:Nat}(h:b.length<=k):W3 b (f+1) k n=(af,0,k):=by
 simp[W3,ybk h]
theorem zS{b:yL yB}{f k n:Nat}{d:yB}(g:b[k]? =ab d)(h:8 < k):W3 b (f+1) k n=(af,0,k):=by
 simp[W3,g,h]
theorem zY{b:yL yB}{f k n:Nat}{d:yB}(g:b[k]? =ab d)(_:¬8 < k)(h:0 < k/\d.toNat=0):W3 b (f+1) k n=(af,0,k):=by
 rw[W3,g];grind
theorem ul{b:yL yB}{f k n:Nat}{d:yB}(g:b[k]? =ab d)(h2:¬8 < k)(h3:¬(0 < k/\d.toNat=0))(h4:d.toNat < 128):W3 b (f+1) k n=(ae,n+d.toNat % 128*128 ^ k,k+1):=by
 rw[W3,g];grind
theorem um{b:yL yB}{f k n:Nat}{d:yB}(g:b[k]? =ab d)(h2:¬8 < k)(h3:¬(0 < k/\d.toNat=0))(h4:¬d.toNat < 128):W3 b (f+1) k n=W3 b f (k+1) (n+d.toNat % 128*128 ^ k):=by
 rw[W3,g];grind
theorem ZCH(n k:Nat)(d:yB)(f:n < 128 ^ k)(g:k<=8):n+d.toNat % 128*128 ^ k < 9223372036854775808:=by
 have h:d.toNat % 128*128 ^ k<=127*128 ^ k:=ycb _ (by omega);have j:128 ^ (k+1)<=128 ^ 9:=Nat.pow_le_pow_right (by omega) (by omega);grind
theorem Zyp(n k:Nat)(d:yB)(f:n < 128 ^ k):n+d.toNat % 128*128 ^ k < 128 ^ (k+1):=by
 have g:d.toNat % 128*128 ^ k<=127*128 ^ k:=ycb _ (by omega);grind
theorem ZCI(b:yL yB):∀(f k n:Nat),(W3 b f k n).1=ae->(W3 b f k n).2.2<=b.length
 |0,k,n,h=>by simp[W3]at h
 |f+1,k,n,h=>by
  by_cases m:b.length<=k
  .rw[zR m]at h;cases h
  have g:=yad (Nat.lt_of_not_le m);by_cases j:8 < k
  .rw[zS g j]at h;cases h
  by_cases l:0 < k/\b[k].toNat=0
  .rw[zY g j l]at h;cases h
  by_cases y:b[k].toNat < 128
  .rw[ul g j l y];simp;omega
  .rw[um g j l y]at h ⊢;exact ZCI b f _ _ h
theorem ZCJ(b:yL yB):∀(f k n:Nat),n < 128 ^ k->k<=9->(W3 b f k n).2.1<=9223372036854775807
 |0,k,n,h,_=>by simp[W3]
 |f+1,k,n,h,z=>by
  by_cases m:b.length<=k
  .rw[zR m];simp
  have g:=yad (Nat.lt_of_not_le m);by_cases j:8 < k
  .rw[zS g j];simp
  by_cases l:0 < k/\b[k].toNat=0
  .rw[zY g j l];simp
  by_cases y:b[k].toNat < 128
  .rw[ul g j l y];have:=ZCH n k b[k] h (by omega);grind
  .rw[um g j l y];exact ZCJ b f _ _ (Zyp n k _ h) (by omega)
theorem ZFV{a:yL yB}{k:Nat}{x:yB}{r:yL yB}(h:a.length=k):(a++x::r)[k]? =ab x:=by
 grind
theorem Zra{n:Nat}(h:n < 256):(yar n).toNat=n:=by simp[yap h]
theorem Zyq:∀(f n:Nat)(pre yK:yL yB)(k acc:Nat),pre.length=k->k+(Yz n).length<=9->(Yz n).length<=f->(0 < k->0 < n)->
 W3 (pre++(Yz n++yK)) f k acc=(ae,acc+n*128 ^ k,k+(Yz n).length)
 |0,n,pre,yK,k,acc,_,_,j,_=>by
  have:=List.length_pos_iff.2 (ZFQ n);omega
 |f+1,n,pre,yK,k,acc,l,g,j,A=>by
  by_cases h:n < 128
  .rw[oN h]at g ⊢;have m:(pre++([yar n]++yK))[k]? =ab (yar n):=ZFV l;have e:(yar n).toNat=n:=Zra (by omega);simp at g;rw[ul m (by omega) (by rw[e];omega) (by rw[e];exact h),e,yap h];rfl
  .rw[tX h]at g j ⊢;have m:(pre++((yar (n % 128+128)::Yz (n / 128))++yK))[k]? =ab (yar (n % 128+128)):=ZFV l;have e:(yar (n % 128+128)).toNat=n % 128+128:=Zra (by omega);simp only[yah]at g j ⊢;rw[um m (by omega) (by rw[e];omega) (by rw[e];omega),e];have:=Zyq f (n / 128) (pre++[yar (n % 128+128)]) yK (k+1) (acc+(n % 128+128) % 128*128 ^ k) (by simp[l]) (by omega) (by omega) (by omega);rw[yab]at this;simp only[List.cons_append,yz]at this ⊢;rw[this];have y:n=n % 128+128*(n / 128):=by omega
   have z:(n % 128+128) % 128=n % 128:=by omega
   rw[z,Nat.pow_succ];refine Prod.ext rfl (Prod.ext ?_ (by simp;omega));show acc+n % 128*128 ^ k+n / 128*(128 ^ k*128)=acc+n*128 ^ k;rw[show n / 128*(128 ^ k*128)=128*(n / 128)*128 ^ k by rw[ybo (128 ^ k) 128, <-Nat.mul_assoc,ybo (n / 128) 128],Nat.add_assoc, <-Nat.add_mul, <-y]
def VD(r:Zg):Int×Zg:=if(W3 r.1 10 0 0).1=ae then(((W3 r.1 10 0 0).2.1:Int),(r.1.drop (W3 r.1 10 0 0).2.2,r.2)) else(0,([],ae))
theorem kO{z:Int}(f:0<=z)(hz:z<=9223372036854775807)(yK:yL yB):VD (Yz z.toNat++yK,af)=(z,(yK,af)):=by
 obtain⟨n,rfl⟩:=Int.eq_ofNat_of_zero_le f;have g:=ZG (n:=n) (by omega);have:=Zyq 10 n [] yK 0 0 rfl (by omega) (by omega) (by omega);simp only[yz,yax,Nat.pow_zero,Nat.mul_one]at this;unfold VD;grind
theorem jZ(r:Zg):0<=(VD r).1/\(VD r).1<=9223372036854775807/\(VD r).2.1.length<=r.1.length:=by
 unfold VD;split
 .have:=ZCJ r.1 10 0 0 (by omega) (by omega);grind
 .simp
theorem ZKm{n k:Nat}{d:yB}(f:n < 128 ^ k)(g:k<=8):bits .or .i64 (n:Int) (wi (((d % 128).toNat:Int)*2 ^ (min (wi (7*(k:Int))).toNat 64)))=((n+d.toNat % 128*128 ^ k:Nat):Int):=by
 have h:(wi (7*(k:Int)))=((7*k:Nat):Int):=by rw[ZY (by omega) (by omega)];omega
 have j:min ((7*k:Nat):Int).toNat 64=7*k:=by omega
 have l:128 ^ k=2 ^ (7*k):=by rw[Nat.pow_mul]
 have y:=ZCH n k d f g
 have m:((d % 128).toNat:Int)*2 ^ (7*k)=((d.toNat % 128*128 ^ k:Nat):Int):=by
  simp_all
 rw[h,j,m,ZY (by omega) (by omega)];refine Go.Ev.uN (op:=.or) (k:=.i64) ?_ (by omega) ⟨by show-9223372036854775808<=_;omega,by show _<=9223372036854775807;omega⟩ (by omega) ⟨by show-9223372036854775808<=_;omega,by show _<=9223372036854775807;omega⟩ ⟨by show-9223372036854775808<=_;omega,by show _<=9223372036854775807;omega⟩;show ab _=ab _;congr 1;simp only[yau];rw[l]at f ⊢;have:=ycz f (d.toNat % 128);grind
theorem AA{b:yL yB}{no:Bool}{k:Nat}(hb:b.length<=2000000)(h:b.length<=k\/8 < k\/(0 < k/\b[k]? =ab 0)):X5 yD (k:Int) (b,no)=ab (ae,(k:Int),(b,no)):=by
 unfold X5;dsimp only;by_cases g:b.length<=k
 .grind
 rw[yX (cZ (by omega))];by_cases j:8 < k
 .grind
 rw[yX (cZ (by omega))];rcases h with h|h|⟨h,f⟩
 .grind
 .grind
 rw[yW (yY (by omega)),Zl f,ya];rfl
theorem ZHn{b:yL yB}{no:Bool}{k:Nat}{d:yB}(hb:b.length<=2000000)(f:b[k]? =ab d)(h2:¬8 < k)(h3:¬(0 < k/\d.toNat=0)):X5 yD (k:Int) (b,no)=ab (af,(k:Int),(b,no)):=by
 unfold X5;have g:k < b.length:=(yu.1 f).1;dsimp only;rw[yX (cZ (by omega)),yX (cZ (by omega))];by_cases j:0 < k
 .rw[yW (yY (by omega)),Zl f,ya]
  have:(d==0)=af:=by
   rw[beq_eq_false_iff_ne];intro h;simp_all
  rw[this]
 grind
theorem ZCK{b:yL yB}{no:Bool}(hb:b.length<=2000000):∀(f k n m:Nat),k+f=10->f < m->n < 128 ^ k->
 Zd (WF yD) m ((n:Int),(b,no),(k:Int))=ab (if(W3 b f k n).1=ae then .inr (((W3 b f k n).2.1:Int),(b,no),((W3 b f k n).2.2:Int)) else .inl ((0:Int),([],ae),((W3 b f k n).2.2:Int)))
 |f,k,n,0,_,h,_=>by omega
 |0,k,n,m+1,h,_,_=>by
  unfold Zd WF;dsimp only;rw[AA hb (.inr (.inl (by omega))),ya]
  rfl
 |f+1,k,n,m+1,h,F,B=>by
  unfold Zd WF;dsimp only;by_cases E:b.length<=k
  .rw[zR E,AA hb (.inl E),ya];rfl
  obtain⟨d,g,_⟩:=Zi (l:=b) (k:=k) (by omega);by_cases j:8 < k
  .rw[zS g j,AA hb (.inr (.inl j)),ya];rfl
  by_cases y:0 < k/\d.toNat=0
  .rw[zY g j y,AA hb (.inr (.inr ⟨y.1,by rw[g,show d=0 from UInt8.toNat_inj.1 y.2]⟩)),ya]
   rfl
  rw[ZHn hb g j y,ya];dsimp only
  rw[yX (by decide),Zl g,ya,ZKm B (by omega),
   yW (yY (by rw[ZY (by omega) (by omega)];omega)),Zp (by omega)]
  have A:ag (d < 128)=ag (d.toNat < 128):=by
   rw[Bool.eq_iff_iff,yN,yN,UInt8.lt_iff_toNat_lt];rfl
  rw[A];by_cases z:d.toNat < 128
  .rw[ul g j y z,yW (yY z)];rfl
  .rw[um g j y z,yX (by rw[yN];exact z)];exact ZCK hb f (k+1) _ m (by omega) (by omega) (Zyp n k d B)
theorem Qv{r:Zg}(h:r.1.length<=2000000):Z0 yD r=ab (VD r):=by
 obtain⟨b,no⟩:=r;unfold Z0 VD;dsimp only at h ⊢;have:=ZCK (no:=no) h 10 0 0 yD (by omega) (by rw[iI];omega) (by omega);rw[show((0:Nat):Int)=0 from rfl]at this
 rw[this,ya];by_cases f:(W3 b 10 0 0).1=ae
 .have g:=ZCI b 10 0 0 f;rw[yW f,yW f];dsimp only;rw[yW (ZFU (by omega) (by omega)),yau]
 grind
def gB(r:Zg):yL yB×Zg:=if(VD r).2.2=ae then([],(VD r).2) else QF (VD r).2 (VD r).1.toNat
theorem ZEB(r:Zg):(gB r).1.length<=r.1.length/\(gB r).2.1.length<=r.1.length:=by
 unfold gB;have f:=jZ r;split
 .grind
 .have g:=ui (VD r).2 (VD r).1.toNat
  refine⟨?_,by omega⟩;unfold QF
  all_goals grind
theorem ZHo{c:yL yB}(hc:c.length<=2000000)(yK:yL yB):gB (Yz c.length++(c++yK),af)=(c,(yK,af)):=by
 unfold gB;have:=kO (z:=(c.length:Int)) (by omega) (by omega) (c++yK);rw[yau]at this;rw[this,yX (by simp),yau,PD rfl]
theorem AB{b:yL yB}(h:b.length<=2000000):tL yD b=ab (b,af):=by
 unfold tL;rw[ZCG (by omega),ya]
theorem uo{α:Type}{l:yL α}{k:Nat}{e:α}(h:l[k]? =ab e):l.drop k=e::l.drop (k+1):=by
 obtain⟨f,g⟩:=yu.1 h;rw[List.drop_eq_getElem_cons f,g]
theorem up{α:Type}{f:α->yL yB}{l:yL α}{k:Nat}{e:α}(h:l[k]? =ab e):bn f (l.drop k)=f e++bn f (l.drop (k+1)):=by
 rw[uo h,OP]
theorem XL{α:Type}{f:α->yL yB}{c n:Nat}{l:yL α}(h:∀x,x∈l->(f x).length<=c)(j:l.length<=n)(k:Nat):(bn f (l.drop k)).length<=n*c:=by
 refine ybr (OQ λx g=>h x (List.mem_of_mem_drop g)) (ycb c ?_);grind
theorem ZHp{a b:yL yB}(h:a.length<=2000000):∃r,Z5 yD a b=ab r:=by
 unfold Z5;by_cases j:a.length=b.length
 .rw[yX (by simp[j])]
  obtain⟨x,m,_⟩:=Xi (step:=ZJ yD) a.length (λk s=>s=(a,b,(a.length:Int),(k:Int))) (λ_=>True) (i:=(a,b,(a.length:Int),(0:Int))) rfl (by omega) (by
   rintro k _ g rfl;obtain⟨e,z,_⟩:=Zi g;obtain⟨f,A,_⟩:=Zi (l:=b) (k:=k) (by omega);unfold ZJ;dsimp only;rw[yW (Zw g),Zl z,ya,Zl A,ya,Zp (by omega)];split
   .right;exact⟨_,rfl,ao⟩
   .left;exact⟨_,rfl,rfl⟩) (by
   rintro _ rfl;unfold ZJ;dsimp only;rw[yX (by rw[ZN];decide)];exact⟨_,rfl,ao⟩)
  rw[m,ya]
  cases x with
  |inl y=>exact⟨_,rfl⟩
  |inr y=>exact⟨_,rfl⟩
 .rw[yW (by simp;omega)];exact⟨_,rfl⟩
theorem Zwn{a:yL yB}(h:a.length<=2000000):Z5 yD a a=ab ae:=by
 unfold Z5;rw[yX (by simp),show(a,a,(a.length:Int),(0:Int))=(λk:Nat=>(a,a,(a.length:Int),(k:Int))) 0 from rfl,ZA (x:=.inr ()) a.length (λk:Nat=>(a,a,(a.length:Int),(k:Int))) ?_ ?_ (by omega),ya]
 .intro k f;obtain⟨e,g,_⟩:=Zi f;unfold ZJ;dsimp only;rw[yW (Zw f),Zl g,ya,ya,Zp (by omega),yX (by simp)]
 .unfold ZJ;grind
theorem ZHq{b:yL yB}{n i:Int}{l:ZC}{yK:yL yB}{acc:yL ZW}{i1 i2:Int}{u:yU}{ks:yL yU}(j:ks.length<=12)(m:yK.length<=100000):
 Zd (Wa yD) yD (b,n,i,(ks.length:Int),(0:Int),l,(bn gV ks++yK,af),acc,i1,i2,u,([]:yL yU))=ab (b,n,i,l,(yK,af),acc,i1,i2,u,ks):=by
 refine ZA ks.length (λk:Nat=>(b,n,i,(ks.length:Int),(k:Int),l,(bn gV (ks.drop k)++yK,af),acc,i1,i2,u,ks.take k)) ?_ ?_ (by omega)
 .intro k g;obtain⟨e,h,_⟩:=Zi g;have y:=XL (f:=gV) (c:=8) (λx _=>Nat.le_of_eq (Y3 _)) j k;unfold Wa;dsimp only;rw[yW (Zw g),kN (by dsimp only;rw[yl];omega),ya,up h,yab];unfold gV;rw[uk,yW (ZT (by rw[yac];omega) (by rw[yac];omega)),Zp (by omega),Wu h]
 .unfold Wa;dsimp only;rw[yX (by rw[ZN];decide),List.drop_length,yal];rfl
theorem Zyr{l:ZC}(h:Vb l)(hp:gK l):oG yD (gk l)=ab (l,ae):=by
 have F:=qx h;unfold oG;rw[AB (by omega),ya,Qv (by dsimp only;omega),ya];have G:=h.2.1
 have I:VD (gk l,af)=((l.length:Int),(bn fE l,af)):=by
  have:=kO (z:=(l.length:Int)) (by omega) (by omega) (bn fE l);rw[yau]at this;exact this
 have g:∀k,(bn fE (l.drop k)).length<=4*131:=XL (λx M=>zr (h.2.2 x M)) G;rw[I];dsimp only;generalize Q:gk l=b at F
 rw[show(b,(l.length:Int),(0:Int),([]:ZC),(bn fE l,af),([]:yL ZW))=(λk:Nat=>(b,(l.length:Int),(k:Int),([]:ZC),(bn fE (l.drop k),af),l.take k)) 0 from rfl,
  ZA (x:=(b,([]:ZC),(([]:yL yB),af),l)) l.length (λk:Nat=>(b,(l.length:Int),(k:Int),([]:ZC),(bn fE (l.drop k),af),l.take k)) ?_ ?_ (by omega),ya]
 .dsimp only;rw[ON h hp,ya,yX (by decide),OR h hp,ya,Q,Zwn (by omega),ya];rfl
 .intro k A;obtain⟨e,B,R⟩:=Zi A;obtain⟨E,S,T,e4,e5⟩:=h.2.2 e R;have U:=g k;have j:=g (k+1);have W:=ZG (n:=e.2.1.toNat) (by omega);have X:=ZG (n:=e.2.2.1.toNat) (by omega);have Y:=Y3 e.2.2.2.toNat
  have m:=XL (f:=gV) (c:=8) (l:=e.1) (λx _=>Nat.le_of_eq (Y3 _)) E 0;rw[List.drop_zero]at m;unfold VI;dsimp only;rw[yW (Zw A),Qv (by dsimp only;omega),ya,yX (by rw[yT];omega),up B];unfold fE;simp only[yab];have y:=kO (z:=(e.1.length:Int)) (by omega) (by omega) (bn gV e.1++(Yz e.2.1.toNat++(Yz e.2.2.1.toNat++(fa e.2.2.2.toNat++bn fE (l.drop (k+1))))));rw[yau]at y;unfold fE at y j;rw[y];dsimp only;rw[yX (cZ (by omega)),ZHq E (by simp only[yl];omega),ya];dsimp only;rw[Qv (by simp only[yl];omega),ya,kO S (by omega)];dsimp only;rw[Qv (by simp only[yl];omega),ya,kO e4 (by omega)];dsimp only;rw[kN (by simp only[yl];omega),ya,uk,yW (ZT (by rw[yac];omega) (by rw[yac];omega)),Zp (by omega),Wu B]
 .unfold VI;dsimp only;rw[yX (by rw[ZN];decide),List.drop_length,yal];rfl
theorem ZKn{b:yL yB}{n i m:Int}{l:ZC}{r:Zg}{acc:yL ZW}{i1 i2:Int}{u:yU}(hm:m<=12)(h:r.1.length<=2000000):
 ∃r' w,Zd (Wa yD) yD (b,n,i,m,(0:Int),l,r,acc,i1,i2,u,([]:yL yU))=ab (b,n,i,l,r',acc,i1,i2,u,w)/\r'.1.length<=2000000/\w.length<=12:=by
 obtain⟨x,f,r',w,rfl,g⟩:=Xi (step:=Wa yD) m.toNat (λk s=>∃r' w,s=(b,n,i,m,(k:Int),l,r',acc,i1,i2,u,w)/\r'.1.length<=2000000/\w.length=k) (λx=>∃r' w,x=(b,n,i,l,r',acc,i1,i2,u,w)/\r'.1.length<=2000000/\w.length<=12)
  (i:=(b,n,i,m,(0:Int),l,r,acc,i1,i2,u,([]:yL yU))) ⟨r,[],rfl,h,rfl⟩ (by omega) (by
  rintro k _ j ⟨r',w,rfl,f,g⟩;left;have y:=uj r';unfold Wa;dsimp only;rw[yW (yY (by omega)),kN f,ya,yW (ZT (by omega) (by omega)),Zp (by omega)];exact⟨_,rfl,_,_,rfl,by omega,by simp[g]⟩) (by
  rintro _ ⟨r',w,rfl,f,g⟩;unfold Wa;dsimp only;rw[yX (cZ (by omega))];exact⟨_,rfl,_,_,rfl,f,by omega⟩)
 exact⟨r',w,f,g⟩
theorem ZKo{a b:yL yB}(h:a.length<=2000000):Z5 yD a b=ab (ag (a=b)):=by
 obtain⟨r,G⟩:=ZHp (a:=a) (b:=b) h;by_cases g:a=b
 .subst g;rw[Zwn h,yY rfl]
 .rw[yZ g];unfold Z5;by_cases y:a.length=b.length
  .rw[yX (by simp[y])]
   obtain⟨x,E,F⟩:=Xi (step:=ZJ yD) a.length (λk s=>s=(a,b,(a.length:Int),(k:Int))/\a.take k=b.take k) (λx=>x=.inl af) (i:=(a,b,(a.length:Int),(0:Int))) ⟨rfl,rfl⟩ (by omega) (by
    rintro k _ z ⟨rfl,m⟩;obtain⟨e,A,_⟩:=Zi z;obtain⟨f,B,_⟩:=Zi (l:=b) (k:=k) (by omega);unfold ZJ;dsimp only;rw[yW (Zw z),Zl A,ya,Zl B,ya,Zp (by omega)];by_cases j:e=f
    .left;rw[yX (by simp[j])];exact⟨_,rfl,rfl,by rw[List.take_add_one,List.take_add_one,m,A,B,j]⟩
    .right;rw[yW (bne_iff_ne.2 j)];exact⟨_,rfl,rfl⟩) (by
    rintro _ ⟨rfl,m⟩;rw[yal,y,yal]at m;exact absurd m g)
   rw[E,ya,F]
  .rw[yW (by simp;omega)]
theorem ZAt{b:yL yB}(hb:b.length<=2000000):∃l ok,oG yD b=ab (l,ok)/\(ok=ae->Vb l/\gK l/\gk l=b)/\(ok=af->l=[]):=by
 unfold oG;rw[AB hb,ya,Qv hb,ya];have z:=jZ (b,af);generalize VD (b,af)=q at z;obtain⟨n,r⟩:=q;dsimp only at z ⊢
 obtain⟨x,A,Y,f,rfl,B,j⟩:=Xi (step:=VI yD) (min n.toNat 4) (λk s=>∃r f,s=(b,n,(k:Int),([]:ZC),r,f)/\r.1.length<=2000000/\f.length=k/\∀e,e∈f->e.1.length<=12) (λx=>∃r f,x=(b,([]:ZC),r,f)/\f.length<=4/\∀e,e∈f->e.1.length<=12)
  (i:=(b,n,(0:Int),([]:ZC),r,([]:yL ZW))) ⟨r,[],rfl,by omega,rfl,λe he=>by cases he⟩ (by omega) (by
  rintro k _ y ⟨r,f,rfl,A,B,j⟩;have Z:=jZ r;unfold VI;dsimp only;rw[yW (yY (by omega)),Qv A,ya,yX (by rw[yT];omega)];by_cases g:(VD r).1 > 12
  .right;rw[yW (yY g)];exact⟨_,rfl,_,_,rfl,by omega,j⟩
  .left;rw[yX (by rw[yN];exact g)];obtain⟨E,w,Q,R,S⟩:=ZKn (b:=b) (n:=n) (i:=(k:Int)) (m:=(VD r).1) (l:=[]) (r:=(VD r).2) (acc:=f) (i1:=0) (i2:=0) (u:=0) (by omega) (by omega);have T:=jZ E;have U:=jZ (VD E).2;have W:=uj (VD (VD E).2).2;rw[Q,ya];dsimp only;rw[Qv R,ya,Qv (by omega),ya,kN (by omega),ya,yW (ZT (by omega) (by omega)),Zp (by omega)];refine⟨_,rfl,_,_,rfl,by omega,by simp[B],λe he=> ?_⟩;rcases ycr.1 he with he|he
   .exact j e he
   .rw[ybf.1 he];exact S) (by
  rintro _ ⟨r,f,rfl,A,B,j⟩;unfold VI;dsimp only;by_cases M:((min n.toNat 4:Nat):Int) < n
  .rw[yW (yY M),Qv A,ya,yW (by rw[yT];omega)];exact⟨_,rfl,_,_,rfl,by omega,j⟩
  .rw[yX (by rw[yN];exact M)];exact⟨_,rfl,_,_,rfl,by omega,j⟩)
 rw[A,ya];dsimp only;have X:dE f:=⟨by omega,λe he=>by have:=j e he;omega⟩;obtain⟨k,F,G⟩:=ud X;rw[F,ya]
 cases k with
 |false=>exact⟨_,_,rfl,λh=>(by cases h),λ_=>rfl⟩
 |true=>
  have y:=G.1 rfl;have zW:=qx y.1;rw[yX (by decide),OR y.1 y.2,ya,ZKo (by omega),ya];by_cases I:gk f=b
  .rw[yY I,yX (by decide)];exact⟨_,_,rfl,λ_=>⟨y.1,y.2,I⟩,λh=>(by cases h)⟩
  .rw[yZ I,yW (by decide)];exact⟨_,_,rfl,λh=>(by cases h),λ_=>rfl⟩
open Classical in
noncomputable def mZ(b:yL yB):ZC×Bool:=if h:∃l,Vb l/\gK l/\gk l=b then(h.choose,ae) else([],af)
theorem ZMs{b:yL yB}(hb:b.length<=2000000):oG yD b=ab (mZ b):=by
 obtain⟨l,f,g,j,m⟩:=ZAt hb;unfold mZ;by_cases h:∃l,Vb l/\gK l/\gk l=b
 .obtain⟨y,z,A⟩:=h.choose_spec;have:=Zyr y z;rw[A]at this;rw[dif_pos h,this]
 .rw[dif_neg h,g]
  cases f with
  |false=>rw[m rfl]
  |true=>exact absurd ⟨l,j rfl⟩ h
theorem PE{r:Zg}{n:Nat}(h:(QF r n).2.2=af):r.2=af/\r.1=(QF r n).1++(QF r n).2.1/\(QF r n).1.length=n:=by
 unfold QF at h ⊢;by_cases c:r.2=ae\/r.1.length < n
 .grind
 .rw[yX c]at h ⊢;simp_all
theorem ZHr{r:Zg}(h:(il r).2.2=af):r.2=af/\r.1=(il r).1++(il r).2.1:=by
 obtain⟨f,g,j⟩:=PE (r:=r) (n:=32) h;refine⟨f, ?_⟩;unfold il;simp_all
theorem ZKp:∀(l:yL yB),l.length<=8->∀k,k<=l.length->∀j,j < k->∃d,l[j]? =ab d/\eO l k / 256 ^ (k - 1 - j) % 256=d.toNat:=by
 intro l B k
 induction k with
 |zero=>intro _ j h;omega
 |succ k m=>
  intro E j h;obtain⟨d,g,_⟩:=Zi (l:=l) (k:=k) (by omega)
  have e:eO l (k+1)=eO l k*256+d.toNat:=by
   show eO l k*256+((l[k]?).map UInt8.toNat).getD 0=_;rw[g];rfl
  have y:d.toNat < 256:=UInt8.toNat_lt d;by_cases f:j=k
  .subst f;refine⟨d,g, ?_⟩;rw[e,show j+1 - 1 - j=0 by omega,Nat.pow_zero,Nat.div_one];omega
  .obtain⟨c,z,A⟩:=m (by omega) j (by omega);refine⟨c,z, ?_⟩;rw[e,show k+1 - 1 - j=(k - 1 - j)+1 by omega,Nat.pow_succ,ybo (256 ^ (k - 1 - j)), <-Nat.div_div_eq_div_mul,show(eO l k*256+d.toNat) / 256=eO l k by omega];exact A
theorem ZKq{l:yL yB}(h:l.length=8):fa (eO l 8)=l:=by
 apply List.ext_getElem?;intro j;by_cases f:j < 8
 .obtain⟨d,d1,d2⟩:=ZKp l (by omega) 8 (by omega) j f;rw[zq _ f,d1];refine congrArg ab (UInt8.toNat_inj.1 ?_);rw[UInt8.toNat_ofNat']
  rw[<-d2,show(2:Nat) ^ (56 - 8*j)=256 ^ (8 - 1 - j) by
   rw[show(256:Nat)=2 ^ 8 from rfl, <-Nat.pow_mul]
   congr 1;omega]
 .rw[ybk (by rw[Y3];omega),ybk (by omega)]
theorem ZKr{r:Zg}(h:(jq r).2.2=af):r.2=af/\r.1=fa (jq r).1.toNat++(jq r).2.1:=by
 obtain⟨g,j,f⟩:=PE (r:=r) (n:=8) h;refine⟨g, ?_⟩;unfold jq;dsimp only;rw[f];have l:=PB (QF r 8).1 8
 rw[show(yao (eO (QF r 8).1 8)).toNat=eO (QF r 8).1 8 by
  rw[ybe];exact yap (Nat.lt_of_lt_of_eq l (by decide)),ZKq f]
 exact j
theorem Zys(b:yL yB):∀(f k n:Nat),(W3 b f k n).1=ae->∃m,(W3 b f k n).2.1=n+m*128 ^ k/\b.drop k=Yz m++b.drop (W3 b f k n).2.2/\(0 < k->0 < m)
 |0,k,n,h=>by simp[W3]at h
 |f+1,k,n,h=>by
  by_cases z:b.length<=k
  .rw[zR z]at h;cases h
  have g:=yad (Nat.lt_of_not_le z);generalize b[k]=d at g;have E:=UInt8.toNat_lt d;by_cases j:8 < k
  .rw[zS g j]at h;cases h
  by_cases y:0 < k/\d.toNat=0
  .rw[zY g j y]at h;cases h
  by_cases l:d.toNat < 128
  .rw[ul g j y l];refine⟨d.toNat,by dsimp only;rw[yap l], ?_,λF=>by omega⟩;dsimp only;rw[oN l,uo g];simp
  .rw[um g j y l]at h ⊢;obtain⟨m,G,B,A⟩:=Zys b f (k+1) _ h;have A:=A (by omega);refine⟨d.toNat % 128+m*128, ?_, ?_,λ_=>by omega⟩
   .grind
   .rw[tX (by omega),show(d.toNat % 128+m*128) / 128=m by omega,show(d.toNat % 128+m*128) % 128+128=d.toNat by omega,uo g,B];simp
theorem ZCL{r:Zg}(h:(VD r).2.2=af):r.2=af/\r.1=Yz (VD r).1.toNat++(VD r).2.1:=by
 unfold VD at h ⊢;by_cases c:(W3 r.1 10 0 0).1=ae
 .rw[yW c]at h ⊢;obtain⟨m,f,g,_⟩:=Zys r.1 10 0 0 c;grind
 grind
theorem ZEC{r:Zg}(h:(gB r).2.2=af):r.2=af/\r.1=Yz (gB r).1.length++((gB r).1++(gB r).2.1):=by
 unfold gB at h ⊢;by_cases c:(VD r).2.2=ae
 .grind
 .rw[yX c]at h ⊢;obtain⟨f,g,j⟩:=PE h;obtain⟨l,m⟩:=ZCL (r:=r) (by simpa using c);grind
theorem ZCM{r:Zg}(h:r.1.length<=2000000):QY yD r=ab (il r):=by
 unfold QY il;rw[PC (by omega) h,ya];have f:=ui r 32;rw[show(32:Int).toNat=32 from rfl,yW (by rw[yi];exact⟨yY f.1,rfl⟩)]
 generalize (QF r 32).1=l at f;rw[List.take_zero,yz,show dn=yx 32 0 from rfl,List.drop_replicate,yax]
theorem ZCN{r:Zg}(h:r.1.length<=2000000):Qk yD r=ab (gB r):=by
 unfold Qk gB;have g:=jZ r;rw[Qv h,ya];by_cases f:(VD r).2.2=ae
 .rw[yW f,yW f]
 .rw[yX f,yX f,PC g.1 (by omega),ya]
theorem AC{α:Type}{f:α->yL yB}{l:yL α}{e:α}:bn f (l++[e])=bn f l++f e:=by
 unfold bn
 rw[yat,List.flatten_append];simp
def eX(r r':Zg)(f:yL yB):Prop:=r'.2=af->r.2=af/\r.1=f++r'.1
theorem eX.refl(r:Zg):eX r r []:=λh=>⟨h,rfl⟩
theorem eX.trans{a b c:Zg}{x y:yL yB}(h:eX a b x)(k:eX b c y):eX a c (x++y):=λq=>by
 obtain⟨f,g⟩:=k q;obtain⟨j,l⟩:=h f;exact⟨j,by rw[l,g,yab]⟩
theorem uq(r:Zg):eX r (VD r).2 (Yz (VD r).1.toNat):=λh=>ZCL h
theorem ZKs(r:Zg):eX r (il r).2 (il r).1:=λh=>ZHr h
theorem PF(r:Zg):eX r (jq r).2 (fa (jq r).1.toNat):=λh=>ZKr h
theorem ZHs(r:Zg):eX r (gB r).2 (Yz (gB r).1.length++(gB r).1):=λh=>by
 obtain⟨f,g⟩:=ZEC h;exact⟨f,by rw[yab];exact g⟩
def gC(m:Int)(r:Zg):Int×Zg:=(if(VD r).1 > m then-1 else(VD r).1,(VD r).2)
theorem qA{m:Int}{r:Zg}(h:r.1.length<=2000000):qp yD m r=ab (gC m r):=by
 unfold qp gC;rw[Qv h,ya];by_cases f:(VD r).1 > m
 .rw[yW (yY f),yW f]
 .rw[yX (by rw[yN];exact f),yX f]
theorem PG{m:Int}(f:0<=m)(r:Zg):(gC m r).1<=m/\ -1<=(gC m r).1/\(gC m r).2.1.length<=r.1.length:=by
 have h:=jZ r;unfold gC;dsimp only;split <;> omega
theorem PH{m z:Int}(f:0<=z)(h1:z<=m)(hm:m<=1000)(yK:yL yB):gC m (Yz z.toNat++yK,af)=(z,(yK,af)):=by
 unfold gC;rw[kO f (by omega),yX (by omega)]
theorem PI{m:Int}(r:Zg)(h:0<=(gC m r).1):eX r (gC m r).2 (Yz (gC m r).1.toNat):=by
 unfold gC at h ⊢;by_cases c:(VD r).1 > m
 .rw[yW c]at h;omega
 .rw[yX c];exact uq r
theorem ZOU{b:yL yB}(h:(mZ b).2=ae):Vb (mZ b).1/\gK (mZ b).1/\gk (mZ b).1=b:=by
 unfold mZ at h ⊢;split
 .rename_i q;exact q.choose_spec
 .rename_i q;rw[dif_neg q]at h;cases h
theorem ZOV{n0 n nt:Int}{T:Tx}{r:Zg}(z:n<=64)(j:r.1.length<=2000000):
 ∃v ins r',Zd (Vo yD) yD (n0,n,(0:Int),T,nt,([]:yL Out),([]:yL Unit),([]:yL In),([]:yL In),r)=ab (n0,T,nt,([]:yL Out),v,([]:yL In),ins,r')/\r'.1.length<=2000000/\ins.length=n.toNat/\(∀x,x∈ins->x.1.1.length=32)/\eX r r' (bn eE ins):=by
 obtain⟨x,f,v,ins,r',rfl,g⟩:=Xi (step:=Vo yD) n.toNat (λk s=>∃v ins r',s=(n0,n,(k:Int),T,nt,([]:yL Out),v,([]:yL In),ins,r')/\r'.1.length<=2000000/\ins.length=k/\(∀x,x∈ins->x.1.1.length=32)/\eX r r' (bn eE ins))
  (λx=>∃v ins r',x=(n0,T,nt,([]:yL Out),v,([]:yL In),ins,r')/\r'.1.length<=2000000/\ins.length=n.toNat/\(∀x,x∈ins->x.1.1.length=32)/\eX r r' (bn eE ins)) (i:=(n0,n,(0:Int),T,nt,([]:yL Out),([]:yL Unit),([]:yL In),([]:yL In),r)) ⟨[],[],r,rfl,j,rfl,(λx hx=>by cases hx),eX.refl r⟩ (by omega) (by
  rintro k _ A ⟨v,ins,r',rfl,f,g,h,l⟩;left;have m:=ZHm r';have y:=jZ (il r').2;unfold Vo;dsimp only;rw[yW (yY (by omega)),ZCM f,ya,Qv (by omega),ya,yW (ZT (by simp;omega) (by simp;omega)),Zp (by omega)];refine⟨_,rfl,_,_,_,rfl,by omega,by simp[g],λx hx=> ?_, ?_⟩
  .rcases ycr.1 hx with hx|hx
   .exact h x hx
   .rw[ybf.1 hx];exact m.1
  .rw[AC];exact l.trans ((ZKs r').trans (uq _))) (by
  rintro _ ⟨v,ins,r',rfl,f,g,h⟩;unfold Vo;dsimp only;rw[yX (cZ (by omega))];exact⟨_,rfl,_,_,_,rfl,f,g,h⟩)
 exact⟨v,ins,r',f,g⟩
theorem ZMt{n0 m0 m nt:Int}{T:Tx}{v:yL Unit}{ins:yL In}{r:Zg}(hm:m<=64)(j:r.1.length<=2000000):
 ∃x,Zd (Vp yD) yD (n0,m0,m,(0:Int),T,nt,([]:yL Out),v,([]:yL In),ins,r)=ab x/\
  ((∃y,x=.inl (af,(([]:yL In),([]:yL Out),(0:Int)),y))\/∃outs r',x=.inr (n0,m0,T,nt,outs,v,([]:yL In),ins,r')/\r'.1.length<=2000000/\outs.length=m.toNat/\(∀o,o∈outs->Vb o.2)/\eX r r' (bn fu outs)):=by
 refine Xi (step:=Vp yD) m.toNat (λk s=>∃outs r',s=(n0,m0,m,(k:Int),T,nt,outs,v,([]:yL In),ins,r')/\r'.1.length<=2000000/\outs.length=k/\(∀o,o∈outs->Vb o.2)/\eX r r' (bn fu outs)) _ ⟨[],r,rfl,j,rfl,(λx l=>by cases l),eX.refl r⟩ (by omega) ?_ ?_
 .rintro k _ I ⟨outs,r',rfl,f,g,h,z⟩;have M:=jZ r';have A:=ZEB (VD r').2;have B:=ZMs (b:=(gB (VD r').2).1) (by omega);unfold Vp;dsimp only;rw[yW (yY (by omega)),Qv f,ya,ZCN (by omega),ya,B,ya]
  cases E:(mZ (gB (VD r').2).1).2 with
  |false=>right;exact⟨_,rfl,.inl ⟨_,rfl⟩⟩
  |true=>
   left;obtain⟨F,Q,G⟩:=ZOU E;rw[yX (by simp),yW (ZT (by omega) (by omega)),Zp (by omega)];refine⟨_,rfl,_,_,rfl,by omega,by simp[g],λo ho=> ?_, ?_⟩
   .rcases ycr.1 ho with ho|ho
    .exact h o ho
    .rw[ybf.1 ho];exact F
   .rw[AC];refine z.trans ?_;unfold fu;dsimp only;rw[G];exact(uq r').trans (ZHs _)
 .rintro _ ⟨outs,r',rfl,f,g,h⟩;unfold Vp;dsimp only;rw[yX (cZ (by omega))];exact⟨_,rfl,.inr ⟨_,_,rfl,f,g,h⟩⟩
theorem ZMu{n0 m0 i0 len i s nt:Int}{T:Tx}{outs:yL Out}{v:yL Unit}{pre post:yL In}{fr:ZO}{br:Int}{sec:yU}{r:Zg}(hs:s<=12)(hi:i0.toNat=pre.length)(m:r.1.length<=2000000):
 ∃r' w,Zd (Vq yD) yD (n0,m0,i0,len,i,s,(0:Int),T,nt,outs,v,pre,post,fr,br,sec,r,([]:yL gi))=ab (n0,m0,(i0.toNat:Int),len,i,T,nt,outs,v,pre,post,fr,br,sec,r',w)/\r'.1.length<=2000000/\w.length=s.toNat/\eX r r' (bn fR w):=by
 obtain⟨x,f,r',w,rfl,g⟩:=Xi (step:=Vq yD) s.toNat (λk t=>∃h r' w,t=(n0,m0,h,len,i,s,(k:Int),T,nt,outs,v,pre,post,fr,br,sec,r',w)/\h.toNat=pre.length/\r'.1.length<=2000000/\w.length=k/\eX r r' (bn fR w))
  (λx=>∃r' w,x=(n0,m0,(i0.toNat:Int),len,i,T,nt,outs,v,pre,post,fr,br,sec,r',w)/\r'.1.length<=2000000/\w.length=s.toNat/\eX r r' (bn fR w)) (i:=(n0,m0,i0,len,i,s,(0:Int),T,nt,outs,v,pre,post,fr,br,sec,r,([]:yL gi))) ⟨i0,r,[],rfl,hi,m,rfl,eX.refl r⟩ (by omega) (by
  rintro k _ z ⟨h,r',w,rfl,j,f,g,l⟩;left;have A:=uj r';have y:=uj (jq r').2;unfold Vq;dsimp only;rw[yW (yY (by omega)),yW (yY j),kN f,ya,kN (by omega),ya,yW (ZT (by omega) (by omega)),Zp (by omega),j,yW (yY rfl)];refine⟨_,rfl,((pre.length:Nat):Int),_,_,rfl,by omega,by omega,by simp[g], ?_⟩;rw[AC];exact l.trans ((PF r').trans (PF _))) (by
  rintro _ ⟨h,r',w,rfl,j,f,g,l⟩;unfold Vq;dsimp only;rw[yX (cZ (by omega)),j,hi];exact⟨_,rfl,_,_,rfl,f,g,l⟩)
 exact⟨r',w,f,g⟩
theorem ZMv{n0 m0 nt:Int}{T:Tx}{outs:yL Out}{v:yL Unit}{ins:yL In}{r:Zg}(R:ins.length<=64)(B:r.1.length<=2000000):
 ∃x,Zd (Vr yD) yD (n0,m0,((ins.length:Nat):Int),(0:Int),T,nt,outs,v,([]:yL In),ins,r)=ab x/\
  ((∃y,x=.inl (af,(([]:yL In),([]:yL Out),(0:Int)),y))\/∃pre r',x=.inr (n0,m0,T,nt,outs,v,pre,([]:yL In),r')/\r'.1.length<=2000000/\pre.map (λx=>x.1)=ins.map (λx=>x.1)/\eX r r' (bn fz pre)):=by
 refine Xi (step:=Vr yD) ins.length (λk s=>∃pre f r',s=(n0,m0,((ins.length:Nat):Int),(k:Int),T,nt,outs,v,pre,f,r')/\r'.1.length<=2000000/\pre.length=k/\pre.length+f.length=ins.length/\(pre++f).map (λx=>x.1)=ins.map (λx=>x.1)/\eX r r' (bn fz pre)) _
  ⟨[],ins,r,rfl,B,rfl,by simp,rfl,eX.refl r⟩ (by omega) ?_ ?_
 .rintro k _ E ⟨pre,f,r',rfl,j,z,g,h,l⟩
  cases f with
  |nil=>rw[ycn]at g;omega
  |cons e f=>
   rw[yah]at g;have S:=jZ r';have F:=PG (m:=12) (by omega) (VD r').2;unfold Vr;dsimp only[wJ];rw[yW (Zw E),yW (yY (by omega)),yW (Wy (by omega) (by omega)),Qv j,ya,yW (yY (by omega)),qA (by omega),ya];by_cases hs:(gC 12 (VD r').2).1 < 0
   .right;rw[yW (yY hs)];exact⟨_,rfl,.inl ⟨_,rfl⟩⟩
   left;obtain⟨A,w,G,I,M,e4⟩:=ZMu (n0:=n0) (m0:=m0) (i0:=(((k:Int).toNat:Nat):Int)) (len:=((ins.length:Nat):Int)) (i:=(k:Int)) (s:=(gC 12 (VD r').2).1) (nt:=nt) (T:=T) (outs:=outs) (v:=v) (pre:=pre) (post:=f) (fr:=e.1) (br:=(VD r').1) (sec:=e.2.2.2) (r:=(gC 12 (VD r').2).2) (by omega) (by omega) (by omega);have Q:=uj A;rw[yX (by rw[yN];exact hs),G,ya];dsimp only;rw[kN I,ya,yW (yY (by omega)),Zp (by omega)];refine⟨_,rfl,_,_,_,rfl,by omega,by simp[z],by simp;omega, ?_, ?_⟩
   .rw[<-h];simp
   .rw[AC];refine l.trans ?_;unfold fz;dsimp only;rw[M];exact(uq r').trans ((PI _ (by omega)).trans (e4.trans (PF A)))
 .rintro _ ⟨pre,f,r',rfl,j,z,g,h,l⟩
  cases f with
  |cons e f=>rw[yah]at g;omega
  |nil=>
   unfold Vr;dsimp only;rw[yX (by rw[ZN];decide)];rw[yba]at h;exact⟨_,rfl,.inr ⟨_,_,rfl,j,h,l⟩⟩
def ur(t:Tx):Prop:=lH yD t=ab ae/\oO t/\mV t
theorem ZED{b:yL yB}(hb:b.length<=2000000):∃t ok,oH yD b=ab (t,ok)/\(ok=ae->ur t/\kK t=b)/\(ok=af->t=([],[],0)):=by
 unfold oH;have F:=PG (m:=64) (by omega) (b,af);dsimp only at F;rw[AB hb,ya,qA (by dsimp only;omega),ya];have G:=PI (m:=64) (b,af);generalize gC 64 (b,af)=q at F G;obtain⟨n,r0⟩:=q;dsimp only at F G ⊢;obtain⟨v,f,I,h1,h2,h3,h4,h5⟩:=ZOV (n0:=n) (n:=n) (nt:=0) (T:=(([]:yL In),([]:yL Out),(0:Int))) (r:=r0) (by omega) (by omega);have B:=PG (m:=64) (by omega) I;rw[h1,ya];dsimp only;rw[qA h2,ya];have M:=PI (m:=64) I;generalize gC 64 I=q at B M;obtain⟨m,r2⟩:=q;dsimp only at B M ⊢;obtain⟨x,q1,Q⟩:=ZMt (n0:=n) (m0:=m) (m:=m) (nt:=0) (T:=(([]:yL In),([]:yL Out),(0:Int))) (v:=v) (ins:=f) (r:=r2) (by omega) (by omega);rw[q1,ya];rcases Q with⟨y,rfl⟩|⟨outs,R,rfl,Q,q3,q4,q5⟩
 .exact⟨_,_,rfl,λh=>(by cases h),λ_=>rfl⟩
 dsimp only;have j:=jZ R;have l:=uq R;rw[Qv Q,ya,ycn,yax];generalize VD R=q at j l;obtain⟨g,r4⟩:=q;dsimp only at j l ⊢;obtain⟨z,p1,p2⟩:=ZMv (n0:=n) (m0:=m) (nt:=g) (T:=(([]:yL In),([]:yL Out),(0:Int))) (outs:=outs) (v:=v) (ins:=f) (r:=r4) (by omega) (by omega);rw[p1,ya];rcases p2 with⟨y,rfl⟩|⟨A,S,rfl,p2,U,p4⟩
 .exact⟨_,_,rfl,λh=>(by cases h),λ_=>rfl⟩
 dsimp only;rw[yW (by rfl)];unfold xY QZ
 have W:A.length=f.length:=by
  have:=congrArg List.length U
  rwa [yaa,yaa]at this
 have X:∀o,o∈outs->dE o.2:=λo ho=>by
  obtain⟨g1,E,g3⟩:=q4 o ho;exact⟨by omega,λb hb=>by have:=(g3 b hb).1;omega⟩
 obtain⟨k,hk,_,Y⟩:=PA (t:=(A,outs,g)) ⟨by dsimp only;omega,by dsimp only;omega,X⟩;rw[ya,ya,hk,ya];by_cases c1:n < 0
 .rw[yW (yY c1)];exact⟨_,_,rfl,λh=>(by cases h),λ_=>rfl⟩
 rw[yX (by rw[yN];exact c1)];by_cases c2:m < 0
 .rw[yW (yY c2)];exact⟨_,_,rfl,λh=>(by cases h),λ_=>rfl⟩
 rw[yX (by rw[yN];exact c2)]
 cases c3:S.2 with
 |true=>
  rw[yW (by rfl)]
  exact⟨_,_,rfl,λh=>(by cases h),λ_=>rfl⟩
 |false=>
  rw[yX (by simp)];by_cases c4:(S.1.length:Int) > 0
  .rw[yW (yY c4)];exact⟨_,_,rfl,λh=>(by cases h),λ_=>rfl⟩
  rw[yX (by rw[yN];exact c4)]
  cases k with
  |false=>
   rw[yW (by decide)]
   exact⟨_,_,rfl,λh=>(by cases h),λ_=>rfl⟩
  |true=>
   rw[yX (by decide)];refine⟨_,_,rfl,λ_=>⟨⟨hk,Y rfl,⟨λx hx=> ?_,j.2.1⟩⟩, ?_⟩,λh=>by cases h⟩
   .have Z:x.1∈f.map (λx=>x.1):=by
     rw[<-U];exact ybx.2 ⟨x,hx,rfl⟩
    obtain⟨y,hy,hyx⟩:=ybx.1 Z;rw[<-hyx];exact h4 y hy
   .obtain⟨g1,E⟩:=((G (by omega)).trans (h5.trans ((M (by omega)).trans (q5.trans (l.trans p4))))) c3;have h0:S.1=[]:=List.eq_nil_of_length_eq_zero (by omega);rw[h0,yba]at E;dsimp only at E
    have e:∀a:yL In,bn eE a=((a.map λx=>x.1).map λp:ZO=>p.1++Yz p.2.toNat).flatten:=λa=>by
     unfold bn
     rw[List.map_map];rfl
    rw[E];unfold kK iM;dsimp only;rw[e A,e f,U,W,h3,q3];simp only[yab]
def AD(x:In):In:=(x.1,(0,[],0))
theorem ZKt{n0 nt:Int}{T:Tx}{ins:yL In}{yK:yL yB}(y:ins.length<=64)(j:∀x,x∈ins->x.1.1.length=32)(g:∀x,x∈ins->tZ x)(F:yK.length<=100000):
 Zd (Vo yD) yD (n0,(ins.length:Int),(0:Int),T,nt,([]:yL Out),([]:yL Unit),([]:yL In),([]:yL In),(bn eE ins++yK,af))=ab (n0,T,nt,([]:yL Out),yx ins.length (),([]:yL In),ins.map AD,(yK,af)):=by
 refine ZA ins.length (λk:Nat=>(n0,(ins.length:Int),(k:Int),T,nt,([]:yL Out),yx k (),([]:yL In),(ins.take k).map AD,(bn eE (ins.drop k)++yK,af))) ?_ ?_ (by omega)
 .intro k z;obtain⟨e,A,B⟩:=Zi z;have G:=XL (f:=eE) (c:=41) (λx h=>zu (j x h) (g x h)) y k;have l:=XL (f:=eE) (c:=41) (λx h=>zu (j x h) (g x h)) y (k+1);obtain⟨E,I,_⟩:=g e B;have M:=ZG (n:=e.1.2.toNat) (by omega);have m:=j e B;unfold Vo;dsimp only;rw[yW (Zw z),ZCM (by simp only[yl];omega),ya,up A];unfold eE at l ⊢;rw[yab,yab,ZKk m];dsimp only;rw[Qv (by simp only[yl];omega),ya,kO E (by omega),yW (ZT (by simp;omega) (by simp;omega)),Zp (by omega),Wu A,yat];rfl
 .unfold Vo;dsimp only;rw[yX (by rw[ZN];decide),List.drop_length,yal];rfl
theorem ZHt{n0 m0 nt:Int}{T:Tx}{v:yL Unit}{ins:yL In}{outs:yL Out}{yK:yL yB}(l:outs.length<=64)(g:∀x,x∈outs->OO x)(G:yK.length<=100000):
 Zd (Vp yD) yD (n0,m0,(outs.length:Int),(0:Int),T,nt,([]:yL Out),v,([]:yL In),ins,(bn fu outs++yK,af))=ab (.inr (n0,m0,T,nt,outs,v,([]:yL In),ins,(yK,af))):=by
 refine ZA outs.length (λk:Nat=>(n0,m0,(outs.length:Int),(k:Int),T,nt,outs.take k,v,([]:yL In),ins,(bn fu (outs.drop k)++yK,af))) ?_ ?_ (by omega)
 .intro k m;obtain⟨e,y,A⟩:=Zi m;have I:=XL (f:=fu) (c:=551) (λx h=>zw (g x h)) l k;have j:=XL (f:=fu) (c:=551) (λx h=>zw (g x h)) l (k+1);obtain⟨B,M,z,E⟩:=g e A;have F:=qx z;have Q:=ZG (n:=e.1.toNat) (by omega);have R:=ZG (n:=(gk e.2).length) (by omega);unfold Vp;dsimp only;rw[yW (Zw m),Qv (by simp only[yl];omega),ya,up y];unfold fu at j ⊢;simp only[yab];rw[kO B (by omega)];dsimp only;rw[ZCN (by simp only[yl];omega),ya,ZHo (by omega)];dsimp only;rw[Zyr z E,ya];dsimp only;rw[yX (by decide),yW (ZT (by rw[yac];omega) (by rw[yac];omega)),Zp (by omega),Wu y]
 .unfold Vp;dsimp only;rw[yX (by rw[ZN];decide),List.drop_length,yal];rfl
theorem ZHu{n0 m0 len i nt:Int}{T:Tx}{outs:yL Out}{v:yL Unit}{pre post:yL In}{fr:ZO}{br:Int}{sec:yU}{l:yL gi}{yK:yL yB}(hs:l.length<=12)(y:yK.length<=100000):
 Zd (Vq yD) yD (n0,m0,((pre.length:Nat):Int),len,i,(l.length:Int),(0:Int),T,nt,outs,v,pre,post,fr,br,sec,(bn fR l++yK,af),([]:yL gi))=ab (n0,m0,((pre.length:Nat):Int),len,i,T,nt,outs,v,pre,post,fr,br,sec,(yK,af),l):=by
 refine ZA l.length (λk:Nat=>(n0,m0,((pre.length:Nat):Int),len,i,(l.length:Int),(k:Int),T,nt,outs,v,pre,post,fr,br,sec,(bn fR (l.drop k)++yK,af),l.take k)) ?_ ?_ (by omega)
 .intro k j;obtain⟨e,m,z⟩:=Zi j;have g:∀x,x∈l->(fR x).length<=16:=λx _=>by unfold fR;rw[yl,Y3,Y3];exact ym _
  have A:=XL (f:=fR) (c:=16) g hs k;have h:=XL (f:=fR) (c:=16) g hs (k+1);have B:=Y3 e.2.toNat
  unfold Vq;dsimp only;rw[yW (Zw j),yW (yY (yau _)),kN (by simp only[yl];omega),ya,up m];unfold fR at h ⊢;rw[yab,yab,uk];dsimp only;rw[kN (by simp only[yl];omega),ya,uk,yW (ZT (by rw[yac];omega) (by rw[yac];omega)),yW (yY (yau _)),Zp (by omega),Wu m,yau]
 .unfold Vq;dsimp only;rw[yX (by rw[ZN];decide),List.drop_length,yal,yau];rfl
theorem ZHv{n0 m0 nt:Int}{T:Tx}{outs:yL Out}{v:yL Unit}{ins:yL In}(A:ins.length<=64)(g:∀x,x∈ins->tZ x):
 Zd (Vr yD) yD (n0,m0,((ins.length:Nat):Int),(0:Int),T,nt,outs,v,([]:yL In),ins.map AD,(bn fz ins,af))=ab (.inr (n0,m0,T,nt,outs,v,ins,([]:yL In),([],af))):=by
 refine ZA ins.length (λk:Nat=>(n0,m0,((ins.length:Nat):Int),(k:Int),T,nt,outs,v,ins.take k,(ins.drop k).map AD,(bn fz (ins.drop k),af))) ?_ ?_ (by omega)
 .intro k B;obtain⟨e,h,F⟩:=Zi B;have Q:=XL (f:=fz) (c:=218) (λx j=>zx (g x j)) A k;have l:=XL (f:=fz) (c:=218) (λx j=>zx (g x j)) A (k+1);obtain⟨_,_,G,R,E⟩:=g e F;have hs:=V4 (f:=fR) (c:=16) (λs _=>by unfold fR;rw[yl,Y3,Y3];exact ym _) E e.2.2.1.length;rw[yal]at hs;have S:=ZG (n:=e.2.1.toNat) (by omega);have U:=ZG (n:=e.2.2.1.length) (by omega);have W:=Y3 e.2.2.2.toNat
  have I:(ins.take k).length=k:=by rw[yac];omega
  unfold Vr;dsimp only;rw[yW (Zw B),yW (yY (by omega)),uo h,List.map_cons];dsimp only[wJ];rw[yW (Wy (by omega) (by rw[yaa,List.length_drop,I];omega)),Qv (by rw[<-uo h];dsimp only;omega),ya,yW (yY (by omega)),OP];unfold fz at l ⊢;simp only[yab];rw[kO G (by omega)];dsimp only;rw[qA (by simp only[yl];omega),ya];have y:=PH (m:=12) (z:=(e.2.2.1.length:Int)) (by omega) (by omega) (by omega) (bn fR e.2.2.1++(fa e.2.2.2.toNat++bn fz (ins.drop (k+1))));rw[yau]at y;unfold fz at y;rw[y];dsimp only;rw[yX (cZ (by omega))];have M:(((k:Int).toNat:Nat):Int)=(((ins.take k).length:Nat):Int):=by omega
  rw[M,ZHu E (by simp only[yl];omega),ya];dsimp only;rw[kN (by simp only[yl];omega),ya,uk,yW (yY (by omega)),Zp (by omega),Wu h];rfl
 .unfold Vr;dsimp only;rw[yX (by rw[ZN];decide),List.drop_length,yal];rfl
theorem ZMw{t:Tx}(g:mV t)(h:oO t):(kK t).length<=60000:=by
 have m:=(OT g h).2;have j:=V4 (f:=fz) (c:=218) (λx l=>zx (h.2.2.2.2.1 x l)) h.2.1 t.1.length;rw[yal]at j;unfold kK;rw[yl];omega
theorem ZMx{t:Tx}(Q:ur t):oH yD (kK t)=ab (t,ae):=by
 obtain⟨R,h,y⟩:=Q;have A:=ZMw y h;obtain⟨f,outs,g⟩:=t;obtain⟨w2,B⟩:=y;obtain⟨S,j,E,F,l,G⟩:=h;dsimp only at w2 B S j E F l G;unfold oH;rw[AB (by omega),ya,qA (by dsimp only;omega),ya];unfold kK iM at A ⊢;simp only[yab,yl]at A ⊢;have I:=PH (m:=64) (z:=(f.length:Int)) (by omega) (by omega) (by omega) (bn eE f++(Yz outs.length++(bn fu outs++(Yz g.toNat++bn fz f))));rw[yau]at I;rw[I];dsimp only;rw[ZKt j w2 l (by simp only[yl];omega),ya];dsimp only;have M:=PH (m:=64) (z:=(outs.length:Int)) (by omega) (by omega) (by omega) (bn fu outs++(Yz g.toNat++bn fz f));rw[yau]at M;rw[qA (by simp only[yl];omega),ya,M];dsimp only;rw[ZHt E G (by simp only[yl];omega),ya];dsimp only;rw[Qv (by simp only[yl];omega),ya,kO F B,ycn,yax,yaa];dsimp only;rw[ZHv j l,ya];dsimp only;rw[yW List.isEmpty_nil,yX (cZ (by omega)),yX (cZ (by omega))];unfold xY QZ;rw[ya,yX (by decide),ya,yX (by decide),R,ya,yX (by decide)]
open Classical in
theorem ZHw{w:WK}(hl:w.2.1.length<=1000000):W8 yD w w=ab ae:=by
 unfold W8
 have q:=ZA (step:=Yw yD) w.2.1.length (λk:Nat=>((k:Int),w,w)) (x:=.inr (w,w)) (by
  intro k f;obtain⟨e,g,_⟩:=Zi f;unfold Yw;dsimp only;rw[yW (Zw f),Zl g,ya,ya,yX (by simp),Zp (by omega)]) (by
  unfold Yw;dsimp only;rw[yX (by rw[ZN];decide)]) (by omega)
 have q:Zd (Yw yD) yD ((0:Int),w,w)=_:=q;rw[yX (by simp),yX (by simp),yX (by simp),q,ya]
theorem ZEE{l:ZC}(hl:l.length<=1000000)(h:∀b,b∈l->b.1.length<=1000000):Qu yD l l=ab ae:=by
 unfold Qu
 have q:=ZA (step:=Xa yD) l.length (λk:Nat=>((k:Int),l,l)) (x:=.inr (l,l)) (by
  intro k f;obtain⟨e,m,y⟩:=Zi f;have A:=h e y
  have p:=ZA (step:=Y9 yD) e.1.length (λj:Nat=>((k:Int),(j:Int),l,l,e,e)) (x:=.inr ((k:Int),l,l,e,e)) (by
   intro j g;obtain⟨d,z,_⟩:=Zi g;unfold Y9;dsimp only;rw[yW (Zw g),Zl z,ya,ya,yX (by simp),Zp (by omega)]) (by
   unfold Y9;dsimp only;rw[yX (by rw[ZN];decide)]) (by omega)
  have p:Zd (Y9 yD) yD ((k:Int),(0:Int),l,l,e,e)=_:=p;unfold Xa;dsimp only;rw[yW (Zw f),Zl m,ya,ya,yX (by simp),yX (by simp),yX (by simp),yX (by simp),p,ya];dsimp only;rw[Zp (by omega)]) (by
  unfold Xa;dsimp only;rw[yX (by rw[ZN];decide)]) (by omega)
 have q:Zd (Xa yD) yD ((0:Int),l,l)=_:=q;rw[yX (by simp),q,ya]
theorem Zwq{t:Tx}(h1:t.1.length<=1000000)(h2:t.2.1.length<=1000000)(h3:∀x,x∈t.1->x.2.2.1.length<=1000000)(h4:∀o,o∈t.2.1->o.2.length<=1000000/\∀b,b∈o.2->b.1.length<=1000000):X9 yD t t=ab ae:=by
 unfold X9
 have q:=ZA (step:=Xb yD) t.1.length (λk:Nat=>((k:Int),t,t)) (x:=.inr (t,t)) (by
  intro k f;obtain⟨e,g,h⟩:=Zi f;unfold Xb;dsimp only;rw[yW (Zw f),Zl g,ya,ya,yX (by simp),ya,ya,ZHw (h3 e h),ya,yX (by decide),Zp (by omega)]) (by
  unfold Xb;dsimp only;rw[yX (by rw[ZN];decide)]) (by omega)
 have q:Zd (Xb yD) yD ((0:Int),t,t)=_:=q
 have p:=ZA (step:=Xc yD) t.2.1.length (λk:Nat=>((k:Int),t,t)) (x:=.inr (t,t)) (by
  intro k f;obtain⟨e,g,h⟩:=Zi f;obtain⟨j,l⟩:=h4 e h;unfold Xc;dsimp only;rw[yW (Zw f),Zl g,ya,ya,yX (by simp),ya,ya,ZEE j l,ya,yX (by decide),Zp (by omega)]) (by
  unfold Xc;dsimp only;rw[yX (by rw[ZN];decide)]) (by omega)
 have p:Zd (Xc yD) yD ((0:Int),t,t)=_:=p;rw[yX (by simp),yX (by simp),yX (by simp),q,ya];dsimp only;rw[p,ya]
theorem uu{I X:Type}{step:I->yO (I⊕X)}{a:I}{x:X}(h1:step a=ab (.inr x)):Zd step yD a=ab x:=by
 rw[iI,show(18446744073709551616:Nat)=18446744073709551613+1+1+1 from rfl,Zd,h1]
 rfl
theorem AE{I X:Type}{step:I->yO (I⊕X)}{a b:I}{x:X}(h1:step a=ab (.inl b))(h2:step b=ab (.inr x)):Zd step yD a=ab x:=by
 rw[iI,show(18446744073709551616:Nat)=18446744073709551613+1+1+1 from rfl,Zd,h1,ya]
 dsimp only;rw[Zd,h2];rfl
theorem oR{I X:Type}{step:I->yO (I⊕X)}{a b c:I}{x:X}(h1:step a=ab (.inl b))(h2:step b=ab (.inl c))(h3:step c=ab (.inr x)):Zd step yD a=ab x:=by
 rw[iI,show(18446744073709551616:Nat)=18446744073709551613+1+1+1 from rfl,Zd,h1,ya]
 dsimp only;rw[Zd,h2,ya];dsimp only;rw[Zd,h3];rfl
def iO(z:Int)(l:yL Yo):Int:=l.foldl (λa c=>wi (a+c.2)) z
def iP(z:Int)(l:yL Out):Int:=l.foldl (λa c=>wi (a - c.1)) z
theorem ZKu{z:Int}{l:yL Yo}{k:Nat}{c:Yo}(h:l[k]? =ab c):iO z (l.take (k+1))=wi (iO z (l.take k)+c.2):=by
 rw[Wu h,iO,List.foldl_append];rfl
theorem ZKv{z:Int}{l:yL Out}{k:Nat}{c:Out}(h:l[k]? =ab c):iP z (l.take (k+1))=wi (iP z (l.take k) - c.1):=by
 rw[Wu h,iP,List.foldl_append];rfl
def gD(l:yL Yo):Int:=(l.map λc=>c.2).sum
def kP(l:yL Out):Int:=(l.map λc=>c.1).sum
theorem ZFY:∀(l:yL Yo)(z:Int),(∀c,c∈l->1<=c.2/\c.2<=1099511627776)->l.length<=8-> -9007199254740992<=z->z+l.length*1099511627776<=9007199254740992->iO z l=z+gD l/\0<=gD l/\gD l<=l.length*1099511627776
 |[],z,_,_,_,_=>by simp[iO,gD]
 |c::l,z,h,f,y,g=>by
  have A:=h c List.mem_cons_self;have j:l.length+1<=8:=f;rw[yah]at g;have e:iO z (c::l)=iO (wi (z+c.2)) l:=rfl;have w:wi (z+c.2)=z+c.2:=ZY (by omega) (by omega);obtain⟨B,E,F⟩:=ZFY l (z+c.2) (λx m=>h x (List.mem_cons_of_mem _ m)) (by omega) (by omega) (by omega);have s:gD (c::l)=c.2+gD l:=by simp[gD]
  grind
theorem ZFZ:∀(l:yL Out)(z:Int),(∀c,c∈l->0<=c.1/\c.1<=1099511627776)->l.length<=8->z<=9007199254740992-> -9007199254740992<=z - l.length*1099511627776->iP z l=z - kP l/\0<=kP l/\kP l<=l.length*1099511627776
 |[],z,_,_,_,_=>by simp[iP,kP]
 |c::l,z,h,f,y,g=>by
  have A:=h c List.mem_cons_self;have j:l.length+1<=8:=f;rw[yah]at g;have e:iP z (c::l)=iP (wi (z - c.1)) l:=rfl;have w:wi (z - c.1)=z - c.1:=ZY (by omega) (by omega);obtain⟨B,E,F⟩:=ZFZ l (z - c.1) (λx m=>h x (List.mem_cons_of_mem _ m)) (by omega) (by omega) (by omega);have s:kP (c::l)=c.1+kP l:=by simp[kP]
  grind
def gE(c:Yo):Prop:=1<=c.2/\c.2<=1099511627776
def eG(o:Out):Prop:=(0<=o.1/\o.1<=1099511627776)/\Vb o.2/\gK o.2
structure aP(x:ah):Prop where
 n1:x.1.length<=8
 n2:x.2.1.length<=8
 AF:0<=x.2.2/\x.2.2<=1099511627776
 ins:bz x.1.length λk=>∀c,x.1[k]? =ab c->gE c
 outs:bz x.2.1.length λk=>∀c,x.2.1[k]? =ab c->eG c
theorem aP.uv{x:ah}(h:aP x):∀c,c∈x.1->1<=c.2/\c.2<=1099511627776:=λc g=>by
 obtain⟨j,f,l⟩:=ybi g;exact h.ins j f c (by rw[yad f,l])
theorem aP.gX{x:ah}(h:aP x):∀c,c∈x.2.1->eG c:=λc g=>by
 obtain⟨j,f,l⟩:=ybi g;exact h.outs j f c (by rw[yad f,l])
def bO(x:ah):Int:=gD x.1 - x.2.2 - kP x.2.1
theorem PJ{x:ah}(h:aP x):iO (wi (0 - x.2.2)) x.1=gD x.1 - x.2.2/\iP (gD x.1 - x.2.2) x.2.1=bO x/\0<=gD x.1/\gD x.1<=8796093022208/\0<=kP x.2.1/\kP x.2.1<=8796093022208:=by
 have f:=h.AF;have g:=h.n1;have j:=h.n2;have w:wi (0 - x.2.2)=0 - x.2.2:=ZY (by omega) (by omega);obtain⟨l,m,B⟩:=ZFY x.1 (0 - x.2.2) h.uv g (by omega) (by omega);obtain⟨y,z,E⟩:=ZFZ x.2.1 (gD x.1 - x.2.2) (λc A=>(h.gX c A).1) j (by omega) (by omega);rw[w,l];refine⟨by omega, ?_,m,by omega,z,by omega⟩;rw[y];rfl
theorem ZKw{x:ah}(h:aP x): -9895604649984<=bO x/\bO x<=8796093022208:=by
 obtain⟨_,_,a,b,c,d⟩:=PJ h;have f:=h.AF;unfold bO;omega
theorem uw(n f:Int):XS yD n f=ab (ag (f<=n/\n<=1099511627776)):=lP _ _ rfl
theorem ux(n a b:Int):V2 yD n a b=ab (ag (a<=n/\n<=b)):=lP _ _ rfl
open Classical in
theorem ZKx(x:ah)(hl:x.1.length<=8)(z:Int):Zd (YP yD) yD (z,x.1,(x.1.length:Int),(0:Int),x)=
 ab (if bz x.1.length (λk=>∀c,x.1[k]? =ab c->gE c) then .inr (iO z x.1,x) else .inl (0,af,x)):=by
 refine kL x.1.length (λk:Nat=>(iO z (x.1.take k),x.1,(x.1.length:Int),(k:Int),x)) _ _ _ (λk g h=> ?_) (λk g h=> ?_) ?_ (by omega)
 .obtain⟨c,f,l⟩:=Zi g;unfold YP;dsimp only;rw[yW (Zw g),Zl f,ya,uw,ya,yY (show 1<=c.2/\c.2<=1099511627776 from h c f),yX (by decide),Zp (by omega),ZKu f]
 .obtain⟨c,f,l⟩:=Zi g
  have m:¬(1<=c.2/\c.2<=1099511627776):=λq=>h λy j=>by
   rw[f]at j;cases j;exact q
  unfold YP;dsimp only;rw[yW (Zw g),Zl f,ya,uw,ya,yZ m,yW (by decide)]
 .unfold YP;grind
def cC(x:ah):Prop:=∀o,o∈x.2.1->dE o.2
open Classical in
theorem ZHx(x:ah)(hl:x.2.1.length<=8)(y:cC x)(z:Int):Zd (YQ yD) yD (z,x.2.1,(x.2.1.length:Int),(0:Int),x)=
 ab (if bz x.2.1.length (λk=>∀c,x.2.1[k]? =ab c->eG c) then .inr (iP z x.2.1,x) else .inl (0,af,x)):=by
 refine kL x.2.1.length (λk:Nat=>(iP z (x.2.1.take k),x.2.1,(x.2.1.length:Int),(k:Int),x)) _ _ _ (λk g h=> ?_) (λk g h=> ?_) ?_ (by omega)
 .obtain⟨c,f,j⟩:=Zi g;obtain⟨b,l,m⟩:=ud (y c j);have A:=h c f;have B:b=ae:=m.2 A.2;subst B;unfold YQ;dsimp only;rw[yW (Zw g),Zl f,ya,uw,ya,yY A.1,yX (by decide),l,ya,yX (by decide),Zp (by omega),ZKv f]
 .obtain⟨c,f,j⟩:=Zi g;obtain⟨b,l,m⟩:=ud (y c j);unfold YQ;dsimp only;rw[yW (Zw g),Zl f,ya,uw,ya];by_cases q:0<=c.1/\c.1<=1099511627776
  .rw[yY q,yX (by decide),l,ya]
   have B:b=af:=by
    cases b with
    |false=>rfl
    |true=>exact absurd (λF E=>by
      rw[f]at E;cases E;exact⟨q,m.1 rfl⟩) h
   grind
  grind
 .unfold YQ;grind
open Classical in
theorem Zyt{x:ah}(y:cC x):WE yD x=ab (if aP x then(bO x,ae) else(0,af)):=by
 unfold WE;by_cases j:x.1.length<=8
 .rw[yX (cZ (by omega))];by_cases l:x.2.1.length<=8
  .rw[yX (cZ (by omega)),uw,ya];by_cases f:0<=x.2.2/\x.2.2<=1099511627776
   .rw[yY f,yX (by decide),ZKx x j,ya];by_cases g:bz x.1.length (λk=>∀c,x.1[k]? =ab c->gE c)
    .rw[yW g];dsimp only;rw[ZHx x l y,ya];by_cases h:bz x.2.1.length (λk=>∀c,x.2.1[k]? =ab c->eG c)
     .have m:aP x:=⟨j,l,f,g,h⟩;obtain⟨z,A,_⟩:=PJ m;rw[yW h,yW m];dsimp only;rw[z,A]
     .rw[yX h,yX λq:aP x=>h q.outs]
    .rw[yX g,yX λq:aP x=>g q.ins]
   .rw[yZ f,yW (by decide),yX λq:aP x=>f q.AF]
  .rw[yW (yY (by omega)),yX λq:aP x=>l q.n2]
 .rw[yW (yY (by omega)),yX λq:aP x=>j q.n1]
open Classical in
theorem ZCQ(x:ah)(hl:x.1.length<=8):Zd (Xt yD) yD ((0:Int),x)=ab (if bz x.1.length (λk=>∀c,x.1[k]? =ab c->gE c) then .inr x else .inl (af,x)):=by
 refine kL x.1.length (λk:Nat=>((k:Int),x)) _ _ _ (λk f h=> ?_) (λk f h=> ?_) ?_ (by omega)
 .obtain⟨c,g,l⟩:=Zi f;unfold Xt;dsimp only;rw[yW (Zw f),Zl g,ya,ux,ya,yY (show 1<=c.2/\c.2<=1099511627776 from h c g),yX (by decide),Zp (by omega)]
 .obtain⟨c,g,l⟩:=Zi f
  have m:¬(1<=c.2/\c.2<=1099511627776):=λq=>h λy j=>by
   rw[g]at j;cases j;exact q
  unfold Xt;dsimp only;rw[yW (Zw f),Zl g,ya,ux,ya,yZ m,yW (by decide)]
 .unfold Xt;grind
open Classical in
theorem ZAw(x:ah)(hl:x.2.1.length<=8)(y:cC x):Zd (Xu yD) yD ((0:Int),x)=ab (if bz x.2.1.length (λk=>∀c,x.2.1[k]? =ab c->eG c) then .inr x else .inl (af,x)):=by
 refine kL x.2.1.length (λk:Nat=>((k:Int),x)) _ _ _ (λk f h=> ?_) (λk f h=> ?_) ?_ (by omega)
 .obtain⟨c,g,j⟩:=Zi f;obtain⟨b,l,m⟩:=ue (y c j);have z:=h c g;have A:b=ae:=m.2 z.2;subst A;unfold Xu;dsimp only;rw[yW (Zw f),Zl g,ya,ux,ya,yY z.1,yX (by decide),ya,l,ya,yX (by decide),Zp (by omega)]
 .obtain⟨c,g,j⟩:=Zi f;obtain⟨b,l,m⟩:=ue (y c j);unfold Xu;dsimp only;rw[yW (Zw f),Zl g,ya,ux,ya];by_cases q:0<=c.1/\c.1<=1099511627776
  .rw[yY q,yX (by decide),ya,l,ya]
   have A:b=af:=by
    cases b with
    |false=>rfl
    |true=>exact absurd (λE B=>by
      rw[g]at B;cases B;exact⟨q,m.1 rfl⟩) h
   grind
  grind
 .unfold Xu;grind
open Classical in
theorem ZKy{x:ah}(m:cC x):VA yD x=ab (ag (aP x)):=by
 unfold VA;by_cases j:x.1.length<=8
 .rw[yX (cZ (by omega))];by_cases l:x.2.1.length<=8
  .rw[yX (cZ (by omega)),ux,ya];by_cases f:0<=x.2.2/\x.2.2<=1099511627776
   .rw[yY f,yX (by decide),ZCQ x j,ya];by_cases g:bz x.1.length (λk=>∀c,x.1[k]? =ab c->gE c)
    .rw[yW g];dsimp only;rw[ZAw x l m,ya];by_cases h:bz x.2.1.length (λk=>∀c,x.2.1[k]? =ab c->eG c)
     .rw[yW h,yY (show aP x from⟨j,l,f,g,h⟩)]
     .rw[yX h,yZ λq:aP x=>h q.outs]
    .rw[yX g,yZ λq:aP x=>g q.ins]
   .rw[yZ f,yW (by decide),yZ λq:aP x=>f q.AF]
  .rw[yW (yY (by omega)),yZ λq:aP x=>l q.n2]
 .rw[yW (yY (by omega)),yZ λq:aP x=>j q.n1]
theorem Zws{x:ah}(ok:aP x):Wm yD x=ab (bO x):=by
 have m:=ok.n1;have y:=ok.n2;obtain⟨h,j,_⟩:=PJ ok;unfold Wm;rw[show((wi (0 - x.2.2),(0:Int),x):Int×Int×ah)=(λk:Nat=>(iO (wi (0 - x.2.2)) (x.1.take k),(k:Int),x)) 0 from rfl]
 rw[ZA (x:=(iO (wi (0 - x.2.2)) x.1,x)) x.1.length (λk:Nat=>(iO (wi (0 - x.2.2)) (x.1.take k),(k:Int),x)) ?_ ?_ (by omega),ya]
 .dsimp only;rw[h];rw[show((gD x.1 - x.2.2,(0:Int),x):Int×Int×ah)=(λk:Nat=>(iP (gD x.1 - x.2.2) (x.2.1.take k),(k:Int),x)) 0 from rfl]
  rw[ZA (x:=(iP (gD x.1 - x.2.2) x.2.1,x)) x.2.1.length (λk:Nat=>(iP (gD x.1 - x.2.2) (x.2.1.take k),(k:Int),x)) ?_ ?_ (by omega),ya]
  .rw[j]
  .intro k f;obtain⟨c,g,l⟩:=Zi f;unfold Wt;dsimp only;rw[yW (Zw f),Zl g,ya,Zp (by omega),ZKv g]
  .unfold Wt;grind
 .intro k f;obtain⟨c,g,l⟩:=Zi f;unfold Ws;dsimp only;rw[yW (Zw f),Zl g,ya,Zp (by omega),ZKu g]
 .unfold Ws;grind
open Classical in
theorem ZEG{x y:ah}(f:cC x)(g:cC y):xW yD [x,y]=ab (if aP x/\aP y then([bO x,bO y],ae) else([0,0],af)):=by
 unfold xW;have st:∀(i:Int)(d:yL Int),Xk yD ([x,y],i,[x,y],d)=if(ag (i < 2))=ae then(idx [x,y] i).bind λa=>(WE yD a).bind λb=>if(bi i 2)=ae then(d[i.toNat]?).bind λc=>if(!b.2)=ae then ab (.inr (.inl (af,[x,y],[0,0]))) else ab (.inl ([x,y],wi (i+1),[x,y],d.set i.toNat b.1)) else ad else ab (.inr (.inr ([x,y],d))):=λi d=>rfl
 have s0:Xk yD ([x,y],0,[x,y],[0,0])=if aP x then ab (.inl ([x,y],1,[x,y],[bO x,0])) else ab (.inr (.inl (af,[x,y],[0,0]))):=by
  rw[st,yW (by decide),show idx [x,y] 0=ab x from rfl,ya,Zyt f,ya,yW (by decide)]
  by_cases h:aP x
  .rw[yW h,yW h];rfl
  .rw[yX h,yX h];rfl
 have s1:Xk yD ([x,y],1,[x,y],[bO x,0])=if aP y then ab (.inl ([x,y],2,[x,y],[bO x,bO y])) else ab (.inr (.inl (af,[x,y],[0,0]))):=by
  rw[st,yW (by decide),show idx [x,y] 1=ab y from rfl,ya,Zyt g,ya,yW (by decide)]
  by_cases h:aP y
  .rw[yW h,yW h];rfl
  .rw[yX h,yX h];rfl
 have j:Xk yD ([x,y],2,[x,y],[bO x,bO y])=ab (.inr (.inr ([x,y],[bO x,bO y]))):=by
  grind
 have l:Zd (Xk yD) yD ([x,y],0,[x,y],[0,0])=ab (if aP x/\aP y then .inr ([x,y],[bO x,bO y]) else .inl (af,[x,y],[0,0])):=by
  by_cases h:aP x
  .rw[yW h]at s0;by_cases k:aP y
   .rw[yW k]at s1;rw[yW ⟨h,k⟩,oR s0 s1 j]
   .rw[yX k]at s1;rw[yX λq=>k q.2,AE s0 s1]
  .rw[yX h]at s0;rw[yX λq=>h q.1,uu s0]
 rw[l,ya];by_cases h:aP x/\aP y
 .rw[yW h,yW h]
 .rw[yX h,yX h]
end Go.Proofs.YtcbhhaigilifgaaGreat
end
section
set_option maxRecDepth 4000
namespace Go.Proofs.YtcbhhaigilifgaaGreat
open Go Go.Ev
open Classical in
theorem ZCR(t:Tx){k:Nat}{o:Out}(ho:t.2.1[k]? =ab o)(hl:o.2.length<=6):Zd (YR yD) yD ((k:Int),(0:Int),t)=ab (if bz o.2.length (λj=>∀b,o.2[j]? =ab b->b.1.length<=14) then .inr ((k:Int),t) else .inl (af,t)):=by
 refine kL o.2.length (λj:Nat=>((k:Int),(j:Int),t)) _ _ _ (λj f h=> ?_) (λj f h=> ?_) ?_ (by omega)
 .obtain⟨b,g,l⟩:=Zi f;have:=h b g;unfold YR;dsimp only;rw[Zl ho,ya,yW (Zw f),ya,Zl g,ya,yX (cZ (by omega)),Zp (by omega)]
 .obtain⟨b,g,l⟩:=Zi f
  have m:¬b.1.length<=14:=λq=>h λy z=>by
   grind
  unfold YR;dsimp only;rw[Zl ho,ya,yW (Zw f),ya,Zl g,ya,yW (yY (by omega))]
 .unfold YR;dsimp only;rw[Zl ho,ya,yX (by rw[ZN];decide)]
def PK(o:Out):Prop:=o.2.length<=6/\bz o.2.length (λj=>∀b,o.2[j]? =ab b->b.1.length<=14)
theorem ZKA(l:yL Out)(hl:l.length<=10):∃b,VN yD ([],l,0)=ab b/\(b=ae->∀o,o∈l->dE o.2):=by
 classical
 unfold VN;rw[yX (show¬(ag (((([],l,0):Tx).1.length:Int) > 66)=ae) by show¬(ag ((0:Int) > 66)=ae);decide),yX (by rw[yN];show¬((l.length:Int) > 66);omega)];have B:Zd (WN yD) yD ((0:Int),(([],l,0):Tx))=ab (.inr ([],l,0)):=uu (by unfold WN;rfl);rw[B,ya];dsimp only
 have m:=kL (step:=Yp yD) l.length (λk:Nat=>((k:Int),(([],l,0):Tx))) (λk=>∀o,l[k]? =ab o->PK o) (.inr ([],l,0)) (.inl (af,([],l,0))) (λk g h=>by
  obtain⟨o,f,E⟩:=Zi g;have hs:=h o f;unfold Yp;dsimp only;rw[yW (Zw g),Zl f,ya,yX (by rw[yN];have:=hs.1;omega),ZCR (([],l,0):Tx) f hs.1,ya,yW hs.2];dsimp only;rw[Zp (by omega)]) (λk g h=>by
  obtain⟨o,f,E⟩:=Zi g
  have F:¬PK o:=λq=>h λR S=>by
   grind
  unfold Yp;dsimp only;rw[yW (Zw g),Zl f,ya];by_cases y:o.2.length<=6
  .rw[yX (cZ (by omega)),ZCR (([],l,0):Tx) f y,ya,yX λq=>F ⟨y,q⟩]
  .rw[yW (yY (by omega))]) (by
  unfold Yp;dsimp only;rw[yX (by rw[ZN];decide)]) (by omega)
 have m:Zd (Yp yD) yD ((0:Int),(([],l,0):Tx))=_:=m;rw[m,ya];by_cases h:bz l.length (λk=>∀o,l[k]? =ab o->PK o)
 .rw[yW h];refine⟨ae,rfl,λ_ o f=> ?_⟩;obtain⟨j,z,G⟩:=ybi f;obtain⟨T,I⟩:=h j z o (by rw[yad z,G]);refine⟨by omega,λb M=> ?_⟩;obtain⟨i,A,Q⟩:=ybi M;have:=I i A b (by rw[yad A,Q]);omega
 simp_all
structure iQ(x:ah):Prop where
 n1:x.1.length<=10
 n2:x.2.1.length<=10
 wf:cC x
theorem ZCS(a:yL ah){i:Int}{x:ah}(g:ag (i < 2)=ae)(h1:bi i 2=ae)(h2:a[i.toNat]? =ab x):∃b:Bool,Yj yD (i,a)=ab (if b=ae then .inl (wi (i+1),a) else .inr (.inl (af,a)))/\(b=ae->iQ x):=by
 unfold Yj;dsimp only;rw[yW g,yW h1,h2,ya];by_cases j:x.1.length<=10
 .rw[yX (cZ (by omega)),yW h1,ya];by_cases f:x.2.1.length<=10
  .rw[yX (cZ (by omega)),yW h1,ya];obtain⟨b,l,m⟩:=ZKA x.2.1 f;rw[l,ya]
   cases b with
   |false=>exact⟨af,by rw[yW (by decide),yX (by decide)],λh=>by cases h⟩
   |true=>exact⟨ae,by rw[yX (by decide),yW rfl],λ_=>⟨j,f,m rfl⟩⟩
  .exact⟨af,by rw[yW (yY (by omega)),yX (by decide)],λh=>by cases h⟩
 .exact⟨af,by rw[yW (yY (by omega)),yX (by decide)],λh=>by cases h⟩
theorem ZOW(x y:ah):∃b,Q0 yD [x,y]=ab b/\(b=ae->iQ x/\iQ y):=by
 unfold Q0;obtain⟨b,f,j⟩:=ZCS [x,y] (i:=0) (x:=x) (by decide) (by decide) rfl;obtain⟨c,g,l⟩:=ZCS [x,y] (i:=1) (x:=y) (by decide) (by decide) rfl
 have e:Yj yD (2,[x,y])=ab (.inr (.inr [x,y])):=by
  unfold Yj;grind
 cases b with
 |false=>
  rw[yX (by decide)]at f
  exact⟨af,by rw[uu f,ya],λh=>by cases h⟩
 |true=>
  rw[yW rfl]at f;have f:Yj yD (0,[x,y])=ab (.inl (1,[x,y])):=f
  cases c with
  |false=>
   rw[yX (by decide)]at g
   exact⟨af,by rw[AE f g,ya],λh=>by cases h⟩
  |true=>
   rw[yW rfl]at g;have g:Yj yD (1,[x,y])=ab (.inl (2,[x,y])):=g;exact⟨ae,by rw[oR f g e,ya],λ_=>⟨j rfl,l rfl⟩⟩
theorem ZMy(a z o:yL ah){i:Int}{x:ah}(h1:bi i 2=ae)(h2:a[i.toNat]? =ab x)(hl:x.1.length<=10):Zd (YC yD) yD (i,(0:Int),a,z,o,([]:yL Yo))=ab (i,a,z,o,x.1):=by
 refine ZA (step:=YC yD) x.1.length (λk:Nat=>(i,(k:Int),a,z,o,x.1.take k)) (λk f=> ?_) ?_ (by omega)
 .obtain⟨c,g,h⟩:=Zi f;unfold YC;dsimp only;rw[yW h1,h2,ya,yW (Zw f),yW h1,ya,Zl g,ya,yW (ZT (by rw[yac];omega) (by rw[yac];omega)),Zp (by omega),Wu g]
 .unfold YC;grind
theorem Zyu(a z o:yL ah){i:Int}{x:ah}(f:ag (i < 2)=ae)(h1:bi i 2=ae)(h2:a[i.toNat]? =ab x)(h3:∃e,o[i.toNat]? =ab e)(hl:iQ x):
 YD yD (i,a,z,o)=ab (.inl (wi (i+1),a,z,o.set i.toNat x)):=by
 obtain⟨e,g⟩:=h3;have h:=hl.n1;have j:=hl.n2;unfold YD;dsimp only;rw[yW f,ZMy a z o h1 h2 h,ya];dsimp only;rw[yW h1,h2,ya,yW (ZT (by omega) (by omega)),yW h1,ya,yW h1,g,ya]
theorem ZHy{x y:ah}(f:iQ x)(g:iQ y):YL yD [x,y]=ab [x,y]:=by
 unfold YL;have s0:=Zyu [x,y] [([],[],0),([],[],0)] [([],[],0),([],[],0)] (i:=0) (x:=x) (by decide) (by decide) rfl ⟨_,rfl⟩ f;have s1:=Zyu [x,y] [([],[],0),([],[],0)] [x,([],[],0)] (i:=1) (x:=y) (by decide) (by decide) rfl ⟨_,rfl⟩ g
 have h:YD yD ((2:Int),[x,y],([([],[],0),([],[],0)]:yL ah),[x,y])=ab (.inr ([x,y],[([],[],0),([],[],0)],[x,y])):=by
  unfold YD;grind
 rw[oR s0 s1 h,ya]
def uz(s:yG)(a b m n:Int):yG:=(s.1,[wi (a+m),wi (b+n)],s.2.2.1,s.2.2.2)
theorem ZCT{s:yG}{a b:Int}(hs:s.2.1=[a,b])(hl:s.2.2.1.length<=1000)(m n:Int):ZP yD s [m,n]=ab (uz s a b m n):=by
 unfold ZP sZ;rw[hs];simp only[yav,yaq,List.set_cons_zero,List.set_cons_succ,ya];rw[yW (ZT (by omega) (by omega)),ya];rfl
theorem Zyv{s:yG}{a b:Int}(hs:s.2.1=[a,b])(hl:s.2.2.1.length<=1000)(m n:Int):WG yD s [m,n]=ab (uz s a b m n):=by
 unfold WG;rw[hs];simp only[yav,yaq,List.set_cons_zero,List.set_cons_succ,ya];rw[yW (ZT (by omega) (by omega))];rfl
theorem PL{s:yG}(hl:s.2.2.1.length<=1000):X8 yD s s=ab ae:=by
 unfold X8
 have q:=ZA (step:=XY yD) s.2.2.1.length (λk:Nat=>((k:Int),s,s)) (x:=.inr (s,s)) (by
  intro k f;obtain⟨e,g,h⟩:=Zi f;unfold XY;dsimp only;rw[yW (Zw f),Zl g,ya,ya,yX (by simp),Zp (by omega)]) (by
  unfold XY;dsimp only;rw[yX (by rw[ZN];decide)]) (by omega)
 grind
theorem ZEH{ins:yL In}(i1:ins.length<=70)(E:∀x,x∈ins->x.2.2.1.length<=12){outs:yL Out}(h1:outs.length<=70)(ho:∀o,o∈outs->Vb o.2)(f:Int):Qq yD (ins,outs,f)=ab (ins,outs,f):=by
 unfold Qq;dsimp only;generalize G:(([]:yL In),([]:yL Out),(0:Int))=z
 have l:=ZA (step:=Y6 yD) ins.length (λk:Nat=>((k:Int),(ins,outs,f),z,f,([]:yL Out),yx k (),ins.take k)) (x:=((ins,outs,f),z,f,([]:yL Out),yx ins.length (),ins)) (by
  intro k h;obtain⟨x,g,em⟩:=Zi h;have hs:=E x em;unfold Y6;dsimp only;rw[yW (Zw h),Zl g,ya,yW (ZT (by omega) (by omega)),yW (ZT (by rw[yac];omega) (by rw[yac];omega)),Zp (by omega),Wu g];rfl) (by
  unfold Y6;dsimp only;rw[yX (by rw[ZN];decide),yal]) (by omega)
 have l:Zd (Y6 yD) yD ((0:Int),(ins,outs,f),z,f,([]:yL Out),([]:yL Unit),([]:yL In))=_:=l;rw[l,ya];dsimp only;generalize yx ins.length ()=u
 have I:=ZA (step:=XU yD) outs.length (λk:Nat=>((k:Int),(ins,outs,f),z,f,outs.take k,u,ins)) (x:=((ins,outs,f),z,f,outs,u,ins)) (by
  intro k h;obtain⟨o,g,em⟩:=Zi h;obtain⟨M,Q,F⟩:=ho o em;unfold XU;dsimp only;rw[yW (Zw h),Zl g,ya]
  have m:=ZA (step:=Y8 yD) o.2.length (λj:Nat=>((k:Int),(j:Int),(ins,outs,f),z,f,outs.take k,u,ins,o.1,o.2.take j)) (x:=((k:Int),(ins,outs,f),z,f,outs.take k,u,ins,o.1,o.2)) (by
   intro j A;obtain⟨b,B,y⟩:=Zi A;obtain⟨R,_⟩:=F b y;unfold Y8;dsimp only;rw[Zl g,ya,yW (Zw A),ya,Zl B,ya,yW (ZT (by omega) (by omega)),yW (ZT (by rw[yac];omega) (by rw[yac];omega)),Zp (by omega),Wu B]) (by
   unfold Y8;dsimp only;rw[Zl g,ya,yX (by rw[ZN];decide),yal]) (by omega)
  have m:Zd (Y8 yD) yD ((k:Int),(0:Int),(ins,outs,f),z,f,outs.take k,u,ins,o.1,([]:yL ZW))=_:=m;rw[m,ya];dsimp only;rw[yW (ZT (by rw[yac];omega) (by rw[yac];omega)),Zp (by omega),Wu g]) (by
  unfold XU;dsimp only;rw[yX (by rw[ZN];decide),yal]) (by omega)
 grind
end Go.Proofs.YtcbhhaigilifgaaGreat
end
section
set_option maxRecDepth 4000
namespace Go.Proofs.YtcbhhaigilifgaaGreat
open Go Go.Ev
theorem ZKB{t:Tx}(M:mV t)(Q:lH yD t=ab ae)(h:oO t):qq yD t=ab (kK t):=by
 obtain⟨R,S⟩:=OT M h;unfold qq;rw[Q,ya,yX (by decide),R,ya];unfold kK;generalize iM t=m at S;obtain⟨g,outs,l⟩:=t;obtain⟨h1,z,h3,h4,y,h6⟩:=h;dsimp only at z y ⊢;have T:=λk=>V4 (f:=fz) (c:=218) (λx U=>zx (y x U)) z k
 rw[show(m,g,(g.length:Int),(0:Int),(g,outs,l))=(λk:Nat=>(m++bn fz (g.take k),g,(g.length:Int),(k:Int),(g,outs,l))) 0 by simp[bn],
  ZA (x:=(m++bn fz g,(g,outs,l))) g.length (λk:Nat=>(m++bn fz (g.take k),g,(g.length:Int),(k:Int),(g,outs,l))) ?_ ?_ (by omega),ya]
 .intro k A;obtain⟨e,B,W⟩:=Zi A;have X:=T k;obtain⟨_,_,Y,k2,E⟩:=y e W;have r1:=ZG (n:=e.2.1.toNat) (by omega);have r2:=ZG (n:=e.2.2.1.length) (by omega);unfold yA;dsimp only;rw[yW (Zw A),Zl B,ya,jW Y (by omega) (by rw[yl];omega),ya,jW (by omega) (by omega) (by simp only[yl];omega),ya,yau];generalize F:m++bn fz (g.take k)++Yz e.2.1.toNat++Yz e.2.2.1.length=q;have Z:q.length<=60000:=by rw[<-F];simp only[yl];omega
  rw[show(q,g,(g.length:Int),(k:Int),e.2.2.1,(e.2.2.1.length:Int),(0:Int),(g,outs,l),e)=(λj:Nat=>(q++bn fR (e.2.2.1.take j),g,(g.length:Int),(k:Int),e.2.2.1,(e.2.2.1.length:Int),(j:Int),(g,outs,l),e)) 0 by simp[bn],
   ZA (x:=(q++bn fR e.2.2.1,g,(g.length:Int),(k:Int),(g,outs,l),e)) e.2.2.1.length (λj:Nat=>(q++bn fR (e.2.2.1.take j),g,(g.length:Int),(k:Int),e.2.2.1,(e.2.2.1.length:Int),(j:Int),(g,outs,l),e)) ?_ ?_ (by omega),ya]
  .have hs:=OS E e.2.2.1.length;rw[yal]at hs;dsimp only;rw[tY _ (by rw[yl];omega),ya,Zp (by omega),QE B, <-F];unfold fz;grind
  .intro j G;obtain⟨f,I,_⟩:=Zi G;have hs:=OS E j;have hu:=Y3 f.1.toNat
   unfold xZ;dsimp only;rw[yW (Zw G),Zl I,ya,tY _ (by rw[yl];omega),ya,tY _ (by simp only[yl];omega),ya,Zp (by omega),QE I];unfold fR;grind
  .unfold xZ;grind
 .unfold yA;grind
def im(f:ZO):In:=(f,(0,[],0))
def WU(l:yL Yo):yL In:=l.map λc=>im c.1
def fG(f g:bp):ZC:=[([f.1,g.1],0,0,0)]
def iR(ch:Chan)(x y:ah):yL In:=im ch.1::(WU x.1++WU y.1)
def Qw(f g:bp)(m:Int)(x y:ah):yL Out:=(m,fG f g)::(x.2.1++y.2.1)
def dh(ch:Chan)(f g:bp)(m:Int)(x y:ah):Tx:=(iR ch x y,Qw f g m x y,0)
theorem Zyw{ch:Chan}{f g:bp}(hb:ch.2.2.1=[f,g]):QB yD ch=ab (fG f g)/\XT yD ch=ab (fG f g):=by
 unfold QB XT LK NP xV NO tK;rw[hb,yav,yaq,yav];simp only[ya];rw[yW (ZT (by simp) (by simp))];exact⟨rfl,rfl⟩
theorem ZCU{l:yL Yo}{k:Nat}{c:Yo}(h:l[k]? =ab c):WU (l.take (k+1))=WU (l.take k)++[im c.1]:=by
 rw[Wu h,WU,yat];rfl
theorem na(l:yL Yo):(WU l).length=l.length:=yaa _
theorem ZOX(ch:Chan)(a:yL ah)(z:Tx)(ins:yL In)(outs:yL Out)(n:Int){i:Int}{x:ah}(h1:bi i 2=ae)(h2:a[i.toNat]? =ab x)(hl:x.1.length<=10)(hi:ins.length<=20):
 Zd (YT yD) yD (i,(0:Int),ch,a,z,ins,outs,n)=ab (i,ch,a,z,ins++WU x.1,outs,n):=by
 rw[show((i,(0:Int),ch,a,z,ins,outs,n):Int×Int×Chan×yL ah×Tx×yL In×yL Out×Int)=(λk:Nat=>(i,(k:Int),ch,a,z,ins++WU (x.1.take k),outs,n)) 0 by simp[WU]];refine ZA (step:=YT yD) x.1.length (λk:Nat=>(i,(k:Int),ch,a,z,ins++WU (x.1.take k),outs,n)) (λk f=> ?_) ?_ (by omega)
 .obtain⟨c,g,h⟩:=Zi f;unfold YT;dsimp only;rw[yW h1,h2,ya,yW (Zw f),yW h1,ya,Zl g,ya,yW (ZT (by rw[yl,na,yac];omega) (by rw[yl,na,yac];omega)),Zp (by omega),ZCU g,yab];rfl
 .unfold YT;grind
theorem ZCV(ch:Chan)(a:yL ah)(z:Tx)(ins:yL In)(outs:yL Out)(n:Int){i:Int}{x:ah}(f:ag (i < 2)=ae)(h1:bi i 2=ae)(h2:a[i.toNat]? =ab x)(hl:x.1.length<=10)(hl2:x.2.1.length<=10)(hi:ins.length<=20)(ho:outs.length<=20):
 Yr yD (i,ch,a,z,ins,outs,n)=ab (.inl (wi (i+1),ch,a,z,ins++WU x.1,outs++x.2.1,n)):=by
 unfold Yr;dsimp only;rw[yW f,ZOX ch a z ins outs n h1 h2 hl hi,ya];dsimp only;rw[yW h1,h2,ya,yW (ZT (by omega) (by omega))]
theorem ZKC{ch:Chan}{f g:bp}(hb:ch.2.2.1=[f,g])(m:Int){x y:ah}(h:aP x)(j:aP y)(A:Vb (fG f g)):VR yD ch m [x,y]=ab (dh ch f g m x y):=by
 have G:=h.n1;have I:=h.n2;have y1:=j.n1;have M:=j.n2;unfold VR Qr;dsimp only;rw[(Zyw hb).2,ya,ya];have s0:=ZCV ch [x,y] ([],[],0) [im ch.1] [(m,fG f g)] 0 (i:=0) (x:=x) (by decide) (by decide) rfl (by omega) (by omega) (by simp) (by simp);have s1:=ZCV ch [x,y] ([],[],0) ([im ch.1]++WU x.1) ([(m,fG f g)]++x.2.1) 0 (i:=1) (x:=y) (by decide) (by decide) rfl (by omega) (by omega) (by rw[yl,na,ydb];omega) (by rw[yl,ydb];omega)
 have B:Yr yD ((2:Int),ch,[x,y],(([],[],0):Tx),[im ch.1]++WU x.1++WU y.1,[(m,fG f g)]++x.2.1++y.2.1,(0:Int))=ab (.inr (ch,[x,y],([],[],0),[im ch.1]++WU x.1++WU y.1,[(m,fG f g)]++x.2.1++y.2.1,0)):=by
  unfold Yr;grind
 have l:=oR s0 s1 B;have l:Zd (Yr yD) yD ((0:Int),ch,[x,y],(([],[],0):Tx),[((ch.1,(0,[],0)):In)],[((m,fG f g):Out)],(0:Int))=_:=l;rw[l,ya];dsimp only;have E:[im ch.1]++WU x.1++WU y.1=iR ch x y:=by simp[iR]
 have F:[(m,fG f g)]++x.2.1++y.2.1=Qw f g m x y:=by simp[Qw]
 rw[E,F,ZEH (by unfold iR;simp only[yah,yl,na];omega) (λi z=> ?_) (by unfold Qw;simp only[yah,yl];omega) (λo ho=> ?_)]
 .rfl
 .unfold iR WU at z;simp only[ycc,ycr,ybx]at z;rcases z with rfl|⟨c,_,rfl⟩|⟨c,_,rfl⟩ <;> simp[im]
 .unfold Qw at ho;simp only[ycc,ycr]at ho;rcases ho with rfl|ho|ho
  .exact A
  .exact(h.gX o ho).2.1
  .exact(j.gX o ho).2.1
theorem ZOY(a b:yL ah)(i:Int)(x:ah)(c:Chan)(s:yG)(f:Chan)(st:yG)(t0:Tx)(g:yL Int)(mv:yG)(h:Chan)(ins:yL In)(outs:yL Out)(n:Int)(hl:x.1.length<=10)(hi:ins.length<=20):
 Zd (Vd yD) yD (a,i,x.1,(x.1.length:Int),(0:Int),c,s,b,f,st,t0,g,mv,h,ins,outs,n,x)=ab (a,i,c,s,b,f,st,t0,g,mv,h,ins++WU x.1,outs,n,x):=by
 rw[show((a,i,x.1,(x.1.length:Int),(0:Int),c,s,b,f,st,t0,g,mv,h,ins,outs,n,x):LZ)=(λk:Nat=>(a,i,x.1,(x.1.length:Int),(k:Int),c,s,b,f,st,t0,g,mv,h,ins++WU (x.1.take k),outs,n,x)) 0 by simp[WU]];refine ZA (step:=Vd yD) x.1.length (λk:Nat=>(a,i,x.1,(x.1.length:Int),(k:Int),c,s,b,f,st,t0,g,mv,h,ins++WU (x.1.take k),outs,n,x)) (λk j=> ?_) ?_ (by omega)
 .obtain⟨e,l,m⟩:=Zi j;unfold Vd;dsimp only;rw[yW (Zw j),Zl l,ya,yW (ZT (by rw[yl,na,yac];omega) (by rw[yl,na,yac];omega)),Zp (by omega),ZCU l,yab];rfl
 .unfold Vd;grind
theorem ZCW(a b:yL ah)(c:Chan)(s:yG)(f:Chan)(st:yG)(t0:Tx)(g:yL Int)(mv:yG)(h:Chan)(ins:yL In)(outs:yL Out)(n:Int){i:Int}{x:ah}(j:ag (i < 2)=ae)(h2:idx a i=ab x)(hl:x.1.length<=10)(hl2:x.2.1.length<=10)(hi:ins.length<=20)(ho:outs.length<=20):
 WB yD (a,i,c,s,b,f,st,t0,g,mv,h,ins,outs,n)=ab (.inl (a,wi (i+1),c,s,b,f,st,t0,g,mv,h,ins++WU x.1,outs++x.2.1,n)):=by
 unfold WB;dsimp only;rw[yW j,h2,ya,ZOY a b i x c s f st t0 g mv h ins outs n hl hi,ya];dsimp only;rw[yW (ZT (by omega) (by omega))]
theorem ZKD(c:Chan)(s:yG)(h:Chan)(st:yG)(t0:Tx)(j:yL Int)(mv:yG)(z:Chan)(f g:bp)(m:Int){x y:ah}(A:aP x)(B:aP y):
 Zd (WB yD) yD ([x,y],(0:Int),c,s,[x,y],h,st,t0,j,mv,z,[((c.1,(0,[],0)):In)],[((m,fG f g):Out)],(0:Int))=ab (c,s,[x,y],h,st,t0,j,mv,z,iR c x y,Qw f g m x y,0):=by
 have I:=A.n1;have M:=A.n2;have y1:=B.n1;have Q:=B.n2;have s0:=ZCW [x,y] [x,y] c s h st t0 j mv z [im c.1] [(m,fG f g)] 0 (i:=0) (x:=x) (by decide) rfl (by omega) (by omega) (by simp) (by simp);have s1:=ZCW [x,y] [x,y] c s h st t0 j mv z ([im c.1]++WU x.1) ([(m,fG f g)]++x.2.1) 0 (i:=1) (x:=y) (by decide) rfl (by omega) (by omega) (by rw[yl,na,ydb];omega) (by rw[yl,ydb];omega)
 have E:WB yD ([x,y],(2:Int),c,s,[x,y],h,st,t0,j,mv,z,[im c.1]++WU x.1++WU y.1,[(m,fG f g)]++x.2.1++y.2.1,(0:Int))=ab (.inr (c,s,[x,y],h,st,t0,j,mv,z,[im c.1]++WU x.1++WU y.1,[(m,fG f g)]++x.2.1++y.2.1,0)):=by
  unfold WB;grind
 have l:=oR s0 s1 E;have F:[im c.1]++WU x.1++WU y.1=iR c x y:=by simp[iR]
 have G:[(m,fG f g)]++x.2.1++y.2.1=Qw f g m x y:=by simp[Qw]
 rw[F,G]at l;exact l
def oS(x:ah):Prop:=∀c,c∈x.1->c.1.1.length=32
theorem ZQn{ch:Chan}{f g:bp}{m:Int}{x y:ah}(h:aP x)(j:aP y)(l:cC x)(z:cC y):oQ (dh ch f g m x y):=by
 have A:=h.n1;have B:=h.n2;have y1:=j.n1;have E:=j.n2;refine⟨?_, ?_,λo ho=> ?_⟩
 .show(iR ch x y).length<=70;unfold iR;simp only[yah,yl,na];omega
 .show(Qw f g m x y).length<=70;unfold Qw;grind
 .have ho:o∈Qw f g m x y:=ho;unfold Qw at ho;simp only[ycc,ycr]at ho;rcases ho with rfl|ho|ho
  .unfold dE fG;simp
  .exact l o ho
  .exact z o ho
theorem ZQo{ch:Chan}{h j:bp}{m:Int}{x y:ah}(l:ch.1.1.length=32)(z:oS x)(A:oS y):mV (dh ch h j m x y):=by
 refine⟨λi f=> ?_,by show(0:Int)<=9223372036854775807;decide⟩;have f:i∈iR ch x y:=f;unfold iR WU at f;simp only[ycc,ycr,ybx]at f;rcases f with rfl|⟨c,g,rfl⟩|⟨c,g,rfl⟩
 .exact l
 .exact z c g
 .exact A c g
def nb(n:yL yB)(k:Nat):yL ZO:=(yn k).map λ(j:Nat)=>((n,(j:Int)):ZO)
theorem ZMz{t:Tx}(f:ur t)(hl:oQ t):∃n,dW yD t=ab n/\V3 yD t=ab n/\n.length=32/\xL yD t=ab (nb n t.2.1.length):=by
 obtain⟨n,g,h,j⟩:=ZHl hl f.2.2;have m:=hl.2;refine⟨n,g,h,j, ?_⟩;unfold xL;rw[g,f.1,ya,ya,yX (by decide)]
 have q:=ZA (step:=qn yD) t.2.1.length (λk:Nat=>((t.2.1.length:Int),(k:Int),t,nb n k,n)) (x:=(t,nb n t.2.1.length,n)) (λk l=>by
  unfold qn;dsimp only;rw[yW (Zw l),yW (ZT (by simp[nb];omega) (by simp[nb];omega)),Zp (by omega)];unfold nb;rw[List.range_succ,yat];rfl) (by
  unfold qn;dsimp only;rw[yX (by rw[ZN];decide)]) (by omega)
 have q:Zd (qn yD) yD ((t.2.1.length:Int),(0:Int),t,([]:yL ZO),n)=_:=q;grind
theorem ZKE:∃t,oH yD []=ab (t,af):=by
 obtain⟨t,f,g,h,_⟩:=ZED (b:=[]) (by simp)
 cases f with
 |false=>exact⟨t,g⟩
 |true=>
  obtain⟨l,j⟩:=h rfl;have:(kK t).length=0:=by rw[j];rfl
  unfold kK iM at this;simp only[yl]at this;have:=List.length_pos_iff.2 (ZFQ t.1.length);omega
abbrev qB:Chan:=((dn,0),0,[(0,0,0,0,0),(0,0,0,0,0)],[(0,0,0,0,0,0),(0,0,0,0,0,0)],0)
abbrev qC:yG:=(0,[0,0],[],0)
abbrev qD:Tx:=([],[],0)
abbrev kb:Type:=Chan×yG×Tx×Int
def PM(ch:Chan)(m:Int):Chan:=(ch.1,m,ch.2.2.1,ch.2.2.2.1,ch.2.2.2.2)
def lS(t0 t1:bD)(a b m n:Int):Prop:=(m < 0/\a < t1.2.1)\/(n < 0/\b < t0.2.1)
theorem ZCX{d mh:yL Int}{m a:Int}(ch:Chan)(s:yG)(w:yL ah)(f:Chan)(st:yG)(t0:Tx)(g:yL Int)(mv:yG){i:Int}{t:bD}(h:ag (i < 2)=ae)(h1:bi i 2=ae)(hd:idx d i=ab m)(ha:mv.2.1[i.toNat]? =ab a)(h2:bi (wi (1 - i)) 2=ae)(ht:ch.2.2.2.1[(wi (1 - i)).toNat]? =ab t):
 WA yD (d,i,ch,s,w,f,st,t0,g,mv)=ab (if m < 0/\a < t.2.1 then .inr (.inl (10,ch,s,w,f,st,t0,g,mv)) else .inl (d,wi (i+1),ch,s,w,f,st,t0,g,mv)):=by
 unfold WA
 all_goals grind
open Classical in
theorem ZKF{t0 t1:bD}{a b m n:Int}(ch:Chan)(s:yG)(w:yL ah)(f:Chan)(st:yG)(z:Tx)(g:yL Int)(mv:yG)(ht:ch.2.2.2.1=[t0,t1])(hm:mv.2.1=[a,b]):
 Zd (WA yD) yD ([m,n],(0:Int),ch,s,w,f,st,z,g,mv)=ab (if lS t0 t1 a b m n then .inl (10,ch,s,w,f,st,z,g,mv) else .inr (ch,s,w,f,st,z,g,mv)):=by
 have s0:=ZCX (d:=[m,n]) (mh:=[]) ch s w f st z g mv (i:=0) (m:=m) (a:=a) (t:=t1) (by decide) (by decide) rfl (by rw[hm];rfl) (by decide) (by rw[ht];rfl);have s1:=ZCX (d:=[m,n]) (mh:=[]) ch s w f st z g mv (i:=1) (m:=n) (a:=b) (t:=t0) (by decide) (by decide) rfl (by rw[hm];rfl) (by decide) (by rw[ht];rfl)
 have l:WA yD ([m,n],(2:Int),ch,s,w,f,st,z,g,mv)=ab (.inr (.inr (ch,s,w,f,st,z,g,mv))):=by
  unfold WA;grind
 by_cases h:m < 0/\a < t1.2.1
 .rw[yW h]at s0;rw[yW (show lS t0 t1 a b m n from .inl h),uu s0]
 .rw[yX h]at s0;by_cases j:n < 0/\b < t0.2.1
  .rw[yW j]at s1;rw[yW (show lS t0 t1 a b m n from .inr j),AE s0 s1]
  .rw[yX j]at s1;rw[yX (show¬lS t0 t1 a b m n from λq=>q.elim h j),oR s0 s1 l]
theorem Zyx{m a:Int}(ch:Chan)(s:yG)(w:yL ah)(g:Chan)(st:yG)(z:Tx)(f:yL Int){i:Int}{t:bD}(h:ag (i < 2)=ae)(h1:bi i 2=ae)(hd:f[i.toNat]? =ab m)(ha:s.2.1[i.toNat]? =ab a)(h2:bi (wi (1 - i)) 2=ae)(ht:ch.2.2.2.1[(wi (1 - i)).toNat]? =ab t):
 Yy yD (i,ch,s,w,g,st,z,f)=ab (if m < 0/\wi (a+m) < t.2.1 then .inr (.inl (10,ch,s,w,qB,qC,qD,f)) else .inl (wi (i+1),ch,s,w,g,st,z,f)):=by
 unfold Yy
 all_goals grind
open Classical in
theorem ZHz{t0 t1:bD}{a b m n:Int}(ch:Chan)(s:yG)(w:yL ah)(f:Chan)(st:yG)(z:Tx)(ht:ch.2.2.2.1=[t0,t1])(hm:s.2.1=[a,b]):
 Zd (Yy yD) yD ((0:Int),ch,s,w,f,st,z,[m,n])=ab (if lS t0 t1 (wi (a+m)) (wi (b+n)) m n then .inl (10,ch,s,w,qB,qC,qD,[m,n]) else .inr (ch,s,w,f,st,z,[m,n])):=by
 have s0:=Zyx ch s w f st z [m,n] (i:=0) (m:=m) (a:=a) (t:=t1) (by decide) (by decide) rfl (by rw[hm];rfl) (by decide) (by rw[ht];rfl);have s1:=Zyx ch s w f st z [m,n] (i:=1) (m:=n) (a:=b) (t:=t0) (by decide) (by decide) rfl (by rw[hm];rfl) (by decide) (by rw[ht];rfl)
 have j:Yy yD ((2:Int),ch,s,w,f,st,z,[m,n])=ab (.inr (.inr (ch,s,w,f,st,z,[m,n]))):=by
  unfold Yy;grind
 by_cases g:m < 0/\wi (a+m) < t1.2.1
 .rw[yW g]at s0;rw[yW (show lS t0 t1 (wi (a+m)) (wi (b+n)) m n from .inl g),uu s0]
 .rw[yX g]at s0;by_cases h:n < 0/\wi (b+n) < t0.2.1
  .rw[yW h]at s1;rw[yW (show lS t0 t1 (wi (a+m)) (wi (b+n)) m n from .inr h),AE s0 s1]
  .rw[yX h]at s1;rw[yX (show¬lS t0 t1 (wi (a+m)) (wi (b+n)) m n from λq=>q.elim g h),oR s0 s1 j]
structure PN(ch:Chan)(s:yG)(x y:ah)(r:kb):Prop where
 right0:aL yD ch s=ab ae
 st:OW ch s
 wx:aP x
 wy:aP y
 ex:∃a b b0 b1 id,s.2.1=[a,b]/\ch.2.2.1=[b0,b1]/\List.length (α:=UInt8) id=32/\r=(((id,0),ch.2.1+(bO x+bO y),ch.2.2.1,ch.2.2.2.1,ch.2.2.2.2),(s.1,[a+bO x,b+bO y],s.2.2.1,s.2.2.2),dh ch b0 b1 (ch.2.1+(bO x+bO y)) x y,0)/\0<=a+bO x/\0<=b+bO y/\
  aL yD (PM ch (ch.2.1+(bO x+bO y))) (s.1,[a+bO x,b+bO y],s.2.2.1,s.2.2.2)=ab ae/\OW (PM ch (ch.2.1+(bO x+bO y))) (s.1,[a+bO x,b+bO y],s.2.2.1,s.2.2.2)/\ur (dh ch b0 b1 (ch.2.1+(bO x+bO y)) x y)/\dW yD (dh ch b0 b1 (ch.2.1+(bO x+bO y)) x y)=ab id
def ZM7(ch:Chan)(s:yG)(x y:ah)(r:kb):Prop:=PN ch s x y r\/r.2.2.2≠0/\(r.1=qB/\r.2.1=qC/\r.2.2.1=qD)/\(aL yD ch s=ab ae->r.2.2.2≠14)
theorem PO{a b:Int}:vS a b < 0↔a < 0\/b < 0:=by
 unfold vS;grind
open Classical in
theorem ZHA{ch:Chan}(w:iN ch)(hh:ch.1.1.length=32){s:yG}(hs:s.2.1.length=2){x y:ah}(W:cC x)(X:cC y)(kx:oS x)(ky:oS y):
 ∃r,Vs yD ch s [x,y]=ab r/\X7 yD ch s [x,y]=ab r/\ZM7 ch s x y r:=by
 obtain⟨e,f1,f2,f3⟩:=ZJ8 w;obtain⟨b,Y,g2,g3⟩:=ZCw w hs;unfold Vs X7;rw[f1,f2,ya,ya];by_cases Z:e=0
 case neg=>
  have A:(e !=0)=ae:=bne_iff_ne.2 Z;rw[yW A,yW A]
  exact⟨_,rfl,rfl,.inr ⟨Z,⟨rfl,rfl,rfl⟩,λq=>by
   unfold aL at q;rw[f1,ya,yW A]at q;exact absurd (ybq q) (by decide)⟩⟩
 subst Z;rw[yX (show¬(((0:Int)!=0)=ae) by decide),yX (show¬(((0:Int)!=0)=ae) by decide),Y,g2,ya,ya]
 cases b with
 |false=>
  rw[yW (by decide),yW (by decide)]
  exact⟨_,rfl,rfl,.inr ⟨by decide,⟨rfl,rfl,rfl⟩,λq=>absurd (ybq (Y.symm.trans q)) (by decide)⟩⟩
 |true=>
  have E:=g3 rfl;rw[yX (by decide),yX (by decide),ZEG W X,ya];simp only[yav,yaq,ya];rw[ZKy W,ZKy X];simp only[ya];by_cases h:aP x
  case neg=>
   rw[yX (show¬(aP x/\aP y) from λq=>h q.1),yW (show(!false)=ae by decide),yZ h,yW (show(!false)=ae by decide)]
   exact⟨_,rfl,rfl,.inr ⟨by decide,⟨rfl,rfl,rfl⟩,λ_=>by decide⟩⟩
  by_cases m:aP y
  case neg=>
   rw[yX (show¬(aP x/\aP y) from λq=>m q.2),yW (show(!false)=ae by decide),yY h,yX (show¬(!true)=ae by decide),yZ m,yW (show(!false)=ae by decide)]
   exact⟨_,rfl,rfl,.inr ⟨by decide,⟨rfl,rfl,rfl⟩,λ_=>by decide⟩⟩
  rw[yW (show aP x/\aP y from⟨h,m⟩),yX (show¬(!true)=ae by decide),yY h,yX (show¬(!true)=ae by decide),yY m,yX (show¬(!true)=ae by decide),Zws h,Zws m]
  simp only[ya];obtain⟨a,b,j,ha,hb,tot,_,_⟩:=E.uc;have hl:=E.len;have cx:=ZKw h;have cy:=ZKw m;have am:=E.am;have R:wi (a+bO x)=a+bO x:=ZY (by omega) (by omega);have S:wi (b+bO y)=b+bO y:=ZY (by omega) (by omega);rw[ZCT j (by omega),ya];have F:(uz s a b (bO x) (bO y)).2.1=[a+bO x,b+bO y]:=by rw[<-R, <-S];rfl
  have G:uz s a b (bO x) (bO y)=(s.1,[a+bO x,b+bO y],s.2.2.1,s.2.2.2):=by rw[<-R, <-S];rfl
  rw[F,j];simp only[yav,yaq,ya];rw[R,S];by_cases c0:a+bO x < 0
  .rw[yW (yY (PO.2 (.inl c0))),yW (yY c0)];exact⟨_,rfl,rfl,.inr ⟨by decide,⟨rfl,rfl,rfl⟩,λ_=>by decide⟩⟩
  rw[yX (show¬ag (a+bO x < 0)=ae by rw[yN];exact c0)];by_cases c1:b+bO y < 0
  .rw[yW (yY (PO.2 (.inr c1))),yW (yY c1)];exact⟨_,rfl,rfl,.inr ⟨by decide,⟨rfl,rfl,rfl⟩,λ_=>by decide⟩⟩
  rw[yX (show¬ag (b+bO y < 0)=ae by rw[yN];exact c1),yX (by rw[yN,PO];omega)];obtain⟨t0,t1,T⟩:=oP w.t;obtain⟨f,g,l⟩:=oP w.b;rw[ZKF ch s [x,y] qB qC qD [bO x,bO y] (uz s a b (bO x) (bO y)) T F,ZHz ch s [x,y] qB qC qD T j,R,S,ya,ya];by_cases U:lS t0 t1 (a+bO x) (b+bO y) (bO x) (bO y)
  .rw[yW U,yW U];exact⟨_,rfl,rfl,.inr ⟨show(10:Int)≠0 by decide,⟨rfl,rfl,rfl⟩,λ_=>show(10:Int)≠14 by decide⟩⟩
  rw[yX U,yX U];simp only[yav,yaq,ya];rw[Zyv j (by omega),ya,G];have e1:wi (ch.2.1+wi (bO x+bO y))=ch.2.1+(bO x+bO y):=by rw[ZY (z:=bO x+bO y) (by omega) (by omega),ZY (by omega) (by omega)]
  have e2:wi (wi (ch.2.1+bO x)+bO y)=ch.2.1+(bO x+bO y):=by rw[ZY (z:=ch.2.1+bO x) (by omega) (by omega),ZY (by omega) (by omega),Int.add_assoc]
  rw[e1,e2];generalize hM:ch.2.1+(bO x+bO y)=M;have w':iN (PM ch M):=⟨w.b,w.t,by show-9223372036854775808<=M;omega,by show M<=9223372036854775807;omega,w.n0,w.n1,w.o0,w.o1⟩;obtain⟨bb,k1,k2,k3⟩:=ZCw w' (s:=(s.1,[a+bO x,b+bO y],s.2.2.1,s.2.2.2)) rfl;have I:aL yD (ch.1,M,ch.2.2.1,ch.2.2.2.1,ch.2.2.2.2) (s.1,[a+bO x,b+bO y],s.2.2.1,s.2.2.2)=ab bb:=k1;have k2':XN yD (ch.1,M,ch.2.2.1,ch.2.2.2.1,ch.2.2.2.2) (s.1,[a+bO x,b+bO y],s.2.2.1,s.2.2.2)=ab bb:=k2;rw[I,k2',ya,ya]
  cases bb with
  |false=>
   rw[yW (by decide),yW (by decide)]
   exact⟨_,rfl,rfl,.inr ⟨by decide,⟨rfl,rfl,rfl⟩,λ_=>by decide⟩⟩
  |true=>
   have sr2:=k3 rfl
   have pt:(eS f.1.toNat)/\eS g.1.toNat:=by
    have q0:=E.side 0 (by omega) t0 f (by rw[T];rfl) (by rw[l];rfl);have q1:=E.side 1 (by omega) t1 g (by rw[T];rfl) (by rw[l];rfl);exact⟨(q0.2 f.1 (by simp[pts])).1,(q1.2 g.1 (by simp[pts])).1⟩
   have lok:Vb (fG f g):=by
    refine⟨by simp[fG],by simp[fG],λq hq=> ?_⟩;unfold fG at hq;rw[ybf.1 hq];exact⟨by simp,show(0:Int)<=0 by decide,show(0:Int)<=1048576 by decide,show(0:Int)<=0 by decide,show(0:Int)<=1048576 by decide⟩
   rw[yX (by decide),yX (by decide)];unfold LX;dsimp only;rw[(Zyw l).1,ya,ya];dsimp only;rw[ZKD ch s qB qC qD [bO x,bO y] _ _ f g M h m,ya,ZKC l M h m lok,ya];dsimp only;have tl:oQ (dh ch f g M x y):=ZQn h m W X;have tw:mV (dh ch f g M x y):=ZQo hh kx ky;obtain⟨tb,B,t2',Q⟩:=PA tl;have fold:((iR ch x y,Qw f g M x y,0):Tx)=dh ch f g M x y:=rfl;rw[fold,t2',ya]
   cases tb with
   |false=>
    have hby:qq yD (dh ch f g M x y)=ab []:=by
     unfold qq;rw[B,ya,yW (by decide)]
    obtain⟨t,ht'⟩:=ZKE;rw[hby,ya,ht',ya,yW (show(!false)=ae by decide),yW (by decide)]
    exact⟨_,rfl,rfl,.inr ⟨by decide,⟨rfl,rfl,rfl⟩,λ_=>by decide⟩⟩
   |true=>
    have tR:ur (dh ch f g M x y):=⟨B,Q rfl,tw⟩;obtain⟨id,i1,i2,i3,i4⟩:=ZMz tR tl
    have hix:idx (nb id (dh ch f g M x y).2.1.length) 0=ab (id,0):=by
     have:(dh ch f g M x y).2.1.length=(x.2.1++y.2.1).length+1:=by
      show(Qw f g M x y).length=_;unfold Qw;rw[yah]
     rw[this];unfold nb;rw[List.range_succ_eq_map,List.map_cons];rfl
    rw[ZKB tw B (Q rfl),ya,ZMx tR,ya,yX (show¬(!true)=ae by decide),yX (by decide),i4,ya,hix,ya,i2,ya];refine⟨_,rfl,rfl,.inl ⟨Y,E,h,m,a,b,f,g,id,j,l,i3, ?_⟩⟩;rw[hM];exact⟨rfl,by omega,by omega,I,sr2,tR,i1⟩
end Go.Proofs.YtcbhhaigilifgaaGreat
end
section
namespace Go.Ev
structure NV where
 al:Nat
 st:Nat
 t:TypeId
 p:Pl
 x:Operand
 y:Operand
section
variable{P:yg}{ops:Array yj}
noncomputable def eP(P:yg)(X:Nat->Bool)(v:NV):aq:=match X v.st with
 |true=>.var (.p v.p) ae
 |false=>match X v.al with
  |true=>.var (bf P v.t) ae
  |false=>.gone
theorem ZKG{X X':Nat->Bool}{v:NV}(h1:X v.al=X' v.al)(h2:X v.st=X' v.st):eP P X v=eP P X' v:=by unfold eP;rw[h1,h2]
theorem ZOZ{vs:yL NV}{k:Nat}{v:NV}{X X':Nat->Bool}(f:vs[k]? =ab v)(ho:∀j w,vs[j]? =ab w->j≠k->eP P X w=eP P X' w):(vs.map (eP P X)).set k (eP P X' v)=vs.map (eP P X'):=by
 apply List.ext_getElem?
 all_goals grind
def ZQp(vs:yL NV)(i:Nat):Bool:=vs.any λv=>v.al==i || v.st==i
def ZQq(vs:yL NV):Bool:=(yn vs.length).all λj=>(yn vs.length).all λk=>match vs[j]?,vs[k]? with
 |some w,ab v=>(j==k || (w.al !=v.al&&w.al !=v.st&&w.st !=v.al&&w.st !=v.st))&&v.al !=v.st
 |_,_=>ae
structure PP(P:yg)(ops:Array yj)(ts:List Dv)(D:Nat->Dv)(spec:Nat->List Nat×List Nat)(n:Nat)(v:NV):Prop where
 lt:(ag (v.al < ops.size)&&ag (v.st < ops.size))=ae
 oa:(be ops v.al).op=.alloc v.t
 os:(be ops v.st).op=.store v.t v.x v.y
 da:D v.al=.aj n 0 []
 ds:D v.st=.ak
 ed:bS (be ops v.st) v.al=ae
 ax:aC P (dg ts.length (aX ops.toList) D ts (spec v.st).1 (spec v.st).2) 0 v.x=.aj n 0 []
 ay:aC P (dg ts.length (aX ops.toList) D ts (spec v.st).1 (spec v.st).2) v.t v.y=.p v.p
 zi:(P.info? v.t).map (λi=>i.zero.isSome)=ab ae
 zo:fS P v.t (bf P v.t)=ae
 zs:(bf P v.t).bG=ae
 sz:v.p.size=(bf P v.t).size
 ct:P.cellsOf v.t=v.p.size
theorem ZO0{X:Nat->Bool}(hc:jf ops X){i j:Nat}(hi:i < ops.size)(he:bS (be ops i) j=ae)(g:X j=af):X i=af:=by
 cases h:X i with
 |false=>rfl
 |true=>
  have l:ops[i]? =ab (be ops i):=by
   unfold be;simp_all
  unfold bS at he;obtain⟨x,m,f⟩:=Array.any_eq_true'.1 he;simp only[yi,yT]at f;have:=hc i _ l h x m f.2;rw[f.1,g]at this;cases this
theorem Zyy{ts:yL Dv}{H0:yL aq}{id:Nat}(hm:P.follows .mixedOrders=ae)(D:Nat->Dv)(vs:yL NV)(f:Nat->yL Nat×yL Nat)
 (hu:((yn ops.size).all λi=>(yn ops.size).all λj=>aX ops.toList i==ad || !(aX ops.toList i==aX ops.toList j) || decide (i=j))=ae) (E:kU ops.toList 0=ae)
 (W:((yn ops.size).all λi=>(be ops i).guard.isNone&&((f i).1.all λj=>ag (j < ops.size)&&bS (be ops i) j)&&((f i).2.all λs=>(yn ops.size).all λj=> !(aX ops.toList j==ab s)))=ae)
 (js is:yL Nat) (F:(js.all λj=>ag (j < ops.size))=ae) (hi:(is.all λs=>(yn ops.size).all λj=> !(aX ops.toList j==ab s))=ae) (Y:ZQq vs=ae)
 (pure:∀i,i < ops.size->ZQp vs i=af->∀T,∃hs C,cw P (be ops i) (dg ts.length (aX ops.toList) D ts (f i).1 (f i).2) (H0++T) hs=ab (C,D i,H0++T,[])/\aZ C)
 (l:∀k v,vs[k]? =ab v->PP P ops ts D f (H0.length+k) v):
 XZ P (.region id ops ae) ts H0 .normal (dg ts.length (aX ops.toList) D ts js is) (H0++vs.map λv=>.var (.p v.p) ae):=by
 have Z:∀i j,i < ops.size->j < ops.size->aX ops.toList i≠ad->aX ops.toList i=aX ops.toList j->i=j:=by
  intro i j hi F h2 m;have R:=yan.1 (yan.1 hu i (ybv.2 hi)) j (ybv.2 F)
  all_goals grind
 have z:∀(j k:Nat)(w v:NV),vs[j]? =ab w->vs[k]? =ab v->(j≠k->w.al≠v.al/\w.al≠v.st/\w.st≠v.al/\w.st≠v.st)/\v.al≠v.st:=by
  intro j k w v F g;have R:=yan.1 (yan.1 Y j (ybv.2 (yu.1 F).1)) k (ybv.2 (yu.1 g).1)
  all_goals grind
 have upd:∀(X:Nat->Bool)(i k:Nat)(v:NV),vs[k]? =ab v->(v.al=i\/v.st=i)->(vs.map (eP P X)).set k (eP P (λj=>X j || decide (j=i)) v)=vs.map (eP P λj=>X j || decide (j=i)):=by
  intro X i k v g I;refine ZOZ g λj w F G=> ?_;obtain⟨R,h2,m,h4⟩:=(z j k w v F g).1 G;refine ZKG ?_ ?_
  all_goals grind
 refine CI (k:=vs.length) hm D (λX=>H0++vs.map (eP P X)) f Z E W ?_ (λX U=> ?_) js is F hi (λi hlt X U he hc J' a' ok M yM=> ?_)
 .congr 1;refine List.eq_replicate_iff.2 ⟨by simp,λe he=> ?_⟩;obtain⟨v,_,rfl⟩:=ybx.1 he;rfl
 .congr 1;refine List.map_congr_left λv I=> ?_;obtain⟨k,k1,k2⟩:=ybi I;have:=(l k v (by rw[yad k1,k2])).lt;rw[yi,yP,yP]at this;unfold eP;grind
 .cases hn:ZQp vs i with
  |false=>
   obtain⟨hs,C,R,h2⟩:=pure i hlt hn (vs.map (eP P X))
   have e:vs.map (eP P λj=>X j || decide (j=i))=vs.map (eP P X):=by
    refine List.map_congr_left λv I=> ?_;have m:=List.any_eq_false.1 hn v I;simp only[yck,yT,not_or]at m;exact ZKG (by simp[m.1]) (by simp[m.2])
   rw[e, <-M];rw[<-M]at R
   exact Ye ok yM R h2
  |true=>
   obtain⟨v,I,m⟩:=List.any_eq_true.1 hn;obtain⟨k,k1,k2⟩:=ybi I;have g:vs[k]? =ab v:=by rw[yad k1,k2]
   have V:=l k v g;have lt:=V.lt;rw[yi,yP,yP]at lt;simp only[yck,yT]at m;have G:=(z k k v v g g).2
   obtain⟨Q,S⟩:∃Q,P.info? v.t=ab Q:=by
    cases h:P.info? v.t with
    |none=>have:=V.zi;rw[h]at this;cases this
    |some Q=>exact⟨Q,rfl⟩
   have hzi:Q.zero.isSome=ae:=by
    have:=V.zi;grind
   have A:(H0++vs.map (eP P X))[H0.length+k]? =ab (eP P X v):=by
    grind
   have B:∀e,(H0++vs.map (eP P X)).set (H0.length+k) e=H0++(vs.map (eP P X)).set k e:=λe=>by
    grind
   rcases m with rfl|rfl
   .have hs:X v.st=af:=ZO0 hc lt.2 V.ed U;have h:=va (P:=P) (o:=be ops v.al) (a:=a') (t:=v.t) (i:=Q) (id:=H0.length+k) ok (by rw[M,A];unfold eP;rw[U,hs]) V.oa S hzi V.zo V.zs;rw[M,B]at h;rw[V.da, <-upd X v.al k v g (.inl rfl)]
    have e:eP P (λj=>X j || decide (j=v.al)) v=.var (bf P v.t) ae:=by
     have e1:(X v.st || decide (v.st=v.al))=af:=by rw[hs,yZ (λh:v.st=v.al=>G h.symm)];rfl
     have e2:(X v.al || decide (v.al=v.al))=ae:=by simp
     unfold eP;grind
    rw[e];exact h
   .have ha:=he v.al V.ed
    have h:=vx (P:=P) (o:=be ops v.st) (t:=v.t) (x:=v.x) (y:=v.y) (id:=H0.length+k) (off:=0) (yQ:=[]) (dd:=bf P v.t) (sub:=bf P v.t) (new:=.p v.p) (dd':=.p v.p) (C1:=[]) (off':=0) (hs:=[]) (hs':=[]) ok yM V.os V.ax
     (by rw[M,A];unfold eP;rw[U,ha]) rfl trivial rfl V.ay rfl rfl V.sz V.ct (by rw[S];rfl)
    rw[M,B]at h;rw[V.ds, <-upd X v.st k v g (.inr rfl)]
    have e:eP P (λj=>X j || decide (j=v.st)) v=.var (.p v.p) ae:=by
     unfold eP;simp
    rw[e];exact h
end
end Go.Ev
end
section
namespace Go.Ev
open Go.RowKit
abbrev Wd(ro:yO Nat):Fence:={ Fence.wide with round:=ro}
section
variable{P:yg}{ro:yO Nat}{n:Nat}
theorem ZMA{row:String}{args:Array yh}{w:yy}{R:yh->yy->Prop}(h:Rows P row args w R):RowsIn (Wd ro) n P row args w R:=
 λc f _=>let ⟨v,g,r,s⟩:=h c f;⟨v,g,r,stepsIn_wide.2 s⟩
theorem ZKH{f:FuncId}{args:Array yh}{w:yy}{R:Ending->yy->Prop}(h:Calls P f args w R):CallsIn (Wd ro) n P f args w R:=(callsIn_wide (n:=n)).2 h
theorem PQ{o:yj}{a0 a:Act}{w:yy}{K:Act->yy->Prop}{Q:Exit->Act->yy->Prop}(m:∀c,o.op≠ .defer c)(ht:a.tmps=a0.tmps)
 (h:o.wp P a0 w (λa1 w1=>a1.defers=a0.defers/\K { a1 with defers:=a.defers} w1) (λe a1 w1=>Q e { a1 with defers:=a.defers} w1)):o.wpIn (Wd ro) n P a w K Q:=by
 unfold Oper.wpIn;refine⟨λf _=>trivial, ?_⟩;rw[Oper.semAt_plain _ _ _ m]
 have j:a.eval=a0.eval:=by
  cases a;cases a0;simp only at ht;subst ht;rfl
 have g:∀v,a.put o.dst v={ a0.put o.dst v with defers:=a.defers}:=by
  intro v;cases a;cases a0;simp only at ht;subst ht;unfold Act.put;grind
 have B:{ a0 with defers:=a.defers}=a:=by
  cases a;cases a0;grind
 rw[j];unfold Oper.wp at h;generalize (execOp a0.eval o).run P w=r at h ⊢
 cases r with
 |ok x E=>
  cases x with
  |value v=>simp only[Oper.upon,Oper.uponIn]at h ⊢;rw[g];exact h.2
  |skip=>simp only[Oper.upon,Oper.uponIn]at h ⊢;rw[g];exact h.2
  |defer d=>
   simp only[Oper.upon]at h;have z:=h.1;unfold Act.put at z
   cases F:o.dst <;> rw[F]at z <;> simp at z
  |enter f y=>
   simp only[Oper.upon,Oper.uponIn]at h ⊢;refine⟨λA=>by simp[Fence.wide]at A,ZKH (Calls.mono h λe l j=> ?_)⟩
   cases e with
   |returned v=>
    show K (a.put o.dst v) l;rw[g]
    exact j.2
   |panicked c=>
    have j:Q (Exit.panic c) { a0 with defers:=a.defers} l:=j;rw[B]at j
    exact j
   |outgrown=>
    obtain⟨a1,w1,q⟩:=j
    exact⟨_,_,q⟩
  |row row y=>
   simp only[Oper.upon,Oper.uponIn]at h ⊢;refine⟨λA=>by simp[Fence.wide]at A,ZMA (Rows.mono h λv l j=> ?_)⟩;rw[g]
   exact j.2
  |_=>exact h.elim
 |halt x E=>
  cases x <;> simp only[Oper.upon,Oper.uponIn]at h ⊢
  all_goals first|exact h|(rw[B]at h;exact h)
theorem PR{o:yj}{a:Act}{J:Sg}{d:Dv}{H':yL aq}{K:Act->yy->Prop}{Q:Exit->Act->yy->Prop}(f:∀c,o.op≠ .defer c)(h:YZ P o { a with defers:=[]} J d H')
 (g:∀v J',J'.H=H'->To J J'->Ok J'->yJ J' d v->K (a.put o.dst v) J'.w):o.wpIn (Wd ro) n P a J.w K Q:=
 PQ (a0:={ a with defers:=[]}) f rfl (h _ _ λv J' e to j l=>by
  refine⟨by unfold Act.put;cases o.dst <;> rfl, ?_⟩;have:({ ({ a with defers:=[]}:Act).put o.dst v with defers:=a.defers}:Act)=a.put o.dst v:=by unfold Act.put;cases o.dst <;> rfl
  rw[this];exact g v J' e to j l)
def iS(o:yj):Bool:=match o.op with
 |.defer _=>af
 |_=>ae
theorem qE{o:yj}(h:iS o=ae):∀c,o.op≠ .defer c:=λc e=>by
 unfold iS at h;grind
theorem nc{a:Act}{d:yO Tmp}{v:yh}:(a.put d v).defers=a.defers:=by
 unfold Act.put;grind
theorem PS{a:Act}{d:yO Tmp}{v:yh}:({ a with defers:=[]}:Act).put d v={ a.put d v with defers:=[]}:=by
 unfold Act.put;grind
theorem PT{ops:Array yj}(T:yL Nat){Q:Exit->Act->yy->Prop}{ts':yL Dv}{yK:yL yj}:∀(l:yL yj)(ts:yL Dv)(J:Sg)(a:Act)(hs hs':yL ar)(C:yL Prop)(H':yL aq),
 Ok J->aB J ts { a with defers:=[]}->cu P ops l ts J.H hs=ab (C,ts',H',hs')->aZ C->l.all iS=ae->l.all (λo=>match o.dst with|some d=> !T.contains d|none=>ae)=ae->
 (∀A J',(∀t,t∈T->A.tmps[t]? =a.tmps[t]?)->J'.H=H'->To J J'->Ok J'->aB J' ts' { A with defers:=[]}->A.defers=a.defers->wpListIn (Wd ro) n P ops Q yK A J'.w)->wpListIn (Wd ro) n P ops Q (l++yK) a J.w
 |[],ts,J,a,hs,hs',C,H',G,I,h,hc,B,M,R=>by
  simp only[cu,Option.some.injEq,yq]at h;obtain⟨rfl,rfl,rfl,rfl⟩:=h
  exact R a J (λ_ _=>rfl) rfl (To.refl J) G I rfl
 |o::l,ts,J,a,hs,hs',C,H',G,I,h,hc,B,M,R=>by
  simp only[cu]at h;split at h
  .rename_i C1 d H1 S h1;split at h
   .rename_i C2 ts2 H2 U h2;simp only[Option.some.injEq,yq]at h;obtain⟨rfl,rfl,rfl,rfl⟩:=h;obtain⟨c1,c2⟩:=Zm.1 hc;simp only[List.all_cons,yi]at B M
    have W:∀v t,t∈T->(a.put o.dst v).tmps[t]? =a.tmps[t]? :=by
     intro v t X;unfold Act.put;grind
    have next:∀v J',J'.H=H1->To J J'->Ok J'->aB J' (fB ts o.dst d) (({ a with defers:=[]}:Act).put o.dst v)->wpListIn (Wd ro) n P ops Q (l++yK) (a.put o.dst v) J'.w:=by
     intro v J' Y to j g;rw[PS]at g;refine PT T l _ J' _ S U C2 H2 j g (by rw[Y];exact h2) c2 B.2 M.2 λA J2 hk e2 Z ok2 m hd=> ?_;exact R A J2 (λt X=>(hk t X).trans (W v t X)) e2 (to.trans Z) ok2 m (by rw[hd,nc])
    show if Region.wanted o (yielded ops a.tmps) then _ else _
    have y:=vl (P:=P) (ops:=ops) G I h1 c1 (λE w1=>E.defers=[]/\wpListIn (Wd ro) n P ops Q (l++yK) { E with defers:=a.defers} w1) (λe E w1=>Q e { E with defers:=a.defers} w1) (λv J' Y to j g=>by
     refine⟨nc, ?_⟩;have:=next v J' Y to j g
     have e:({ ({ a with defers:=[]}:Act).put o.dst v with defers:=a.defers}:Act)=a.put o.dst v:=by unfold Act.put;cases o.dst <;> rfl
     rw[e];exact this)
    by_cases F:Region.wanted o (yielded ops a.tmps)=ae
    .rw[yW F];have z:Region.wanted o (yielded ops ({ a with defers:=[]}:Act).tmps)=ae:=F;rw[yW z]at y;exact PQ (a0:={ a with defers:=[]}) (qE B.1) rfl y
    .rw[yX F];have z:¬Region.wanted o (yielded ops ({ a with defers:=[]}:Act).tmps)=ae:=F;rw[yX z]at y;refine⟨λf _=>trivial, ?_⟩;have e:({ ({ a with defers:=[]}:Act).put o.dst undef with defers:=a.defers}:Act)=a.put o.dst undef:=by unfold Act.put;cases o.dst <;> rfl
     simp_all
   .cases h
  .cases h
theorem uA{ops:Array yj}(T:yL Nat){Q:Exit->Act->yy->Prop}{ts':yL Dv}(l:yL yj)(ts:yL Dv)(J:Sg)(a:Act)(hs hs':yL ar)(C:yL Prop)(H':yL aq)
 (ok:Ok J) (g:aB J ts { a with defers:=[]}) (h:cu P ops l ts J.H hs=ab (C,ts',H',hs')) (hc:aZ C) (hl:l.all iS=ae) (j:l.all (λo=>match o.dst with|some d=> !T.contains d|none=>ae)=ae)
 (m:∀f J',(∀t,t∈T->f.tmps[t]? =a.tmps[t]?)->J'.H=H'->To J J'->Ok J'->aB J' ts' { f with defers:=[]}->f.defers=a.defers->Q .normal f J'.w):wpListIn (Wd ro) n P ops Q l a J.w:=by
 have:=PT (P:=P) (ro:=ro) (n:=n) (ops:=ops) (Q:=Q) (yK:=[]) T l ts J a hs hs' C H' ok g h hc hl j m;grind
def bE(P:yg)(ro:yO Nat)(c:Code)(ts:yL Dv)(H:yL aq)(g:Ex)(ts':yL Dv)(H':yL aq):Prop:=
 ∀(n:Nat)(J:Sg)(a:Act),Ok J->J.H=H->aB J ts { a with defers:=[]}->
  c.wpIn (Wd ro) n P (λe f h=>e=g.to/\f.defers=a.defers/\∃J',J'.w=h/\J'.H=H'/\To J J'/\Ok J'/\aB J' ts' { f with defers:=[]}) a J.w
theorem Xx{ops:Array yj}{id:Nat}{ts ts':yL Dv}{H H':yL aq}{hs hs':yL ar}{C:yL Prop}(h:cu P ops ops.toList ts H hs=ab (C,ts',H',hs'))(hc:aZ C)(hl:ops.toList.all iS=ae):
 bE P ro (.region id ops af) ts H .normal ts' H':=λn J a j l m=>
 wpIn_region_list (uA [] ops.toList ts J a hs hs' C H' j m (by rw[l];exact h) hc hl (by rw[yan];intro o _;cases o.dst <;> rfl) λz J' _ e to g f y=>⟨rfl,y,J',rfl,e,to,g,f⟩)
theorem ZMB{ops:Array yj}{id:Nat}{l:yL yj}{o:yj}{ts ts1:yL Dv}{H H1 H':yL aq}{hs:yL ar}{C:yL Prop}{d:Dv}(hl:ops.toList=l++[o])(h:cu P ops l ts H hs=ab (C,ts1,H1,[]))(hc:aZ C)(E:l.all iS=ae)
 (F:o.guard=ad) (hd:iS o=ae) (j:∀(J:Sg)(a:Act),Ok J->J.H=H1->aB J ts1 a->YZ P o a J d H'):bE P ro (.region id ops af) ts H .normal (fB ts1 o.dst d) H':=λn J a G I M=>by
 refine wpIn_region_list ?_;rw[hl];refine PT [] l ts J a hs [] C H1 G M (by rw[I];exact h) hc E (by rw[yan];intro o _;cases o.dst <;> rfl) λQ J1 _ R m y f z=> ?_;refine wpListIn_plain F λK S=> ?_;refine PR (qE hd) (j J1 { Q with defers:=[]} y R f) λv J2 T g A U=>S _ _ ?_;have B:=kp (o:=o) (f.to g.leaf) U;rw[PS]at B;exact⟨rfl,nc.trans z,J2,rfl,T,m.trans g,A,B⟩
theorem iT{x y:Code}{ts ts1 ts':yL Dv}{H H1 H':yL aq}{B:Ex}(h:bE P ro x ts H .normal ts1 H1)(k:bE P ro y ts1 H1 B ts' H'):bE P ro (.seq x y) ts H B ts' H':=λn J a E F G=>by
 refine wpIn_seq (wpIn_mono (h n J a E F G) ?_);rintro e I w1 ⟨rfl,M,J1,rfl,Q,j,l,f⟩;refine wpIn_mono (k n J1 I l Q f) ?_;rintro e S w2 ⟨rfl,m,J2,rfl,R,z,A,g⟩;exact⟨rfl,m.trans M,J2,rfl,R,j.trans z,A,g⟩
theorem ZMC{x y:Code}{ts ts':yL Dv}{H H':yL aq}{l:Ex}(h:bE P ro x ts H l ts' H')(m:l≠ .normal):bE P ro (.seq x y) ts H l ts' H':=λn J a B E F=>by
 refine wpIn_seq (wpIn_mono (h n J a B E F) ?_);rintro e G w1 ⟨rfl,z,J1,rfl,A,g,j,f⟩
 cases l with
 |normal=>exact absurd rfl m
 |exit id=>exact⟨rfl,z,J1,rfl,A,g,j,f⟩
 |ret=>exact⟨rfl,z,J1,rfl,A,g,j,f⟩
theorem uB{t:Tmp}{x y:Code}{b:Bool}{ts ts':yL Dv}{H H':yL aq}{f:Ex}(hb:ts[t]? =ab (.p (.bool b)))(h:bE P ro (if b then x else y) ts H f ts' H'):bE P ro (.cond (.tmp t) x y) ts H f ts' H':=λn J a j l g=>
 wpIn_cond (t:=b) (Yl (g.at_ t _ hb)) (h n J a j l g)
theorem PU{ts:yL Dv}{H:yL aq}:bE P ro .skip ts H .normal ts H:=λn J a f g h=>wpIn_skip ⟨rfl,rfl,J,rfl,g,To.refl J,f,h⟩
theorem PV{ts:yL Dv}{H:yL aq}:bE P ro .ret ts H .ret ts H:=λn J a f g h=>wpIn_ret ⟨rfl,rfl,J,rfl,g,To.refl J,f,h⟩
theorem PW{id:Nat}{c:Code}{ts ts':yL Dv}{H H':yL aq}{m:Ex}(h:bE P ro c ts H m ts' H')(y:∀j,m≠ .exit j):bE P ro (.block id c) ts H m ts' H':=λn J a B E F=>by
 refine wpIn_block (wpIn_mono (h n J a B E F) ?_);rintro e G w1 ⟨rfl,z,J1,rfl,A,g,l,f⟩
 cases m with
 |normal=>exact⟨rfl,z,J1,rfl,A,g,l,f⟩
 |exit id=>exact absurd rfl (y id)
 |ret=>exact⟨rfl,z,J1,rfl,A,g,l,f⟩
end
end Go.Ev
namespace Go.Ev
open Go.RowKit
theorem Zyz{J:Sg}{l:Nat}{o:Obj}(o':Obj)(ok:Ok J)(G:∀(id:Nat),J.m[id]? ≠ab (ab l))(ho:J.w.heap[l]? =ab o)(hc:o.isCells=af):
 cl J { J with w:=J.w.putObj l o'}/\Ok { J with w:=J.w.putObj l o'}:=by
 have j:∀b,b≠l->(J.w.putObj l o').heap[b]? =J.w.heap[b]? :=λb j=>World.putObj_heap_other j;have E:∀(id b:Nat),J.m[id]? =ab (ab b)->(J.w.putObj l o').heap[b]? =J.w.heap[b]? :=λid b h=>j b λe=>G id (e ▸ h)
 have y:cl J { J with w:=J.w.putObj l o'}:=by
  refine⟨λb x v f g=>⟨?_,g⟩,λid b f g=>⟨f,g⟩,λid s len A c f=> ?_,λid b f g=>⟨f,g⟩,λid v s st e d h=>⟨v,st,d,h,ym _,λ_=>⟨rfl,λb z j hc=>⟨z,(E id b j).trans hc,rfl⟩⟩⟩⟩
  .show(J.w.putObj l o').cell? ⟨b,x,ad⟩=ab v
   have B:b≠l:=λe=>by
    subst e;unfold World.cell? at f;rw[ho]at f;cases o <;> simp_all[Obj.isCells]
   rw[World.cell?_of_block (w:=J.w) (j b B)];exact f
  .obtain⟨e,I,g,M,Q⟩:=f;refine⟨e,I,g,M,λR=> ?_⟩
   all_goals grind
 exact⟨y,⟨ok.len,ok.inj,λi b h=>by show b < (J.w.putObj l o').heap.size;rw[World.putObj_size];exact ok.lt i b h,λi e a f g=>nA y (λb j=>E i b (by rw[g,j])) (ok.dx i e a f g),
  λb h=>ok.new b (by have F:(J.w.putObj l o').heap.size<=b:=h;rw[World.putObj_size]at F;exact F),ok.own⟩⟩
structure St(Jb:Sg)(l D:Nat)(r:Loop)(J:Sg):Prop where
 to:To Jb J
 ok:Ok J
 bl:Jb.w.heap.size<=l
 bd:Jb.w.heap.size<=D
 ne:D≠l
 nl:∀(id:Nat),J.m[id]? ≠ab (ab l)
 nd:∀(id:Nat),J.m[id]? ≠ab (ab D)
 hl:J.w.heap[l]? =ab (.loop r)
 hd:J.w.heap[D]? =ab (.deferred (ab []))
theorem AG{J J':Sg}(to:To J J'){b:Nat}(hb:b < J.w.heap.size)(f:∀(id:Nat),J.m[id]? ≠ab (ab b)):∀(id:Nat),J'.m[id]? ≠ab (ab b):=λid h=>by
 rcases to.same id b h with h1|h1
 all_goals grind
theorem oT{w:yy}{b:Nat}{o:Obj}(h:w.heap[b]? =ab o):b < w.heap.size:=(ycv.1 h).1
theorem St.step{Jb J J':Sg}{l D:Nat}{r:Loop}(h:St Jb l D r J)(to:To J J')(ok:Ok J'):St Jb l D r J' where
 to:=h.to.trans to
 ok:=ok
 bl:=h.bl
 bd:=h.bd
 ne:=h.ne
 nl:=AG to (oT h.hl) h.nl
 nd:=AG to (oT h.hd) h.nd
 hl:=(to.block l (oT h.hl) h.nl).trans h.hl
 hd:=(to.block D (oT h.hd) h.nd).trans h.hd
theorem St.turn{Jb J:Sg}{l D:Nat}{r:Loop}(h:St Jb l D r J)(r':Loop):St Jb l D r' { J with w:=J.w.putObj l (.loop r')}/\cl J { J with w:=J.w.putObj l (.loop r')}:=by
 obtain⟨f,g⟩:=Zyz (.loop r') h.ok h.nl h.hl rfl;refine⟨⟨⟨h.to.leaf.trans f,h.to.F,h.to.B,h.to.os,h.to.tape,h.to.output, ?_,λb j m=> ?_,h.to.same,h.to.len⟩,g,h.bl,h.bd,h.ne,h.nl,h.nd, ?_, ?_⟩,f⟩
 .show _<=(J.w.putObj l (.loop r')).heap.size;rw[World.putObj_size];exact h.to.size
 .have:b≠l:=by have:=h.bl;omega
  exact(World.putObj_heap_other this).trans (h.to.block b j m)
 .exact World.putObj_heap_same (oT h.hl)
 .exact(World.putObj_heap_other h.ne).trans h.hd
theorem St.drop{Jb J:Sg}{l D:Nat}{r:Loop}{H:yL aq}(h:St Jb l D r J)(g:Ok Jb)(keep:yL Nat)(ho:once (yn Jb.H.length++keep)=ae)(f:aN J.H (yn Jb.H.length++keep) (yn Jb.H.length++keep)=ab H):
 St Jb l D r (gr J (yn Jb.H.length++keep) H):=by
 have y:∀b,(∀(id:Nat),J.m[id]? ≠ab (ab b))->∀(id:Nat),(gr J (yn Jb.H.length++keep) H).m[id]? ≠ab (ab b):=λb z id e=>by
  obtain⟨j,_,A⟩:=nO e;exact z j A
 exact⟨pr g h.to ho f,pq h.ok ho f,h.bl,h.bd,h.ne,y l h.nl,y D h.nd,h.hl,h.hd⟩
section
variable{P:yg}{n:Nat}
theorem ZKJ{Jb J:Sg}{l D:Nat}{r:Loop}{tsR ts1 G:yL Dv}{H H1 H2:yL aq}{y:Ex}{tmps:Array yh}(st:St Jb l D r J)(I:r.state=.ready)(hH:J.H=H)(X:aB J tsR { tmps:=tmps,defers:=[]})
 (ha:bE P (ab l) r.assign tsR H .normal ts1 H1) (hb:bE P (ab l) r.body ts1 H1 y G H2) (M:y=.normal\/y=.ret) (R:Ending->yy->Prop)
 (T:∀J',St Jb l D { r with state:=if y=.normal then .ready else .done,pending:=if y=.normal then ad else ab .ret} J'->cl J J'->J'.H=H2->R (.returned (.bool (ag (y=.normal)))) J'.w):
 RoundIn (Wd ad) n P l r.fn tmps r.assign r.body J.w R:=by
 refine roundIn_of_wpIn trivial ?_;refine wpIn_mono (ha n J _ st.ok hH X) ?_;rintro e Y w1 ⟨rfl,Z,J1,rfl,e1,z,Q,A⟩;have B:=st.step z Q;obtain⟨E,g⟩:=B.turn { r with state:=.busy};refine⟨_,run_beginRound B.hl I, ?_⟩;refine wpIn_mono (hb n { J1 with w:=J1.w.putObj l (.loop { r with state:=.busy})} Y E.ok e1 (A.to g)) ?_;rintro e a2 w3 ⟨rfl,hd2,J3,rfl,U,F,S,W⟩;have j:=E.step F S;have h:cl J J3:=(z.leaf.trans g).trans F.leaf;rcases M with rfl|rfl
 .obtain⟨m,f⟩:=j.turn { r with state:=.ready,pending:=ad};exact⟨_,_,run_endRound ad j.hl,T { J3 with w:=J3.w.putObj l (.loop { r with state:=.ready,pending:=ad})} m (h.trans f) U⟩
 .obtain⟨m,f⟩:=j.turn { r with state:=.done,pending:=ab .ret};exact⟨_,_,run_endRound (ab .ret) j.hl,T { J3 with w:=J3.w.putObj l (.loop { r with state:=.done,pending:=ab .ret})} m (h.trans f) U⟩
theorem ZMD{F:Fence}{ops:Array yj}{id:Nat}{a:Act}{w:yy}{Q:Exit->Act->yy->Prop}(hm:P.follows .mixedOrders=ae)(z:kU ops.toList 0=ae)(Inv:(Nat->Bool)->Act->yy->Prop)
 (h0:Inv (λ_=>af) a { w with drawn:=w.drawn+1})
 (step:∀(X:Nat->Bool)(i:Nat)(o:yj)(a:Act)(w:yy),ops[i]? =ab o->X i=af->(∀e,e∈o.after->Region.binds .any e=ae->X e.on=ae)->jf ops X->Inv X a w->
   o.guard=ad/\∀(K:Act->yy->Prop),(∀A w',Inv (λj=>X j || decide (j=i)) A w'->K A w')->o.wpIn F n P a w K Q)
 (hQ:∀X A w',(∀j,j < ops.size->X j=ae)->Inv X A w'->Q .normal A w'):(Code.region id ops ae).wpIn F n P Q a w:=by
 refine wpIn_region_any hm ?_
 have R:∀(yD:Nat)(f:Array Bool)(a:Act)(w:yy),f.size=ops.size->gI (λj=>f.getD j af) ops.size<=yD->jf ops (λj=>f.getD j af)->
  Inv (λj=>f.getD j af) a w->wpAnyIn F n P .any ops Q yD f a w:=by
  intro yD
  induction yD with
  |zero=>
   intro f a w S B E g;have Z:=vr (Nat.le_zero.1 B);refine⟨?_,hQ _ a w Z g⟩;apply List.eq_nil_iff_forall_not_mem.2;intro j l;obtain⟨h1,o,M,_⟩:=mem_ready.1 l;have hjn:j < ops.size:=(ycv.1 M).1;have h2:=Z j hjn;have T:j < f.size:=by omega
   simp only[Array.getD,T,dif_pos]at h1 h2;rw[h1]at h2
   cases h2
  |succ yD ih=>
   intro f a w S B E g;refine⟨λhr=> ?_,λi hi=> ?_⟩
   .have Z:∀j,j < ops.size->f.getD j af=ae:=by
     intro j
     induction j using Nat.strongRecOn with
     |_ j ihj=>
      intro l
      cases hx:f.getD j af with
      |true=>rfl
      |false=>
       have T:j < f.size:=by omega
       have hjo:ops[j]? =ab ops[j]:=ycm l
       have:j∈Region.ready .any ops f:=by
        refine mem_ready.2 ⟨?_,ops[j],hjo,λe he hb=> ?_⟩
        .grind
        .have hlt:=vv ops.toList 0 z j ops[j] (by simp) e he hb;grind
       rw[hr]at this;cases this
    exact hQ _ a w Z g
   .obtain⟨h1,o,M,h⟩:=mem_ready.1 hi;have hin:i < ops.size:=(ycv.1 M).1;have fH:i < f.size:=by omega
    let X:Nat->Bool:=λj=>f.getD j af
    have U:X i=af:=by
     grind
    have hgetset:∀j,(f.setIfInBounds i ae).getD j af=(X j || decide (j=i)):=by
     intro j;by_cases m:j=i
     .simp_all
     .simp only[X,ycw,ydc,m,decide_false,Bool.or_false];grind
    have W:(λj=>(f.setIfInBounds i ae).getD j af)=λj=>X j || decide (j=i):=funext hgetset;obtain⟨hg,hop⟩:=step X i o a w M U h E g;have hw:Region.wanted o (yielded ops a.tmps)=ae:=by simp[Region.wanted,hg]
    show wpOpIn F n P ops Q i _ a w;unfold wpOpIn;simp only[M,hw,if_true];refine hop _ λA w' G=>ih _ A w' (by simpa using S) ?_ ?_ ?_
    .have:=vu (Y:=λj=>(f.setIfInBounds i ae).getD j af) U hin (λj _=>hgetset j);have hX':gI X ops.size<=yD+1:=B;omega
    .intro j o' l hx e he hb;show(f.setIfInBounds i ae).getD e.on af=ae;rw[hgetset];have I:(f.setIfInBounds i ae).getD j af=ae:=hx;rw[hgetset]at I;by_cases m:j=i
     .subst m;rw[M]at l;cases l;have:X e.on=ae:=h e he hb;rw[this];rfl
     .simp only[m,decide_false,Bool.or_false]at I;have:X e.on=ae:=E j o' l I e he hb;rw[this];rfl
    .rw[W];exact G
 have y:∀j,(ycg ops.size af).getD j af=af:=by
  intro j;by_cases l:j < ops.size <;> simp[Array.getD,l]
 have hff:(λj=>(ycg ops.size af).getD j af)=λ_=>af:=funext y;refine R ops.size (ycg ops.size af) a _ (by simp) vt ?_ ?_
 .intro i o _ hx;grind
 grind
end
end Go.Ev
namespace Go.Ev
open Go.RowKit
section
variable{P:yg}
theorem ZCY{fn:Func}{J J':Sg}{a:Act}{ts':yL Dv}{H1 H':yL aq}{r:Dv}{keep:yL Nat}{hs:yL ar}{C:yL Prop}(ok:Ok J)(to:To J J')(z:Ok J')(e1:J'.H=H1)(m:aB J' ts' { a with defers:=[]})
 (g:fin P fn ts' H1 J.H.length keep hs=ab (C,r,H')) (hc:aZ C):
 ∃v,(results fn a.tmps).run P J'.w=.ok v J'.w/\∃J'',J''.w=J'.w/\J''.H=H'/\To J J''/\Ok J''/\yJ J'' r v:=by
 unfold fin at g;split at g
 .rename_i C1 B l;dsimp only at g
  have E:∀r,(kV B).rn (bg (yn J.H.length++keep))=ab r\/(kV (B.map Dv.arg)).rn (bg (yn J.H.length++keep))=ab r->once (yn J.H.length++keep)=ae->
   aN H1 (yn J.H.length++keep) (yn J.H.length++keep)=ab H'->aZ C1->∃v,(results fn a.tmps).run P J'.w=.ok v J'.w/\
    ∃J'',J''.w=J'.w/\J''.H=H'/\To J J''/\Ok J''/\yJ J'' r v:=by
   intro r hrn j f A;rw[<-e1]at l f;obtain⟨y,G,F⟩:=vB (P:=P) z m _ _ _ _ l A;refine⟨if h:y.toArray.size=1 then y.toArray[0] else .tuple y.toArray, ?_,gr J' (yn J.H.length++keep) H',rfl,rfl, ?_,pq z j f, ?_⟩
   .rw[Zuv,Sem.run_bind, <-Array.toArray_toList (xs:=fn.results),List.mapM_toArray];simp_all
   .exact pr ok to j f
   .rcases hrn with hrn|hrn
    .exact kZ (jC f) hrn (vC F)
    .refine kZ (jC f) hrn (vC ?_);exact TL F
  all_goals grind
 .cases g
def PX(J J':Sg)(f:yL Deferred):Prop:=
 f=[]\/∃D,f=[{ target:=.collected D,args:= #[]}]/\J.w.heap.size<=D/\(∀(id:Nat),J'.m[id]? ≠ab (ab D))/\J'.w.heap[D]? =ab (.deferred (ab []))
theorem ZyA{g:FuncId}{fn:Func}{c:Code}{args:yL Dv}{H H':yL aq}{r:Dv}(hf:P.funcs[g]? =ab fn)(hb:fn.body=ab c)
 (hr:∀(n:Nat)(J:Sg)(a:Act),Ok J->J.H=H->aB J (args++yx (fn.ntmps - args.length) .ak) { a with defers:=[]}->a.defers=[]->
   c.wpIn (Wd ad) n P (λe W w'=>(e=.ret\/e=.normal)/\∃J' ts' H1 keep hs C,J'.w=w'/\To J J'/\Ok J'/\J'.H=H1/\aB J' ts' { W with defers:=[]}/\fin P fn ts' H1 H.length keep hs=ab (C,r,H')/\aZ C/\PX J J' W.defers) a J.w):bZ P g args H r H':=by
 intro J vs M Q y;refine(callsIn_wide (n:=0)).1 (callsIn_of_wp_marks (F:=Wd ad) hf hb trivial ?_ rfl);have hl:=uQ y
 have yM:aB J (args++yx (fn.ntmps - args.length) .ak) { tmps:=vs.toArray++ycg (fn.ntmps - vs.toArray.size) undef,defers:=[]}:=by
  refine⟨by simp[hl],λi d E=> ?_,rfl⟩;rcases Nat.lt_or_ge i args.length with h1|h1
  .rw[List.getElem?_append_left h1]at E;obtain⟨v,m,G⟩:=uR y E
   have I:(vs.toArray++ycg (fn.ntmps - vs.toArray.size) undef)[i]? =ab v:=by
    grind
   simp_all
  .rw[List.getElem?_append_right h1]at E;have:=List.eq_of_mem_replicate (List.mem_of_getElem? E);rw[this];exact YG
 refine wpIn_mono (hr 0 J { tmps:=vs.toArray++ycg (fn.ntmps - vs.toArray.size) undef,defers:=[]} M Q yM rfl) ?_;rintro e a w' ⟨he,J',ts',H1,keep,hs,C,rfl,to,z,X,f,h,Y,A⟩
 have j:LeavesInM (Wd ad) 0 P fn a.tmps (λe w'=>∃v J'',e=.returned v/\J''.w=w'/\J''.H=H'/\To J J''/\Ok J''/\yJ J'' r v) a.defers .returning J'.w:=by
  rcases A with A|⟨D,A,hD,hn,Z⟩
  .rw[A];obtain⟨v,h1,J'',m,G,I,R,S⟩:=ZCY (a:=a) M to z X f (by rw[Q];exact h) Y;exact⟨v,h1,v,J'',rfl,m,G,I,R,S⟩
  .rw[A];obtain⟨l,T⟩:=Zyz (.deferred ad) z hn Z rfl
   have U:To J { J' with w:=J'.w.putObj D (.deferred ad)}:=⟨to.leaf.trans l,to.F,to.B,to.os,to.tape,to.output,(by
    show _<=(J'.w.putObj D (.deferred ad)).heap.size;rw[World.putObj_size];exact to.size),λb h1 m=>(World.putObj_heap_other (by omega)).trans (to.block b h1 m),to.same,to.len⟩
   obtain⟨v,h1,J'',m,G,I,R,S⟩:=ZCY (J':={ J' with w:=J'.w.putObj D (.deferred ad)}) (a:=a) M U T X (f.to l) (by rw[Q];exact h) Y;exact⟨by simp,.inl ⟨D,_,rfl,run_takeDeferred Z,v,h1,v,J'',rfl,m,G,I,R,S⟩⟩
 rcases he with rfl|rfl
 .exact j
 .exact j
end
end Go.Ev
end
section
set_option maxRecDepth 10000
namespace Go.Proofs.YtcbhhaigilifgaaGreat
open Go Go.Ev
noncomputable def gY:Array yj:=match ZL yb 128 with|.seq (.region _ o _) _=>o|_=> #[]
noncomputable def iU:Array yj:=match ZL yb 128 with|.seq _ (.block _ (.loop (.seq (.region _ o _) _)))=>o|_=> #[]
noncomputable def dK:Array yj:=match ZL yb 128 with|.seq _ (.block _ (.loop (.seq _ (.seq _ (.seq (.block _ (.seq (.region _ o _) _)) _)))))=>o|_=> #[]
noncomputable def ck:Array yj:=match ZL yb 128 with|.seq _ (.block _ (.loop (.seq _ (.seq _ (.seq (.block _ (.seq _ (.seq (.region _ o _) _))) _)))))=>o|_=> #[]
noncomputable def iV:Array yj:=match ZL yb 128 with|.seq _ (.block _ (.loop (.seq _ (.seq _ (.seq _ (.region _ o _))))))=>o|_=> #[]
noncomputable def PY:Code:=.seq (.region 1 iU af) (.seq (.cond (.tmp 12) .skip (.exit 0)) (.seq (.block 1 (.seq (.region 2 dK af) (.seq (.region 3 ck ae) (.cond (.tmp 23) .ret .skip)))) (.region 4 iV af)))
theorem ZF0:∃fn,yb.funcs[128]? =ab fn/\fn.body=ab (.seq (.region 0 gY af) (.block 0 (.loop PY)))/\fn.ntmps=25/\fn.results= #[]:=by
 have h:(yb.funcs[128]?).map (λfn=>(fn.body,fn.ntmps,fn.results))=ab (ab (.seq (.region 0 gY af) (.block 0 (.loop PY))),25, #[]):=by kernel_rfl
 obtain⟨fn,g,f⟩:=Option.map_eq_some_iff.1 h;simp only[yq]at f;exact⟨fn,g,f.1,f.2.1,f.2.2⟩
theorem qF:ck.size=9:=by kernel_rfl
def lT:Nat->yL Nat
 |2=>[1]|5=>[4]|6=>[3,5]|8=>[7]|_=>[]
def lU:Nat->yL Nat
 |1=>[5]|3=>[2]|4=>[5]|_=>[]
noncomputable def ce:Nat->yO Tmp:=aX ck.toList
theorem ZM8:∀i j,i < ck.size->j < ck.size->ce i≠ad->ce i=ce j->i=j:=by
 rw[qF];intro i j l m;have h:((yn 9).all λi=>(yn 9).all λj=>ce i==ad || !(ce i==ce j) || decide (i=j))=ae:=by kernel_rfl
 have h1:=yan.1 (yan.1 h i (ybv.2 l)) j (ybv.2 m);intro g f;rw[f]at g;simp only[yck,yP,yT,Bool.not_eq_true',beq_eq_false_iff_ne]at h1;rcases h1 with(h1|h1)|h1
 .exact absurd (f.symm.trans h1) g
 .exact absurd f h1
 .exact h1
structure It(N n:Nat)(Hm HS:Nat->List aq)(X:Nat->aq)(tsI tsC tsD tsG:Nat->List Dv)(goes:Nat->Bool)(D:Nat->Nat->Dv)(ch st:Nat->Pl)(its0:List Dv):Prop where
 e0:∃ts C hs,cu yb gY gY.toList its0 (Hm 0) hs=ab (C,ts,Hm 0,[])/\aZ C/\aI [1,2,9,10,11] 0 ts=tsI 0
 ix:∀k,(tsI k)[11]? =ab (.p (.int .i64 (k:Int)))
 e1:∀k,k<=n->∃C hs,cu yb iU iU.toList (tsI k) (Hm k) hs=ab (C,tsC k,Hm k,[])/\aZ C
 c1:∀k,(tsC k)[12]? =ab (.p (.bool (ag (k < n))))
 e2:∀k,k < n->∃C hs,cu yb dK dK.toList (tsC k) (Hm k) hs=ab (C,tsD k,Hm k++[X k],[])/\aZ C
 gZ:∀k,(tsD k).length=25
 e3:∀k,k < n->∀i,i < 7->∃C hs,cw yb (be ck i) (dg 25 ce (D k) (tsD k) (lT i) (lU i)) (Hm k++[X k]) hs=ab (C,D k i,Hm k++[X k],[])/\aZ C
 d0:∀k,D k 0=.ak
 d2:∀k,D k 2=.p (ch k)
 d6:∀k,D k 6=.p (st k)
 d7:∀k,D k 7=.p (.bool (goes k))
 d8:∀k,D k 8=.p (.bool (!goes k))
 e8:∀k H,cw yb (be ck 8) (dg 25 ce (D k) (tsD k) [7] []) H []=ab ([],D k 8,H,[])
 g:∀k,Dv.bB (bg (yn N)) (dg 25 ce (D k) (tsD k) [8] [1,2,9,10,11])=ab (tsG k)
 g23:∀k,(tsG k)[23]? =ab (.p (.bool (!goes k)))
 e4:∀k,k < n->goes k=ae->∃ts C hs,cu yb iV iV.toList (tsG k) (Hm (k+1)) hs=ab (C,ts,Hm (k+1),[])/\aZ C/\aI [1,2,9,10,11] 0 ts=tsI (k+1)
structure gc(N n:Nat)(Hm HS:Nat->List aq)(X:Nat->aq)(goes:Nat->Bool)(ch st:Nat->Pl)(l:Nat)(rc:Loop)(p1 p2:Tmp)(tsR:List Dv):Prop where
 round:∀k,k < n->∃ts1 ts2 H1 H2,bE yb (ab l) rc.assign ((tsR.set p1 (.p (ch k))).set p2 (.p (st k))) (Hm k++[X k]) .normal ts1 H1/\
  bE yb (ab l) rc.body ts1 H1 (if goes k=ae then .normal else .ret) ts2 H2/\aN H2 (yn N) (yn N)=ab (if goes k=ae then Hm (k+1) else HS k)
 bB:Dv.bB (bg (yn N)) tsR=ab tsR
theorem ZQr{ops:Array yj}{X:Nat->Bool}(hc:jf ops X){i j:Nat}(hi:i < ops.size)(he:bS (be ops i) j=ae)(g:X i=ae):X j=ae:=by
 have h:ops[i]? =ab (be ops i):=by
  unfold be;rw[ycw,ycm hi];rfl
 unfold bS at he;obtain⟨x,l,f⟩:=Array.any_eq_true'.1 he;simp only[yi,yT]at f;have:=hc i _ h g x l f.2;rw[<-f.1];exact this
def bare(t:Array yh):Act:={ tmps:=t,defers:=[]}
theorem ZyB{J:Sg}{ts:yL Dv}{t:Array yh}{p:Tmp}{d:Dv}{v:yh}(h:aB J ts (bare t))(hd:yJ J d v):aB J (ts.set p d) (bare (t.setIfInBounds p v)):=by
 have:=kp (o:={ dst:=ab p,op:=.move (.tmp 0),type:=0,pos:=default,after:= #[],guard:=ad}) h hd;exact this
def uC(a:Act):Nat:=match a.tmps.getD 11 undef with
 |.int _ x=>x.toNat
 |_=>0
theorem ZC0{J:Sg}{ts:yL Dv}{a:Act}{k:Nat}(h:aB J ts a)(f:ts[11]? =ab (.p (.int .i64 (k:Int)))):uC a=k:=by
 have:=ZH (h.at_ 11 _ f);unfold uC;rw[this];simp
theorem ZKL{Jb J1:Sg}{l D0:Nat}{B:Loop}{N n:Nat}{Hm HS:Nat->yL aq}{X:Nat->aq}{tsI tsC tsD tsG:Nat->yL Dv}{y:Nat->Bool}{D:Nat->Nat->Dv}{ch st:Nat->Pl}{its0:yL Dv}{p1 p2:Tmp}{tsR:yL Dv}
 (M:It N n Hm HS X tsI tsC tsD tsG y D ch st its0) (lo:gc N n Hm HS X y ch st l B p1 p2 tsR) (okb:Ok Jb) (hN:Jb.H.length=N) (hrs:B.state=.ready) (hrp:B.pending=ad) (hps:B.params= #[p1,p2])
 (st1:St Jb l D0 B J1) (hH:J1.H=Hm 0) (vs:Array yh) (hvs:vs.size=3) (hv0:vs[0]? =ab (.func (.yield l) #[] #[])) (hrep0:aB J1 its0 { tmps:=vs++ycg 22 undef,defers:=[]}) (hrR:aB J1 tsR (bare B.tmps)) (m:Nat) (R:Ending->yy->Prop)
 (hdone:∀J',(∀j,j < n->y j=ae)->St Jb l D0 B J'->J'.H=Hm n->aB J' tsR (bare B.tmps)->∀v,R (.returned v) J'.w)
 (hstop:∀J' k,k < n->y k=af->(∀j,j < k->y j=ae)->St Jb l D0 { B with state:=.done,pending:=ab .ret} J'->J'.H=HS k->aB J' tsR (bare B.tmps)->∀v,R (.returned v) J'.w):
 CallsIn (Wd ad) m yb 128 vs J1.w R:=by
 obtain⟨fn,hf,hb,hnt,hres⟩:=ZF0;refine callsIn_of_wp hf hb trivial ?_ rfl;rw[hnt,hvs];obtain⟨ts0,C0,hs0,e0,c0,m0⟩:=M.e0;have hrn:B.state=.ready:=hrs;have hrc:{ B with state:=.ready,pending:=ad}=B:=by cases B;simp_all
 have nd:gY.toList.all iS=ae/\iU.toList.all iS=ae/\dK.toList.all iS=ae/\iV.toList.all iS=ae:=⟨by kernel_rfl,by kernel_rfl,by kernel_rfl,by kernel_rfl⟩
 have nk:∀(o:Array yj),o=gY\/o=iU\/o=dK\/o=iV->o.toList.all (λo=>match o.dst with|some d=> !([0]:yL Nat).contains d|none=>ae)=ae:=by
  rintro o (rfl|rfl|rfl|rfl) <;> kernel_rfl
 refine wpIn_seq (wpIn_region_list (uA [0] gY.toList its0 J1 _ hs0 [] C0 (Hm 0) st1.ok hrep0 (by rw[hH];exact e0) c0 nd.1 (nk _ (.inl rfl)) λa2 J2 hk2 e2 to2 ok2 rep2 hd2=> ?_))
 have hy2:a2.tmps[0]? =ab (.func (.yield l) #[] #[]):=by
  rw[hk2 0 (by simp)];show(vs++ycg 22 undef)[0]? =_;rw[Array.getElem?_append_left (by omega)];exact hv0
 have st2:=st1.step to2 ok2;have rep2':aB J2 (tsI 0) { a2 with defers:=[]}:=by rw[<-m0];exact Qd _ rep2
 have rR2:=hrR.to to2.leaf
 have end_:∀(a:Act)(w:yy)(R':Prop),a.defers=[]->(∀v,R (.returned v) w)->bodyPost yb fn R .normal a w/\bodyPost yb fn R .ret a w:=λa w _ hd hR=>
  ⟨⟨hd,_,results_none hres _ _ _,hR _⟩,⟨hd,_,results_none hres _ _ _,hR _⟩⟩
 refine wpIn_block (wpIn_loop (λa w=>∃k J,k<=n/\J.w=w/\St Jb l D0 B J/\J.H=Hm k/\aB J (tsI k) { a with defers:=[]}/\a.defers=[]/\a.tmps[0]? =ab (.func (.yield l) #[] #[])/\aB J tsR (bare B.tmps)/\∀j,j < k->y j=ae)
  (λa _=>n - uC a) ⟨0,J2,Nat.zero_le _,rfl,st2,e2,rep2',hd2,hy2,rR2,λj T=>absurd T (Nat.not_lt_zero _)⟩ ?_)
 rintro a _ ⟨k,J,hk,rfl,hst,hHk,yM,hd,hy,hR,zU⟩;have hik:uC a=k:=ZC0 (a:={ a with defers:=[]}) yM (M.ix k);unfold PY;obtain⟨C1,hs1,e1,c1⟩:=M.e1 k hk;refine wpIn_seq (wpIn_region_list (uA [0] iU.toList (tsI k) J a hs1 [] C1 (Hm k) hst.ok yM (by rw[hHk];exact e1) c1 nd.2.1 (nk _ (.inr (.inl rfl))) λa3 J3 hk3 e3 to3 ok3 rep3 hd3=> ?_));have st3:=hst.step to3 ok3;have hy3:=(hk3 0 (by simp)).trans hy;have rR3:=hR.to to3.leaf;have hc12:=Yl (rep3.at_ 12 _ (M.c1 k));by_cases U:k < n
 . 
  refine wpIn_seq (wpIn_cond_true (by rw[yY U]at hc12;exact hc12) (wpIn_skip ?_));obtain⟨C2,hs2,e2',c2⟩:=M.e2 k U;refine wpIn_seq (wpIn_block (wpIn_seq (wpIn_region_list (uA [0] dK.toList (tsC k) J3 a3 hs2 [] C2 (Hm k++[X k]) ok3 rep3 (by rw[e3];exact e2') c2 nd.2.2.1 (nk _ (.inr (.inr (.inl rfl)))) λa4 J4 hk4 e4 to4 ok4 rep4 hd4=> ?_))));have st4:=st3.step to4 ok4;have hy4:=(hk4 0 (by simp)).trans hy3;have rR4:=rR3.to to4.leaf;have hd4':a4.defers=[]:=hd4.trans (hd3.trans hd);obtain⟨ts1,ts2,H1,H2,ra,rb,hdrop⟩:=lo.round k U;let Q:Loop:=if y k=ae then B else{ B with state:=.done,pending:=ab .ret}
  let Inv:(Nat->Bool)->Act->yy->Prop:=λY a w=>∃J,J.w=w/\St Jb l D0 (bif Y 7 then Q else B) J/\J.H=(bif Y 7 then H2 else Hm k++[X k])/\aB J (dH 9 ce (D k) (tsD k) Y) { a with defers:=[]}/\a.defers=[]/\
   a.tmps[0]? =ab (.func (.yield l) #[] #[])/\(Y 0=ae->a.tmps[15]? =ab (.func (.yield l) #[] #[]))/\aB J tsR (bare B.tmps)
  refine wpIn_seq (ZMD (by kernel_rfl) (by kernel_rfl) Inv ?_ ?_ ?_)
  .have hdr:J4.w.grownBy { J4.w with drawn:=J4.w.drawn+1} ad:=⟨rfl,rfl,rfl,ym _,λ_ _ _=>rfl⟩;obtain⟨to5,ok5⟩:=nB ok4 hdr;refine⟨{ J4 with w:={ J4.w with drawn:=J4.w.drawn+1}},rfl,st4.step to5 ok5,e4, ?_,hd4',hy4,λh=>(by cases h),rR4.to to5.leaf⟩;rw[vn (λ_ _=>rfl)];exact rep4.to to5.leaf
  .rintro Y i o A w5 ho S hedge hcl ⟨J5,rfl,z,e5,F,Z,hy5,h15,rR5⟩;have G:i < 9:=by rw[<-qF];exact(ycv.1 ho).1
   have ho':o=be ck i:=by
    unfold be;rw[ycw,ho];rfl
   have hg:∀i,i < 9->(be ck i).guard=ad/\iS (be ck i)=ae:=by
    have h:((yn 9).all λi=>(be ck i).guard.isNone&&iS (be ck i))=ae:=by kernel_rfl
    intro i hi;have:=yan.1 h i (ybv.2 hi);simpa using this
   have hX':∀j,bS o j=ae->Y j=ae:=by
    intro j T;unfold bS at T;obtain⟨x,x1,x2⟩:=Array.any_eq_true'.1 T;simp only[yi,yT]at x2;rw[<-x2.1];exact hedge x x1 x2.2
   have ho'':=ho';subst ho'';refine⟨(hg i G).1,λK hK=> ?_⟩
   have hjs:∀i,i < 9->∀j,j∈lT i->j < 9/\bS (be ck i) j=ae:=by
    have h:((yn 9).all λi=>(lT i).all λj=>ag (j < 9)&&bS (be ck i) j)=ae:=by kernel_rfl
    intro i hi j T;have:=yan.1 (yan.1 h i (ybv.2 hi)) j T;simpa using this
   have fH:∀i,i < 9->∀s,s∈lU i->∀j,j < 9->ce j≠ab s:=by
    have h:((yn 9).all λi=>(lU i).all λs=>(yn 9).all λj=> !(ce j==ab s))=ae:=by kernel_rfl
    intro i hi s hs j T;have:=yan.1 (yan.1 (yan.1 h i (ybv.2 hi)) s hs) j (ybv.2 T);simpa using this
   have hu9:∀i j,i < 9->j < 9->ce i≠ad->ce i=ce j->i=j:=by
    have:=ZM8;rw[qF]at this;exact this
   have W:aB J5 (dg 25 ce (D k) (tsD k) (lT i) (lU i)) { A with defers:=[]}:=by
    have:=vz hu9 (λj T=>⟨(hjs i G j T).1,hX' j (hjs i G j T).2⟩) (fH i G) F;rw[M.gZ]at this;exact this
   have hput:∀(J6:Sg)(v:yh),cl J5 J6->yJ J6 (D k i) v->aB J6 (dH 9 ce (D k) (tsD k) (λj=>Y j || decide (j=i))) { A.put (be ck i).dst v with defers:=[]}:=by
    intro J6 v leaf hv;have h1:=kp (o:=be ck i) (F.to leaf) hv;rw[PS]at h1;have h2:=vo (ts0:=tsD k) (D:=D k) hu9 G S (λj(_:j < 9)=>rfl:∀j,j < 9->(λj=>Y j || decide (j=i)) j=(Y j || decide (j=i)));have hd:(be ck i).dst=ce i:=by simp[ce,aX,ho]
    rw[hd]at h1 ⊢;rw[h2]at h1;exact h1
   have hd0:∀i,i < 9->∀d,(be ck i).dst=ab d->d≠0/\(d=15->i=0):=by
    have h:((yn 9).all λi=>match (be ck i).dst with|some d=> !(d==0)&&(!(d==15) || decide (i=0))|none=>ae)=ae:=by kernel_rfl
    intro i hi d hd;have:=yan.1 h i (ybv.2 hi);rw[hd]at this;simp only[yi,Bool.not_eq_true',beq_eq_false_iff_ne,yck,yP]at this;exact⟨this.1,λe=>this.2.resolve_left (λh=>h e)⟩
   have hy6:∀v,(A.put (be ck i).dst v).tmps[0]? =ab (.func (.yield l) #[] #[]):=by
    intro v;unfold Act.put
    cases hd:(be ck i).dst with
    |none=>exact hy5
    |some d=>
     show(A.tmps.setIfInBounds d v)[0]? =_;rw[ydc,yX (hd0 i G d hd).1];exact hy5
   have h156:∀v,i≠0->Y 0=ae->(A.put (be ck i).dst v).tmps[15]? =ab (.func (.yield l) #[] #[]):=by
    intro v jo hY0;unfold Act.put
    cases hd:(be ck i).dst with
    |none=>exact h15 hY0
    |some d=>
     show(A.tmps.setIfInBounds d v)[15]? =_;rw[ydc,yX (λe=>jo ((hd0 i G d hd).2 e))];exact h15 hY0
   have h7:i < 7->Y 7=af:=by
    intro hi
    cases h:Y 7 with
    |false=>rfl
    |true=>
     exfalso
     suffices hh:af=ae by cases hh
     have u:∀a b,a < 9->bS (be ck a) b=ae->Y a=ae->Y b=ae:=λa b ha he hx=>ZQr hcl (by rw[qF];exact ha) he hx;have y0:=u 7 0 (by decide) (by kernel_rfl) h;have y2:=u 7 2 (by decide) (by kernel_rfl) h;have y6:=u 7 6 (by decide) (by kernel_rfl) h;have y1:=u 2 1 (by decide) (by kernel_rfl) y2;have y3:=u 6 3 (by decide) (by kernel_rfl) y6;have y5:=u 6 5 (by decide) (by kernel_rfl) y6;have y4:=u 5 4 (by decide) (by kernel_rfl) y5;have:i=0\/i=1\/i=2\/i=3\/i=4\/i=5\/i=6:=by omega
     rcases this with rfl|rfl|rfl|rfl|rfl|rfl|rfl
     .exact S.symm.trans y0
     .exact S.symm.trans y1
     .exact S.symm.trans y2
     .exact S.symm.trans y3
     .exact S.symm.trans y4
     .exact S.symm.trans y5
     .exact S.symm.trans y6
   have off:∀{Y7:Bool},Y 7=Y7->i≠7->(Y 7 || decide (7=i))=Y7:=λh hi=>by rw[h,yZ (λe=>hi e.symm),Bool.or_false]
   by_cases jo:i=0
   .subst jo;have hY7:=h7 (by decide);rw[hY7]at z e5
    replace z:St Jb l D0 B J5:=z
    replace e5:J5.H=Hm k++[X k]:=e5
    have ho0:(be ck 0).op=.move (.tmp 0):=by kernel_rfl
    have hds:(be ck 0).dst=ab 15:=by kernel_rfl
    have zB:(execOp ({ A with defers:=[]}:Act).eval (be ck 0)).run yb J5.w=.ok (.value (.func (.yield l) #[] #[])) J5.w:=by
     have he:({ A with defers:=[]}:Act).eval (.tmp 0)=.func (.yield l) #[] #[]:=by
      show A.tmps.getD 0 undef=_;rw[ycw,hy5];rfl
     simp[execOp,ho0,he]
    refine PQ (a0:={ A with defers:=[]}) (qE (hg 0 G).2) rfl ?_;unfold Oper.wp;rw[zB];have e:({ ({ A with defers:=[]}:Act).put (be ck 0).dst (.func (.yield l) #[] #[]) with defers:=A.defers}:Act)=A.put (be ck 0).dst (.func (.yield l) #[] #[]):=by unfold Act.put;cases (be ck 0).dst <;> rfl
    refine⟨nc, ?_⟩;rw[e];have hD0:D k 0=.ak:=M.d0 k;refine hK _ _ ⟨J5,rfl, ?_, ?_,hput J5 _ (cl.refl J5) (by rw[hD0];exact YG),nc.trans Z,hy6 _,λ_=> ?_,rR5⟩
    .dsimp only;rw[off hY7 (by decide)];exact z
    .dsimp only;rw[off hY7 (by decide)];exact e5
    .rw[hds];show(A.tmps.setIfInBounds 15 _)[15]? =_
     have hsz:A.tmps.size=25:=by
      have:=F.size;rw[X4,M.gZ]at this;exact this
     rw[ydc];simp[hsz]
   .by_cases tB:i < 7
    .have hY7:=h7 tB;rw[hY7]at z e5
     replace z:St Jb l D0 B J5:=z
     replace e5:J5.H=Hm k++[X k]:=e5
     obtain⟨C3,hs3,ev3,c3⟩:=M.e3 k U i tB;refine PR (qE (hg i G).2) (Ye (P:=yb) z.ok W (by rw[e5];exact ev3) c3) λv J6 e6 to6 ok6 hv6=> ?_;refine hK _ _ ⟨J6,rfl, ?_, ?_,hput J6 v to6.leaf hv6,nc.trans Z,hy6 v,λh=>h156 v jo ?_,rR5.to to6.leaf⟩
     .dsimp only;rw[off hY7 (by omega)];exact z.step to6 ok6
     .dsimp only;rw[off hY7 (by omega)];exact e6
     .dsimp only at h;rw[yZ (λe=>jo e.symm),Bool.or_false]at h;exact h
    .have h78:i=7\/i=8:=by omega
     rcases h78 with rfl|rfl
     . 
      rw[S]at z e5
      replace z:St Jb l D0 B J5:=z
      replace e5:J5.H=Hm k++[X k]:=e5
      have y0:=hX' 0 (by kernel_rfl);have y2:=hX' 2 (by kernel_rfl);have y6:=hX' 6 (by kernel_rfl)
      have q17:yJ J5 (.p (ch k)) (A.tmps.getD 17 undef):=by
       have:=F.at_ 17 (.p (ch k)) (by rw[iA (by rw[M.gZ];decide),Qz hu9 (j:=2) (by decide) y2 (by kernel_rfl),M.d2]);exact this
      have q21:yJ J5 (.p (st k)) (A.tmps.getD 21 undef):=by
       have:=F.at_ 21 (.p (st k)) (by rw[iA (by rw[M.gZ];decide),Qz hu9 (j:=6) (by decide) y6 (by kernel_rfl),M.d6]);exact this
      have ho7:(be ck 7).op=.call { callee:=.value (.tmp 15),args:= #[.tmp 17,.tmp 21],argTypes:= #[35,39]}:=by kernel_rfl
      have hfold:(B.params.zip #[A.tmps.getD 17 undef,A.tmps.getD 21 undef]).foldl (λtmps(x:Tmp×yh)=>tmps.setIfInBounds x.1 x.2) B.tmps=(B.tmps.setIfInBounds p1 (A.tmps.getD 17 undef)).setIfInBounds p2 (A.tmps.getD 21 undef):=by rw[hps];simp
      have hyl:=run_yield (P:=yb) (args:= #[A.tmps.getD 17 undef,A.tmps.getD 21 undef]) z.hl (by rw[hps];rfl)
      have c:A.eval (.tmp 15)=.func (.yield l) #[] #[]:=by
       show A.tmps.getD 15 undef=_;rw[ycw,h15 y0];rfl
      have f:A.eval (.tmp 17)=A.tmps.getD 17 undef:=rfl;have q:A.eval (.tmp 21)=A.tmps.getD 21 undef:=rfl
      have zB:(execOp A.eval (be ck 7)).run yb J5.w=.ok (.round l B.fn ((B.tmps.setIfInBounds p1 (A.tmps.getD 17 undef)).setIfInBounds p2 (A.tmps.getD 21 undef)) B.assign B.body) J5.w:=by
       rw[<-hfold];simp only[execOp,ho7,resolve,c,Sem.run_bind,Sem.run_pure,Result.andThen_ok];simp[go_sem,c,f,q,invoke,Result.andThen];simpa using hyl
      unfold Oper.wpIn;refine⟨λ_ _=>trivial, ?_⟩;rw[Oper.semAt_plain _ _ _ (qE (hg 7 G).2),zB];refine⟨λhh=>by simp[Fence.wide]at hh, ?_⟩;refine ZKJ z hrs e5 (tsR:=(tsR.set p1 (.p (ch k))).set p2 (.p (st k))) (ZyB (ZyB rR5 q17) q21) ra rb ?_ _ λJ6 I leaf6 e6=> ?_
      .cases y k
       .exact .inr rfl
       .exact .inl rfl
      .show K (A.put (be ck 7).dst _) J6.w;have on:(Y 7 || decide (7=7))=ae:=by rw[yY rfl,Bool.or_true]
       have hb:ag ((if y k=ae then Ex.normal else Ex.ret)=Ex.normal)=y k:=by cases y k <;> rfl
       rw[hb];refine hK _ _ ⟨J6,rfl, ?_, ?_,hput J6 _ leaf6 (by rw[M.d7];exact Yh _),nc.trans Z,hy6 _,λh=>h156 _ (by decide) ?_,rR5.to leaf6⟩
       .dsimp only;rw[on];show St Jb l D0 Q J6
        cases E:y k with
        |true=>
         simp only[E,if_true]at I;rw[hrc]at I;simp only[Q,E,if_true]
         exact I
        |false=>
         simp only[E]at I;simp only[Q,E];exact I
       .dsimp only;rw[on];exact e6
       .dsimp only at h;rw[yZ (by decide:¬(0=7)),Bool.or_false]at h;exact h
     .have y7:=hX' 7 (by kernel_rfl);rw[y7]at z e5
      replace z:St Jb l D0 Q J5:=z
      replace e5:J5.H=H2:=e5
      refine PR (qE (hg 8 G).2) (Ye (P:=yb) z.ok W (M.e8 k _) trivial) λv J6 e6 to6 ok6 hv6=> ?_;refine hK _ _ ⟨J6,rfl, ?_, ?_,hput J6 v to6.leaf hv6,nc.trans Z,hy6 v,λh=>h156 v (by decide) ?_,rR5.to to6.leaf⟩
      .dsimp only;rw[off y7 (by decide)];exact z.step to6 ok6
      .dsimp only;rw[off y7 (by decide)];exact e6.trans e5
      .dsimp only at h;rw[yZ (by decide:¬(0=8)),Bool.or_false]at h;exact h
  .rintro Y A w5 hY ⟨J5,rfl,z,e5,F,Z,hy5,h15,rR5⟩;rw[qF]at hY;rw[hY 7 (by decide)]at z e5
   replace z:St Jb l D0 Q J5:=z
   replace e5:J5.H=H2:=e5
   have hu9:∀i j,i < 9->j < 9->ce i≠ad->ce i=ce j->i=j:=by
    have:=ZM8;rw[qF]at this;exact this
   have W:=vz hu9 (js:=[8]) (is:=[1,2,9,10,11]) (λj T=>by simp only[ybf]at T;subst T;exact⟨by decide,hY 8 (by decide)⟩) (by
    have h:(([1,2,9,10,11]:yL Nat).all λs=>(yn 9).all λj=> !(ce j==ab s))=ae:=by kernel_rfl
    intro s hs j T;have:=yan.1 (yan.1 h s hs) j (ybv.2 T);simpa using this) F
   rw[M.gZ]at W;have hL:yn Jb.H.length++[]=yn N:=by rw[hN,yba]
   have hin:aN J5.H (yn Jb.H.length++[]) (yn Jb.H.length++[])=ab (if y k=ae then Hm (k+1) else HS k):=by rw[hL,e5];exact hdrop
   have ho:once (yn Jb.H.length++[])=ae:=by rw[yba];exact ZDY _
   have I:=z.drop okb [] ho hin;have rep6:=vD (jC hin) (by rw[hL];exact M.g k) W;have rR6:=vD (jC hin) (by rw[hL];exact lo.bB) rR5;have h23:=Yl (rep6.at_ 23 _ (M.g23 k))
   cases E:y k with
   |true=>
    rw[E]at h23;refine wpIn_cond_false h23 (wpIn_skip ?_);have hrc':Q=B:=by simp only[Q,E,if_true]
    rw[hrc']at I;obtain⟨ts4,C4,hs4,e4',c4,m4⟩:=M.e4 k U E
    have e6:(gr J5 (yn Jb.H.length++[]) (if y k=ae then Hm (k+1) else HS k)).H=Hm (k+1):=by
     show(if y k=ae then Hm (k+1) else HS k)=_
     rw[E,yW rfl]
    refine wpIn_region_list (uA [0] iV.toList (tsG k) (gr J5 (yn Jb.H.length++[]) (if y k=ae then Hm (k+1) else HS k)) A hs4 [] C4 (Hm (k+1)) I.ok rep6 (by rw[e6];exact e4') c4 nd.2.2.2 (nk _ (.inr (.inr (.inr rfl)))) λa7 J7 hk7 e7 to7 ok7 rep7 hd7=> ?_)
    have rep7':aB J7 (tsI (k+1)) { a7 with defers:=[]}:=by rw[<-m4];exact Qd _ rep7
    refine⟨⟨k+1,J7,U,rfl,I.step to7 ok7,e7,rep7',hd7.trans Z,(hk7 0 (by simp)).trans hy5,rR6.to to7.leaf,λj T=> ?_⟩, ?_⟩
    .rcases Nat.lt_or_ge j k with h|h
     .exact zU j h
     .have:j=k:=by omega
      rw[this];exact E
    .have:=ZC0 (a:={ a7 with defers:=[]}) rep7' (M.ix (k+1));have h2:uC a7=k+1:=this;rw[h2,hik]
     omega
   |false=>
    rw[E]at h23;refine wpIn_cond_true h23 (wpIn_ret ?_)
    have e6:(gr J5 (yn Jb.H.length++[]) (if y k=ae then Hm (k+1) else HS k)).H=HS k:=by
     show(if y k=ae then Hm (k+1) else HS k)=_
     rw[E];rfl
    have st7:=I;simp only[Q,E]at st7;exact(end_ A _ True Z λv=>hstop (gr J5 (yn Jb.H.length++[]) (if y k=ae then Hm (k+1) else HS k)) k U E zU (by simpa[E] using st7) e6 rR6 v).2
 . 
  have hkn':k=n:=by omega
  subst hkn';refine wpIn_seq (wpIn_cond_false (by rw[yZ U]at hc12;exact hc12) (wpIn_exit ?_));exact(end_ a3 _ True (hd3.trans hd) λv=>hdone J3 zU st3 e3 rR3 v).1
theorem ZQs(y v1 v2:yh)(r:Array yh):(#[y,v1,v2]++r).getD 1 undef=v1/\(#[y,v1,v2]++r).getD 2 undef=v2:=by
 constructor
 .rw[ycw,Array.getElem?_append_left (by simp)];rfl
 .rw[ycw,Array.getElem?_append_left (by simp)];rfl
theorem ZC1{J:Sg}{a:Act}{N n:Nat}{Hm HS:Nat->yL aq}{X:Nat->aq}{tsI tsC tsD tsG:Nat->yL Dv}{z:Nat->Bool}{D:Nat->Nat->Dv}{ch st:Nat->Pl}{G ts:yL Dv}{g p1 p2 i j:Nat}{assign body:Code}
 (it:It N n Hm HS X tsI tsC tsD tsG z D ch st G) (ok:Ok J) (hN:(Hm 0).length=N) (hH:J.H=Hm 0) (yM:aB J ts { a with defers:=[]}) (hd:a.defers=[]) (hg:ts[g]? =ab (.fn 128 [.aj i 0 [],.aj j 0 []]))
 (Y:G=.ak::.aj i 0 []::.aj j 0 []::yx 22 .ak) (lo:∀l B,B.assign=assign->B.body=body->gc N n Hm HS X z ch st l B p1 p2 ts) (m:Nat) (Q:Exit->Act->yy->Prop)
 (hn:∀J' S,(∀k,k < n->z k=ae)->S.tmps=a.tmps->To J J'->Ok J'->J'.H=Hm n->aB J' ts { S with defers:=[]}->PX J J' S.defers->Q .normal S J'.w)
 (hs:∀J' S k,k < n->z k=af->(∀j,j < k->z j=ae)->S.tmps=a.tmps->To J J'->Ok J'->J'.H=HS k->aB J' ts { S with defers:=[]}->PX J J' S.defers->Q .ret S J'.w):
 (Code.rangeFunc (.tmp g) #[p1,p2] assign body).wpIn (Wd ad) m yb Q a J.w:=by
 refine wpIn_rangeFunc ?_;intro fn _;obtain⟨cs,hv,T⟩:=SJ (by decide:128 < big) (yM.at_ g _ hg);have hv:a.eval (.tmp g)=.func (.func 128) #[] cs:=hv;simp only[aH]at T;obtain⟨v1,r1,hcs1,q1,v2,r2,hcs2,q2,hcs3⟩:=T;have hcs4:cs.toList=[v1,v2]:=by rw[hcs1,hcs2,hcs3]
 have T:cs= #[v1,v2]:=Array.toList_inj.1 hcs4;subst T;obtain⟨B,f⟩:∃B:Loop,B={ state:=.ready,pending:=ad,fn,tmps:=a.tmps,params:= #[p1,p2],assign,body,defers:=J.w.heap.size}:=⟨_,rfl⟩;obtain⟨W1,U⟩:∃W1,(J.w.alloc (.deferred (ab []))).alloc (.loop B)=W1:=⟨_,rfl⟩
 have hgr:J.w.grownBy W1 ad:=by
  rw[<-U];exact(World.grownBy_alloc J.w _ ad).andThen (World.grownBy_alloc _ _ ad) (by intro j hj;cases hj)
 obtain⟨W,ok1⟩:=nB ok hgr
 have hl1:W1.heap[J.w.heap.size+1]? =ab (.loop B):=by
  rw[<-U];have:=World.alloc_heap_new (J.w.alloc (.deferred (ab []))) (.loop B)
  rwa [World.size_alloc]at this
 have hd1:W1.heap[J.w.heap.size]? =ab (.deferred (ab [])):=by
  rw[<-U,heap_alloc_old _ _ (by simp)];exact World.alloc_heap_new J.w _
 have st1:St J (J.w.heap.size+1) J.w.heap.size B { J with w:=W1}:=⟨W,ok1,by omega,ym _,by omega,λid h=>by have:=ok.lt id _ h;omega,λid h=>by have:=ok.lt id _ h;omega,hl1,hd1⟩;have Z:({ a with defers:=[{ target:=.collected J.w.heap.size,args:= #[]}]++a.defers}:Act).defers=[{ target:=.collected J.w.heap.size,args:= #[]}]:=by rw[hd];rfl
 obtain⟨fn',hf,hb,_,_⟩:=ZF0
 have hnm:fn'.name≠ "runtime.NumGoroutine" :=by
  have h:(yb.funcs[128]?).map (λfn=>(fn.name== "runtime.NumGoroutine"))=ab af:=by kernel_rfl
  rw[hf]at h;simpa using h
 have eg:∀I w,(callFunc 128 I).run yb w=.ok (.enter 128 I) w:=by
  intro I w;simp[callFunc,hf,hnm,hb,mark]
 refine⟨J.w.heap.size+1,[{ target:=.collected J.w.heap.size,args:= #[]}],W1,{ target:=.fn (.func 128) #[v1,v2],args:= #[.func (.yield (J.w.heap.size+1)) #[] #[]]},W1,128,
  #[.func (.yield (J.w.heap.size+1)) #[] #[],v1,v2],W1, ?_, ?_,λ_ _=>trivial, ?_,λhh=>by simp[Fence.wide]at hh, ?_⟩
 .rw[<-U,f];exact run_enterLoop_outer _ _ _ _ _
 .simp only[resolve,hv];simp[go_sem]
 .simp[invoke,go_sem,eg _ W1]
 .have hat:∀(k:Nat)d,G[k]? =ab d->yJ { J with w:=W1} d ((#[Value.func (.yield (J.w.heap.size+1)) #[] #[],v1,v2]++ycg 22 undef).getD k undef):=by
   intro k d F;rw[Y]at F
   match k,F with
   |0,F=>cases F;exact YG
   |1,F=>
    cases F;rw[(ZQs _ _ _ _).1]
    exact Qa W.leaf q1
   |2,F=>
    cases F;rw[(ZQs _ _ _ _).2]
    exact Qa W.leaf q2
   |k+3,F=>
    have h9:(yx 22 Dv.ak)[k]? =ab d:=F;have:d=.ak:=List.eq_of_mem_replicate (List.mem_of_getElem? h9);rw[this];exact YG
  refine ZKL it (lo _ B (by rw[f]) (by rw[f])) ok (by rw[hH];exact hN) (by rw[f]) (by rw[f]) (by rw[f]) st1 hH _ rfl rfl ⟨by rw[Y];simp,hat,rfl⟩ (by rw[f];exact yM.to W.leaf) _ _ (λJ' zU M e' R v=> ?_) (λJ' k F hgk zU M e' R v=> ?_)
  .have hp:B.pending=ad:=by rw[f]
   obtain⟨y,E⟩:=M.turn { B with state:=.exhausted,pending:=ad};refine⟨ad,_,by have:=run_endLoop (P:=yb) M.hl (by rw[f];simp);rw[hp]at this;exact this, ?_⟩;have A:=R.to E;rw[f]at A;refine hn { J' with w:=J'.w.putObj (J.w.heap.size+1) (.loop { B with state:=.exhausted,pending:=ad})} { a with defers:=[{ target:=.collected J.w.heap.size,args:= #[]}]++a.defers} zU rfl y.to y.ok e' (by rw[f];exact A) (.inr ⟨J.w.heap.size,Z,ym _,y.nd,y.hd⟩)
  .obtain⟨y,E⟩:=M.turn { B with state:=.exhausted,pending:=ab .ret};refine⟨ab .ret,_,by have:=run_endLoop (P:=yb) M.hl (by simp);rw[this], ?_⟩;have A:=R.to E;rw[f]at A;exact wpIn_ret (hs { J' with w:=J'.w.putObj (J.w.heap.size+1) (.loop { B with state:=.exhausted,pending:=ab .ret})} { a with defers:=[{ target:=.collected J.w.heap.size,args:= #[]}]++a.defers} k F hgk zU rfl y.to y.ok e' (by rw[f];exact A) (.inr ⟨J.w.heap.size,Z,ym _,y.nd,y.hd⟩))
end Go.Proofs.YtcbhhaigilifgaaGreat
end
section
set_option maxRecDepth 10000
namespace Go.Proofs.YtcbhhaigilifgaaGreat
open Go Go.Ev
noncomputable section
theorem ZyC{s:yG}{d:yL Int}{t:yG}(h:ZP yD s d=ab t):bZ yb 15 [.p (Zc.enc s),.p (Ty.enc (.arr 2 (.int .i64)) d)] [] (.p (Zc.enc t)) []:=by
 obtain⟨j,R,H,f,l,m⟩:=JE (s,d) t h;have g:Sh.fills [.v Zc,.v (.arr 2 (.int .i64))] (dq [Zc,(.arr 2 (.int .i64))] (s,d))=ab ([.p (.v Zc s),.p (.v (.arr 2 (.int .i64)) d)],[]):=by kernel_rfl
 have f:=g.symm.trans f;cases f;cases l;obtain⟨r,y,z⟩:=m _ _ ([.p (.v Zc t)],[]) ⟨rfl,rfl⟩ (by kernel_rfl);cases y;exact z
theorem ZHB{c:Chan}{s:yG}{b:Bool}(h:aL yD c s=ab b):bZ yb 20 [.p (Zf.enc c),.p (Zc.enc s)] [] (.p (.bool b)) []:=by
 obtain⟨j,R,H,f,l,m⟩:=tJ (c,s) b h;have g:Sh.fills [.v Zf,.v Zc] (dq [Zf,Zc] (c,s))=ab ([.p (.v Zf c),.p (.v Zc s)],[]):=by kernel_rfl
 have f:=g.symm.trans f;cases f;cases l;obtain⟨r,y,z⟩:=m _ _ ([.p (.v .bool b)],[]) ⟨rfl,rfl⟩ (by kernel_rfl);cases y;exact z
abbrev ep(v n:Nat):aq:=.var (.agg [.rv 1 v 60 0 n]) ae
abbrev eu(v n:Nat)(ls:yL Zq):aq:=.row v 60 ae 112 (.p (.arr n 60 (ls.map Zu.enc)))
theorem Zwy(v n:Nat)(ls:yL Zq)(s:yG):bZ yb 71 [.aj 0 0 [],.p (Zc.enc s)] [ep v n,eu v n ls] (.fn 128 [.aj 2 0 [],.aj 3 0 []]) [ep v n,eu v n ls,.var (.aj 0 0 []) ae,.var (.p (Zc.enc s)) ae]:=
 ZNt [.raw,.raw,.raw,.raw] [2,3] [] (by kernel_rfl) trivial rfl rfl
section
variable(N:Nat)(v n:Nat)(s:yG)(L:Nat->Zq)(mv:Nat->yG)(rt:Nat->Bool)
abbrev kc(x:Zq):Pl:=Zu.enc x
noncomputable def PZ(i j:Nat)(k:Nat):yL Dv:=[.ak,.aj i 0 [],.aj j 0 [],.ak,.ak,.ak,.ak,.ak,.ak,.rv 1 v 60 0 n,.p (.int .i64 (n:Int)),.p (.int .i64 (k:Int)),.ak,.ak,.ak,.ak,.ak,.ak,.ak,.ak,.ak,.ak,.ak,.ak,.ak]
noncomputable def uD(i j:Nat)(k:Nat):yL Dv:=(PZ v n i j k).set 12 (.p (.bool (ag ((k:Int) < (n:Int)))))
noncomputable def itD(i j:Nat)(k:Nat):yL Dv:=(((uD v n i j k).set 13 (.ba 1 v ((0+k)*60) [0+k])).set 14 (.p (kc (L k)))).set 5 (.aj N 0 [])
noncomputable def AH(i j:Nat)(k:Nat):yL Dv:=[.ak,.aj i 0 [],.aj j 0 [],.ak,.ak,.ak,.ak,.ak,.ak,.rv 1 v 60 0 n,.p (.int .i64 (n:Int)),.p (.int .i64 (k:Int)),.ak,.ak,.ak,.ak,.ak,.ak,.ak,.ak,.ak,.ak,.ak,.p (.bool (!rt k)),.ak]
noncomputable def itZ(i j:Nat):yL Dv:=[.ak,.aj i 0 [],.aj j 0 [],.ak,.ak,.ak,.aj 0 0 [],.aj 0 0 [],.aj 0 0 [0],.rv 1 v 60 0 n,.p (.int .i64 (n:Int)),.p (.int .i64 0),.ak,.ak,.ak,.ak,.ak,.ak,.ak,.ak,.ak,.ak,.ak,.ak,.ak]
noncomputable def ZQt(k:Nat):Nat->Dv
 |1=>.aj N 0 [0]
 |2=>.p (Zf.enc (L k).1)
 |3=>.p (Zc.enc s)
 |4=>.aj N 57 [1]
 |5=>.p (Ty.enc (.arr 2 (.int .i64)) (L k).2.1)
 |6=>.p (Zc.enc (mv k))
 |7=>.p (.bool (rt k))
 |8=>.p (.bool (!rt k))
 |_=>.ak
abbrev fb(k:Nat):aq:=.var (.p (kc (L k))) ae
end
theorem ZO1{α β:Type}(f:α->β)(l:yL α)(d:α){k:Nat}(h:k < l.length):(l.map f)[0+k]? =ab (f (l.getD k d)):=by
 grind
theorem ZF1{ls:yL Zq}{k:Nat}(h:k < ls.length):(ls.map Zu.enc)[0+k]? =ab (kc (ls.getD k default)):=ZO1 (α:=Zq) Zu.enc ls default h
theorem ZC2{P:yg}{ops:Array yj}{o:yj}{ts:yL Dv}{H:yL aq}{t x id v off i n s:Nat}{st:Bool}{e:TypeId}{xs:yL Pl}{y:Pl}{hs:yL ar}(g:o.guard=ad)(ho:o.op=.load t (.tmp x))(h:ts.getD x .ak=.ba id v off [i])(hH:H[id]? =ab (.row v s st e (.p (.arr n s xs))))
 (j:fS P t (.p y)=ae):cY P ops o ts H (.el y::hs)=ab ([xs[i]? =ab y,i*s+0=off],.p y,H,hs):=by
 have f:aC P ts 0 (.tmp x)=.ba id v off [i]:=h
 have l:bj P o ts (.el y::hs)=ad:=by
  unfold bj;grind
 have m:bH P o ts H (.el y::hs)=ab ([xs[i]? =ab y,i*s+0=off],.p y,hs):=by
  unfold bH;rw[ho];dsimp only;rw[f];dsimp only;rw[hH];dsimp only[Z9,Option.map];rw[j];simp
 unfold cY;rw[g];dsimp only;unfold cw;rw[l];dsimp only;rw[m];rfl
theorem AI{P:yg}{ops:Array yj}{o:yj}{l:yL yj}{ts ts':yL Dv}{H H1 H':yL aq}{hs hs1 hs':yL ar}{C C':yL Prop}{d:Dv}(h:cY P ops o ts H hs=ab (C,d,H1,hs1))(k:cu P ops l (fB ts o.dst d) H1 hs1=ab (C',ts',H',hs')):
 cu P ops (o::l) ts H hs=ab (C++C',ts',H',hs'):=by
 simp only[cu,h,k]
noncomputable def ZQu:Array yj:=match ZL yb 27 with|.seq _ (.seq (.seq _ (.block _ (.rangeFunc _ _ (.seq (.region _ o _) _) _))) _)=>o|_=> #[]
noncomputable def ZQv:Array yj:=match ZL yb 27 with|.seq _ (.seq (.seq _ (.block _ (.rangeFunc _ _ (.seq _ (.region _ o _)) _))) _)=>o|_=> #[]
noncomputable def ZM9:Array yj:=match ZL yb 27 with|.seq _ (.seq (.seq _ (.block _ (.rangeFunc _ _ _ (.block _ (.seq (.region _ o _) _))))) _)=>o|_=> #[]
noncomputable def ZQw:Array yj:=match ZL yb 27 with|.seq _ (.seq (.seq _ (.block _ (.rangeFunc _ _ _ (.block _ (.seq _ (.cond _ (.seq (.region _ o _) _) _)))))) _)=>o|_=> #[]
noncomputable def ZNa:Array yj:=match ZL yb 27 with|.seq (.region _ o _) _=>o|_=> #[]
noncomputable def ZNb:Array yj:=match ZL yb 27 with|.seq _ (.seq (.seq (.region _ o _) _) _)=>o|_=> #[]
noncomputable def ZNc:Array yj:=match ZL yb 27 with|.seq _ (.seq _ (.seq (.region _ o _) _))=>o|_=> #[]
noncomputable def ZNd:Code:=.seq (.region 2 ZQu af) (.region 3 ZQv af)
noncomputable def ZNe:Code:=.block 1 (.seq (.region 4 ZM9 af) (.cond (.tmp 15) (.seq (.region 5 ZQw af) .ret) .skip))
noncomputable def RA:Code:=.seq (.region 0 ZNa af) (.seq (.seq (.region 1 ZNb af) (.block 0 (.rangeFunc (.tmp 9) #[10,11] ZNd ZNe))) (.seq (.region 6 ZNc af) .ret))
theorem ZKN:∃fn,yb.funcs[27]? =ab fn/\fn.body=ab RA/\fn.ntmps=16/\fn.results= #[.cell 4 4]:=by
 have h:(yb.funcs[27]?).map (λfn=>(fn.body,fn.ntmps,fn.results))=ab (ab RA,16, #[.cell 4 4]):=by kernel_rfl
 grind
section
variable(v n:Nat)(ls:yL Zq)(s:yG)(mv:Nat->yG)(rt:Nat->Bool)
abbrev iW:yL aq:=[ep v n,eu v n ls,.var (.p (Zc.enc s)) ae,.var (.p (.bool af)) ae,.var (.aj 0 0 []) ae,.var (.p (Zc.enc s)) ae]
noncomputable def jr:yL Dv:=[.aj 0 0 [],.p (Zc.enc s),.ak,.aj 2 0 [],.aj 3 0 [],.ak,.ak,.aj 0 0 [],.p (Zc.enc s),.fn 128 [.aj 4 0 [],.aj 5 0 []],.ak,.ak,.ak,.ak,.ak,.ak]
end
theorem ZO2{v:Nat}{ls:yL Zq}{s:yG}{mv:Nat->yG}{rt:Nat->Bool}(hl:ls.length<=1000)(hm:∀k,k < ls.length->ZP yD s (ls.getD k default).2.1=ab (mv k)):
 It 6 ls.length (λ_=>iW v ls.length ls s) (λ_=>iW v ls.length ls s) (fb λk=>ls.getD k default) (PZ v ls.length 4 5) (uD v ls.length 4 5) (itD 6 v ls.length (λk=>ls.getD k default) 4 5) (AH v ls.length rt 4 5) rt
  (ZQt 6 s (λk=>ls.getD k default) mv rt) (λk=>Zf.enc (ls.getD k default).1) (λk=>Zc.enc (mv k)) (.ak::.aj 4 0 []::.aj 5 0 []::yx 22 .ak) where
 e0:=⟨itZ v ls.length 4 5,[(0:Nat)=0,(0:Nat)=0],[.raw],by kernel_rfl,⟨rfl,rfl,ao⟩,by kernel_rfl⟩
 ix k:=by kernel_rfl
 e1 k hk:=⟨[],[],by kernel_rfl,ao⟩
 c1 k:=by
  have h:(uD v ls.length 4 5 k)[12]? =ab (.p (.bool (ag ((k:Int) < (ls.length:Int))))):=by kernel_rfl
  grind
 e2 k hk:=by
  refine⟨[0<=(k:Int),(k:Int) < (ls.length:Int)]++([(ls.map Zu.enc)[0+k]? =ab (kc (ls.getD k default)),(0+k)*60+0=(0+k)*60]++[(0:Nat)=0]),[.el (kc (ls.getD k default)),.raw,.raw], ?_,⟨by omega,by omega,ZF1 hk,rfl,rfl,ao⟩⟩;have hl:dK.toList=[be dK 0,be dK 1,be dK 2,be dK 3]:=by kernel_rfl
  rw[hl];refine AI (H1:=iW v ls.length ls s) (hs1:=[.el (kc (ls.getD k default)),.raw,.raw]) (d:=.ba 1 v ((0+k)*60) [0+k]) (by kernel_rfl) (AI (d:=.p (kc (ls.getD k default))) (H1:=iW v ls.length ls s) (hs1:=[.raw,.raw]) ?_ (by kernel_rfl));exact ZC2 (t:=112) (x:=13) (id:=1) (v:=v) (n:=ls.length) (st:=ae) (e:=112) (by kernel_rfl) (by kernel_rfl) (by kernel_rfl) rfl (by kernel_rfl)
 gZ k:=by kernel_rfl
 e3 k hk i hi:=by
  match i,hi with
  |0,_=>exact⟨[],[.raw],by kernel_rfl,ao⟩
  |1,_=>exact⟨[],[],by kernel_rfl,ao⟩
  |2,_=>exact⟨[(0:Nat)=0],[],by kernel_rfl,⟨rfl,ao⟩⟩
  |3,_=>exact⟨[(0:Nat)=0],[],by kernel_rfl,⟨rfl,ao⟩⟩
  |4,_=>exact⟨[],[],by kernel_rfl,ao⟩
  |5,_=>exact⟨[(57:Nat)=57],[],by kernel_rfl,⟨rfl,ao⟩⟩
  |6,_=>exact⟨[bZ yb 15 [.p (Zc.enc s),.p (Ty.enc (.arr 2 (.int .i64)) (ls.getD k default).2.1)] [] (.p (Zc.enc (mv k))) []],[.call (.p (Zc.enc (mv k))) [] []],by kernel_rfl,⟨ZyC (hm k hk),ao⟩⟩
  |_+7,h=>exact absurd h (by omega)
 d0 k:=rfl
 d2 k:=rfl
 d6 k:=rfl
 d7 k:=rfl
 d8 k:=rfl
 e8 k H:=by kernel_rfl
 g k:=by kernel_rfl
 g23 k:=by kernel_rfl
 e4 k hk _:=⟨((AH v ls.length rt 4 5 k).set 24 (.p (.int .i64 ((k:Int)+1)))).set 11 (.p (.int .i64 ((k:Int)+1))),[WW .i64 ((k:Int)+1)],[.bare,.raw],by kernel_rfl,⟨by simp only[WW,IntKind.min,IntKind.max,IntKind.signed,IntKind.bits];constructor <;> simp<;> omega,ao⟩,by kernel_rfl⟩
theorem ZO3{v:Nat}{ls:yL Zq}{s:yG}{mv:Nat->yG}{rt:Nat->Bool}(hr:∀k,k < ls.length->aL yD (ls.getD k default).1 (mv k)=ab (rt k))(l:Nat)(rc:Loop)(h1:rc.assign=ZNd)(h2:rc.body=ZNe):
 gc 6 ls.length (λ_=>iW v ls.length ls s) (λ_=>iW v ls.length ls s) (fb λk=>ls.getD k default) rt (λk=>Zf.enc (ls.getD k default).1) (λk=>Zc.enc (mv k)) l rc 10 11 (jr s) where
 round k hk:=by
  rw[h1,h2];have hcon:=ZHB (hr k hk)
  refine⟨((((jr s).set 10 (.p (Zf.enc (ls.getD k default).1))).set 11 (.p (Zc.enc (mv k)))).set 5 (.aj 7 0 [])).set 6 (.aj 8 0 []),((((((((jr s).set 10 (.p (Zf.enc (ls.getD k default).1))).set 11 (.p (Zc.enc (mv k)))).set 5 (.aj 7 0 [])).set 6 (.aj 8 0 [])).set 12 (.p (Zf.enc (ls.getD k default).1))).set 13 (.p (Zc.enc (mv k)))).set 14 (.p (.bool (rt k)))).set 15 (.p (.bool (!rt k))),
   iW v ls.length ls s++[fb (λk=>ls.getD k default) k,.var (.p (Zf.enc (ls.getD k default).1)) ae,.var (.p (Zc.enc (mv k))) ae],iW v ls.length ls s++[fb (λk=>ls.getD k default) k,.var (.p (Zf.enc (ls.getD k default).1)) ae,.var (.p (Zc.enc (mv k))) ae], ?_, ?_, ?_⟩
  .exact iT (Xx (hs:=[.raw,.raw]) (hs':=[]) (C:=[(0:Nat)=0]) (ts':=(((jr s).set 10 (.p (Zf.enc (ls.getD k default).1))).set 11 (.p (Zc.enc (mv k)))).set 5 (.aj 7 0 [])) (H':=iW v ls.length ls s++[fb (λk=>ls.getD k default) k,.var (.p (Zf.enc (ls.getD k default).1)) ae]) (by kernel_rfl) ⟨rfl,ao⟩ (by kernel_rfl))
    (Xx (hs:=[.raw,.raw]) (hs':=[]) (C:=[(0:Nat)=0]) (by kernel_rfl) ⟨rfl,ao⟩ (by kernel_rfl))
  .have rB:bE yb (ab l) (.region 4 ZM9 af) (((((jr s).set 10 (.p (Zf.enc (ls.getD k default).1))).set 11 (.p (Zc.enc (mv k)))).set 5 (.aj 7 0 [])).set 6 (.aj 8 0 [])) (iW v ls.length ls s++[fb (λk=>ls.getD k default) k,.var (.p (Zf.enc (ls.getD k default).1)) ae,.var (.p (Zc.enc (mv k))) ae]) .normal (((((((((jr s).set 10 (.p (Zf.enc (ls.getD k default).1))).set 11 (.p (Zc.enc (mv k)))).set 5 (.aj 7 0 [])).set 6 (.aj 8 0 [])).set 12 (.p (Zf.enc (ls.getD k default).1))).set 13 (.p (Zc.enc (mv k)))).set 14 (.p (.bool (rt k)))).set 15 (.p (.bool (!rt k)))) (iW v ls.length ls s++[fb (λk=>ls.getD k default) k,.var (.p (Zf.enc (ls.getD k default).1)) ae,.var (.p (Zc.enc (mv k))) ae]):=
    Xx (hs:=[.call (.p (.bool (rt k))) [] []]) (hs':=[]) (C:=[(0:Nat)=0,(0:Nat)=0,bZ yb 20 [.p (Zf.enc (ls.getD k default).1),.p (Zc.enc (mv k))] [] (.p (.bool (rt k))) []]) (by kernel_rfl) ⟨rfl,rfl,hcon,ao⟩ (by kernel_rfl)
   refine PW (iT rB (uB (b:= !rt k) (by kernel_rfl) ?_)) ?_
   .cases rt k
    .exact iT (Xx (hs:=[.raw]) (hs':=[]) (C:=[(0:Nat)=0]) (by kernel_rfl) ⟨rfl,ao⟩ (by kernel_rfl)) PV
    .exact PU
   grind
  .cases rt k <;> kernel_rfl
 bB:=by kernel_rfl
theorem ZME{v:Nat}{ls:yL Zq}{s:yG}{mv:Nat->yG}{rt:Nat->Bool}(hl:ls.length<=1000)(hm:∀k,k < ls.length->ZP yD s (ls.getD k default).2.1=ab (mv k))(hr:∀k,k < ls.length->aL yD (ls.getD k default).1 (mv k)=ab (rt k)):
 bZ yb 27 [.aj 0 0 [],.p (Zc.enc s)] [ep v ls.length,eu v ls.length ls] (.p (.bool ((yn ls.length).all rt))) [ep v ls.length,eu v ls.length ls]:=by
 obtain⟨fn,hf,Q,R,z⟩:=ZKN;refine ZyA hf Q ?_;intro m J a ok hH yM hd;rw[R]at yM
 have hfin:∀(b:Bool)(ts:yL Dv),ts[4]? =ab (.aj 3 0 [])->fin yb fn ts [ep v ls.length,eu v ls.length ls,.var (.p (Zc.enc s)) ae,.var (.p (.bool b)) ae,.var (.aj 0 0 []) ae,.var (.p (Zc.enc s)) ae] 2 [] []=ab ([(0:Nat)=0],.p (.bool b),[ep v ls.length,eu v ls.length ls]):=by
  intro b ts h4;unfold fin;rw[z];have h5:ts.getD 4 .ak=.aj 3 0 []:=by rw[ycu,h4];rfl
  have h6:gp yb ts [ep v ls.length,eu v ls.length ls,.var (.p (Zc.enc s)) ae,.var (.p (.bool b)) ae,.var (.aj 0 0 []) ae,.var (.p (Zc.enc s)) ae] [.cell 4 4] []=ab ([(0:Nat)=0],[.p (.bool b)]):=by
   unfold gp;rw[h5]
   kernel_rfl
  show(match gp yb ts _ [.cell 4 4] [] with|some (C,ds)=>_|none=>ad)=_
  rw[h6]
  kernel_rfl
 unfold RA
 have r0:bE yb ad (.region 0 ZNa af) ([.aj 0 0 [],.p (Zc.enc s)]++yx 14 .ak) [ep v ls.length,eu v ls.length ls] .normal ([.aj 0 0 [],.p (Zc.enc s),.ak,.aj 2 0 [],.aj 3 0 []]++yx 11 .ak)
  [ep v ls.length,eu v ls.length ls,.var (.p (Zc.enc s)) ae,.var (.p (.bool af)) ae]:=Xx (hs:=[.raw,.raw]) (hs':=[]) (C:=[]) (by kernel_rfl) trivial (by kernel_rfl)
 have r1:bE yb ad (.region 1 ZNb af) ([.aj 0 0 [],.p (Zc.enc s),.ak,.aj 2 0 [],.aj 3 0 []]++yx 11 .ak) [ep v ls.length,eu v ls.length ls,.var (.p (Zc.enc s)) ae,.var (.p (.bool af)) ae] .normal (jr s) (iW v ls.length ls s):=
  Xx (hs:=[.raw,.call (.fn 128 [.aj 2 0 [],.aj 3 0 []]) [ep v ls.length,eu v ls.length ls,.var (.aj 0 0 []) ae,.var (.p (Zc.enc s)) ae] [0,1]]) (hs':=[])
   (C:=[(0:Nat)=0,bZ yb 71 [.aj 0 0 [],.p (Zc.enc s)] [ep v ls.length,eu v ls.length ls] (.fn 128 [.aj 2 0 [],.aj 3 0 []]) [ep v ls.length,eu v ls.length ls,.var (.aj 0 0 []) ae,.var (.p (Zc.enc s)) ae]]) (by kernel_rfl) ⟨rfl,Zwy v ls.length ls s,ao⟩ (by kernel_rfl)
 refine wpIn_seq (wpIn_mono (r0 m J a ok hH yM) ?_);rintro e a1 w1 ⟨rfl,S,J1,rfl,e1,g,T,A⟩;refine wpIn_seq (wpIn_seq (wpIn_mono (r1 m J1 a1 T e1 A) ?_));rintro e a2 w2 ⟨rfl,U,J2,rfl,e2,h,W,B⟩;have E:a2.defers=[]:=U.trans (S.trans hd);have h4:(jr s)[4]? =ab (.aj 3 0 []):=by kernel_rfl
 refine wpIn_block (ZC1 (ZO2 hl hm) W rfl e2 B E (by kernel_rfl) rfl (ZO3 hr) m _ (λJ' a' zU ht to j X f l=> ?_) (λJ' a' k hk hg zU ht to j X f l=> ?_))
 .have r6:bE yb ad (.region 6 ZNc af) (jr s) (iW v ls.length ls s) .normal (jr s) [ep v ls.length,eu v ls.length ls,.var (.p (Zc.enc s)) ae,.var (.p (.bool ae)) ae,.var (.aj 0 0 []) ae,.var (.p (Zc.enc s)) ae]:=
   Xx (hs:=[.raw]) (hs':=[]) (C:=[(0:Nat)=0]) (by kernel_rfl) ⟨rfl,ao⟩ (by kernel_rfl)
  refine wpIn_seq (wpIn_mono (r6 m J' a' j X f) ?_);rintro e a3 w3 ⟨rfl,Y,J3,rfl,e3,y,Z,F⟩;have Q:(yn ls.length).all rt=ae:=yan.2 λx hx=>zU x (ybv.1 hx);refine wpIn_ret ⟨.inl rfl,J3,jr s,_,[],[],[(0:Nat)=0],rfl,((g.trans h).trans to).trans y,Z,e3,F, ?_,⟨rfl,ao⟩, ?_⟩
  .grind
  .rw[Y];rcases l with l|⟨D,m1,m2,I,M⟩
   .exact .inl l
   .have G:=oT M;exact .inr ⟨D,m1,ybr (ybr g.size h.size) m2,AG y G I,(y.block D G I).trans M⟩
 .have Q:(yn ls.length).all rt=af:=by
   grind
  refine⟨.inl rfl,J',jr s,_,[],[],[(0:Nat)=0],rfl,(g.trans h).trans to,j,X,f, ?_,⟨rfl,ao⟩, ?_⟩
  .grind
  .rcases l with l|⟨D,m1,m2,I,M⟩
   .exact .inl l
   .exact .inr ⟨D,m1,ybr (ybr g.size h.size) m2,I,M⟩
theorem ZKO{c:Chan}{s:yG}{i:Int}{p:yU}{m:VJ}{e:Int}(h:Vt yD c s i p=ab (m,e)):
 bZ yb 72 [.p (Zf.enc c),.p (Zc.enc s),.p (.int .i64 i),.p (Ty.enc .u64 p)] [] (.bm [.p (ZM.enc m),.p (.int .i64 e)]) []:=by
 obtain⟨j,R,H,f,l,y⟩:=Zv2 (c,s,i,p) (m,e) h;have g:Sh.fills [.v Zf,.v Zc,.v (.int .i64),.v .u64] (dq [Zf,Zc,(.int .i64),.u64] (c,s,i,p))=ab ([.p (.v Zf c),.p (.v Zc s),.p (.v (.int .i64) i),.p (.v .u64 p)],[]):=by kernel_rfl
 have f:=g.symm.trans f;cases f;cases l;obtain⟨r,z,A⟩:=y _ _ ([.bm [.p (.v ZM m),.p (.v (.int .i64) e)]],[]) ⟨rfl,rfl⟩ (by kernel_rfl);cases z;exact A
noncomputable def ZQx:Array yj:=match ZL yb 28 with|.seq _ (.seq _ (.seq (.seq _ (.block _ (.rangeFunc _ _ (.seq (.region _ o _) _) _))) _))=>o|_=> #[]
noncomputable def ZQy:Array yj:=match ZL yb 28 with|.seq _ (.seq _ (.seq (.seq _ (.block _ (.rangeFunc _ _ (.seq _ (.region _ o _)) _))) _))=>o|_=> #[]
noncomputable def ZNf:Array yj:=match ZL yb 28 with|.seq _ (.seq _ (.seq (.seq _ (.block _ (.rangeFunc _ _ _ (.block _ (.seq (.region _ o _) _))))) _))=>o|_=> #[]
noncomputable def ZNg:Array yj:=match ZL yb 28 with|.seq _ (.seq _ (.seq (.seq _ (.block _ (.rangeFunc _ _ _ (.block _ (.seq _ (.seq (.seq (.region _ o _) _) _)))))) _))=>o|_=> #[]
noncomputable def AJ:Array yj:=match ZL yb 28 with|.seq _ (.seq _ (.seq (.seq _ (.block _ (.rangeFunc _ _ _ (.block _ (.seq _ (.seq (.seq _ (.cond _ (.seq (.region _ o _) _) _)) _)))))) _))=>o|_=> #[]
noncomputable def nf:Array yj:=match ZL yb 28 with|.seq _ (.seq _ (.seq (.seq _ (.block _ (.rangeFunc _ _ _ (.block _ (.seq _ (.seq _ (.region _ o _))))))) _))=>o|_=> #[]
noncomputable def ZNh:Array yj:=match ZL yb 28 with|.seq (.region _ o _) _=>o|_=> #[]
noncomputable def AK:Array yj:=match ZL yb 28 with|.seq _ (.seq (.seq (.region _ o _) _) _)=>o|_=> #[]
noncomputable def RB:Array yj:=match ZL yb 28 with|.seq _ (.seq (.seq _ (.cond _ (.seq (.region _ o _) _) _)) _)=>o|_=> #[]
noncomputable def ZNi:Array yj:=match ZL yb 28 with|.seq _ (.seq _ (.seq (.seq (.region _ o _) _) _))=>o|_=> #[]
noncomputable def ZKQ:Array yj:=match ZL yb 28 with|.seq _ (.seq _ (.seq _ (.seq (.region _ o _) _)))=>o|_=> #[]
noncomputable def RC:Code:=.seq (.region 4 ZQx af) (.region 5 ZQy af)
noncomputable def ZNj:Code:=.block 1 (.seq (.region 6 ZNf af) (.seq (.seq (.region 7 ZNg af) (.cond (.tmp 32) (.seq (.region 8 AJ af) .ret) .skip)) (.region 9 nf af)))
noncomputable def RD:Code:=.seq (.region 0 ZNh af) (.seq (.seq (.region 1 AK af) (.cond (.tmp 17) (.seq (.region 2 RB af) .ret) .skip)) (.seq (.seq (.region 3 ZNi af) (.block 0 (.rangeFunc (.tmp 20) #[21,22] RC ZNj))) (.seq (.region 10 ZKQ af) .ret)))
theorem ZKT:∃fn,yb.funcs[28]? =ab fn/\fn.body=ab RD/\fn.ntmps=39/\fn.results= #[.cell 8 102,.cell 9 50]:=by
 have h:(yb.funcs[28]?).map (λfn=>(fn.body,fn.ntmps,fn.results))=ab (ab RD,39, #[.cell 8 102,.cell 9 50]):=by kernel_rfl
 grind
section
variable(v n:Nat)(ls:yL Zq)(s:yG)(i:Int)(p:yU)(c:Nat->VJ)(er:Nat->Int)
noncomputable def eI:Nat->yL Pl
 |0=>[]
 |k+1=>eI k++[ZM.enc (c k)]
theorem ZKU(k:Nat):(eI c k).length=k:=by
 induction k with
 |zero=>rfl
 |succ k f=>rw[eI,yl,f];rfl
abbrev hJ(o:Dv)(lg:yL Pl)(e:Int):yL aq:=[ep v n,eu v n ls,.var (.p (Zc.enc s)) ae,.var (.p (.int .i64 i)) ae,.var (.p (Ty.enc .u64 p)) ae,.var o ae,.log 4 115 lg,.var (.p (.int .i64 e)) ae]
abbrev gF(k:Nat):yL aq:=hJ v n ls s i p (.own 6 ad 4 (eI c k)) (eI c k) 0++[.var (.aj 0 0 []) ae,.var (.p (Zc.enc s)) ae]
abbrev AL(k:Nat):yL aq:=hJ v n ls s i p (.p (.sl (ab af) 4 [])) (eI c k) (er k)++[.var (.aj 0 0 []) ae,.var (.p (Zc.enc s)) ae]
noncomputable def AM:yL Dv:=[.aj 0 0 [],.p (Zc.enc s),.p (.int .i64 i),.p (Ty.enc .u64 p),.ak,.aj 2 0 [],.aj 3 0 [],.aj 4 0 [],.aj 5 0 [],.aj 7 0 [],.ak,.ak,.ak,.ak]++yx 25 .ak
noncomputable def uE(b:Bool):yL Dv:=[.aj 0 0 [],.p (Zc.enc s),.p (.int .i64 i),.p (Ty.enc .u64 p),.ak,.aj 2 0 [],.aj 3 0 [],.aj 4 0 [],.aj 5 0 [],.aj 7 0 [],.ak,.ak,.ak,.ak,.aj 0 0 [],.p (Zc.enc s),.p (.bool b),.p (.bool (!b))]++yx 21 .ak
noncomputable def kQ:yL Dv:=[.aj 0 0 [],.p (Zc.enc s),.p (.int .i64 i),.p (Ty.enc .u64 p),.ak,.aj 2 0 [],.aj 3 0 [],.aj 4 0 [],.aj 5 0 [],.aj 7 0 [],.ak,.ak,.ak,.ak,.aj 0 0 [],.p (Zc.enc s),.p (.bool ae),.p (.bool af),.aj 0 0 [],.p (Zc.enc s),.fn 128 [.aj 8 0 [],.aj 9 0 []]]++yx 18 .ak
end
theorem ZO4{v:Nat}{ls:yL Zq}{s:yG}{i:Int}{p:yU}{c:Nat->VJ}{er:Nat->Int}{mv:Nat->yG}{rt:Nat->Bool}(hl:ls.length<=1000)(hm:∀k,k < ls.length->ZP yD s (ls.getD k default).2.1=ab (mv k)):
 It 10 ls.length (gF v ls.length ls s i p c) (AL v ls.length ls s i p c er) (fb λk=>ls.getD k default) (PZ v ls.length 8 9) (uD v ls.length 8 9) (itD 10 v ls.length (λk=>ls.getD k default) 8 9) (AH v ls.length rt 8 9) rt
  (ZQt 10 s (λk=>ls.getD k default) mv rt) (λk=>Zf.enc (ls.getD k default).1) (λk=>Zc.enc (mv k)) (.ak::.aj 8 0 []::.aj 9 0 []::yx 22 .ak) where
 e0:=⟨itZ v ls.length 8 9,[(0:Nat)=0,(0:Nat)=0],[.raw],by kernel_rfl,⟨rfl,rfl,ao⟩,by kernel_rfl⟩
 ix k:=by kernel_rfl
 e1 k hk:=⟨[],[],by kernel_rfl,ao⟩
 c1 k:=by
  have h:(uD v ls.length 8 9 k)[12]? =ab (.p (.bool (ag ((k:Int) < (ls.length:Int))))):=by kernel_rfl
  grind
 e2 k hk:=by
  refine⟨[0<=(k:Int),(k:Int) < (ls.length:Int)]++([(ls.map Zu.enc)[0+k]? =ab (kc (ls.getD k default)),(0+k)*60+0=(0+k)*60]++[(0:Nat)=0]),[.el (kc (ls.getD k default)),.raw,.raw], ?_,⟨by omega,by omega,ZF1 hk,rfl,rfl,ao⟩⟩;have hl:dK.toList=[be dK 0,be dK 1,be dK 2,be dK 3]:=by kernel_rfl
  rw[hl];refine AI (H1:=gF v ls.length ls s i p c k) (hs1:=[.el (kc (ls.getD k default)),.raw,.raw]) (d:=.ba 1 v ((0+k)*60) [0+k]) (by kernel_rfl) (AI (d:=.p (kc (ls.getD k default))) (H1:=gF v ls.length ls s i p c k) (hs1:=[.raw,.raw]) ?_ (by kernel_rfl));exact ZC2 (t:=112) (x:=13) (id:=1) (v:=v) (n:=ls.length) (st:=ae) (e:=112) (by kernel_rfl) (by kernel_rfl) (by kernel_rfl) rfl (by kernel_rfl)
 gZ k:=by kernel_rfl
 e3 k hk i hi:=by
  match i,hi with
  |0,_=>exact⟨[],[.raw],by kernel_rfl,ao⟩
  |1,_=>exact⟨[],[],by kernel_rfl,ao⟩
  |2,_=>exact⟨[(0:Nat)=0],[],by kernel_rfl,⟨rfl,ao⟩⟩
  |3,_=>exact⟨[(0:Nat)=0],[],by kernel_rfl,⟨rfl,ao⟩⟩
  |4,_=>exact⟨[],[],by kernel_rfl,ao⟩
  |5,_=>exact⟨[(57:Nat)=57],[],by kernel_rfl,⟨rfl,ao⟩⟩
  |6,_=>exact⟨[bZ yb 15 [.p (Zc.enc s),.p (Ty.enc (.arr 2 (.int .i64)) (ls.getD k default).2.1)] [] (.p (Zc.enc (mv k))) []],[.call (.p (Zc.enc (mv k))) [] []],by kernel_rfl,⟨ZyC (hm k hk),ao⟩⟩
  |_+7,h=>exact absurd h (by omega)
 d0 k:=rfl
 d2 k:=rfl
 d6 k:=rfl
 d7 k:=rfl
 d8 k:=rfl
 e8 k H:=by kernel_rfl
 g k:=by kernel_rfl
 g23 k:=by kernel_rfl
 e4 k hk _:=⟨((AH v ls.length rt 8 9 k).set 24 (.p (.int .i64 ((k:Int)+1)))).set 11 (.p (.int .i64 ((k:Int)+1))),[WW .i64 ((k:Int)+1)],[.bare,.raw],by kernel_rfl,⟨by simp only[WW,IntKind.min,IntKind.max,IntKind.signed,IntKind.bits];constructor <;> simp<;> omega,ao⟩,by kernel_rfl⟩
section
variable(s:yG)(i:Int)(p:yU)(x:Zq)(t:yG)(c:VJ)(e:Int)
noncomputable def RE:yL Dv:=((((kQ s i p).set 21 (.p (Zf.enc x.1))).set 22 (.p (Zc.enc t))).set 10 (.aj 11 0 [])).set 11 (.aj 12 0 [])
noncomputable def lV:yL Dv:=((((((((((RE s i p x t).set 24 (.p (Zf.enc x.1))).set 25 (.p (Zc.enc t))).set 26 (.p (.int .i64 i))).set 27 (.p (Ty.enc .u64 p))).set 28 (.bm [.p (ZM.enc c),.p (.int .i64 e)])).set 23 (.bm [.p (ZM.enc c),.p (.int .i64 e)])).set 29 (.p (ZM.enc c))).set 30 (.p (.int .i64 e))).set 12 (.aj 13 0 [])).set 13 (.p (.int .i64 e))
end
theorem ZO5{v:Nat}{ls:yL Zq}{s:yG}{i:Int}{p:yU}{c:Nat->VJ}{er:Nat->Int}{mv:Nat->yG}(hl:ls.length<=1000)
 (hk:∀k,k < ls.length->Vt yD (ls.getD k default).1 (mv k) i p=ab (c k,er k)) (l:Nat) (rc:Loop) (h1:rc.assign=RC) (h2:rc.body=ZNj):
 gc 10 ls.length (gF v ls.length ls s i p c) (AL v ls.length ls s i p c er) (fb λk=>ls.getD k default) (λk=>ag (er k=0)) (λk=>Zf.enc (ls.getD k default).1) (λk=>Zc.enc (mv k)) l rc 21 22 (kQ s i p) where
 round k hkn:=by
  rw[h1,h2];have hcon:=ZKO (hk k hkn);obtain⟨X1,hX1⟩:∃X1,X1=[fb (λk=>ls.getD k default) k,aq.var (.p (Zf.enc (ls.getD k default).1)) ae,.var (.p (Zc.enc (mv k))) ae]:=⟨_,rfl⟩
  have rA:bE yb (ab l) RC (((kQ s i p).set 21 (.p (Zf.enc (ls.getD k default).1))).set 22 (.p (Zc.enc (mv k)))) (gF v ls.length ls s i p c k++[fb (λk=>ls.getD k default) k]) .normal (RE s i p (ls.getD k default) (mv k)) (gF v ls.length ls s i p c k++[fb (λk=>ls.getD k default) k,.var (.p (Zf.enc (ls.getD k default).1)) ae,.var (.p (Zc.enc (mv k))) ae]):=
   iT (Xx (hs:=[.raw,.raw]) (hs':=[]) (C:=[(0:Nat)=0]) (ts':=(((kQ s i p).set 21 (.p (Zf.enc (ls.getD k default).1))).set 22 (.p (Zc.enc (mv k)))).set 10 (.aj 11 0 [])) (H':=gF v ls.length ls s i p c k++[fb (λk=>ls.getD k default) k,.var (.p (Zf.enc (ls.getD k default).1)) ae]) (by kernel_rfl) ⟨rfl,ao⟩ (by kernel_rfl))
    (Xx (hs:=[.raw,.raw]) (hs':=[]) (C:=[(0:Nat)=0]) (by kernel_rfl) ⟨rfl,ao⟩ (by kernel_rfl))
  have rB:bE yb (ab l) (.region 6 ZNf af) (RE s i p (ls.getD k default) (mv k)) (gF v ls.length ls s i p c k++[fb (λk=>ls.getD k default) k,.var (.p (Zf.enc (ls.getD k default).1)) ae,.var (.p (Zc.enc (mv k))) ae]) .normal
   (lV s i p (ls.getD k default) (mv k) (c k) (er k)) (gF v ls.length ls s i p c k++[fb (λk=>ls.getD k default) k,.var (.p (Zf.enc (ls.getD k default).1)) ae,.var (.p (Zc.enc (mv k))) ae,.var (.p (ZM.enc (c k))) ae]):=
   Xx (hs:=[.call (.bm [.p (ZM.enc (c k)),.p (.int .i64 (er k))]) [] [],.raw,.raw,.raw,.raw]) (hs':=[])
    (C:=[(0:Nat)=0,(0:Nat)=0,(0:Nat)=0,(0:Nat)=0,bZ yb 72 [.p (Zf.enc (ls.getD k default).1),.p (Zc.enc (mv k)),.p (.int .i64 i),.p (Ty.enc .u64 p)] [] (.bm [.p (ZM.enc (c k)),.p (.int .i64 (er k))]) [],(0:Nat)=0]) (by kernel_rfl) ⟨rfl,rfl,rfl,rfl,hcon,rfl,ao⟩ (by kernel_rfl)
  have r7:bE yb (ab l) (.region 7 ZNg af) (lV s i p (ls.getD k default) (mv k) (c k) (er k)) (gF v ls.length ls s i p c k++[fb (λk=>ls.getD k default) k,.var (.p (Zf.enc (ls.getD k default).1)) ae,.var (.p (Zc.enc (mv k))) ae,.var (.p (ZM.enc (c k))) ae]) .normal
   (((lV s i p (ls.getD k default) (mv k) (c k) (er k)).set 31 (.p (.int .i64 (er k)))).set 32 (.p (.bool (er k !=0)))) (gF v ls.length ls s i p c k++[fb (λk=>ls.getD k default) k,.var (.p (Zf.enc (ls.getD k default).1)) ae,.var (.p (Zc.enc (mv k))) ae,.var (.p (ZM.enc (c k))) ae]):=
   Xx (hs:=[.raw]) (hs':=[]) (C:=[]) (by kernel_rfl) trivial (by kernel_rfl)
  by_cases he:er k=0
  .have hb:(er k !=0)=af:=by rw[he];rfl
   have hC1:=ZKU c k
   have r9:bE yb (ab l) (.region 9 nf af) (((lV s i p (ls.getD k default) (mv k) (c k) (er k)).set 31 (.p (.int .i64 (er k)))).set 32 (.p (.bool (er k !=0)))) (gF v ls.length ls s i p c k++[fb (λk=>ls.getD k default) k,.var (.p (Zf.enc (ls.getD k default).1)) ae,.var (.p (Zc.enc (mv k))) ae,.var (.p (ZM.enc (c k))) ae]) .normal
    _ (gF v ls.length ls s i p c (k+1)++[fb (λk=>ls.getD k default) k,.var (.p (Zf.enc (ls.getD k default).1)) ae,.var (.p (Zc.enc (mv k))) ae,.var (.p (ZM.enc (c k))) ae]):=
    ZMB (l:=[be nf 0,be nf 1,be nf 2,be nf 3]) (o:=be nf 4) (d:=.ak) (hs:=[.iq])
     (ts1:=((((((lV s i p (ls.getD k default) (mv k) (c k) (er k)).set 31 (.p (.int .i64 (er k)))).set 32 (.p (.bool (er k !=0)))).set 34 (.own 6 ad 4 (eI c k))).set 35 (.p (ZM.enc (c k)))).set 36 (.p (.sl (ab ae) 4 [ZM.enc (c k)]))).set 37 (.own 6 ad 4 (eI c k++[ZM.enc (c k)])))
     (H1:=hJ v ls.length ls s i p (.own 6 ad 4 (eI c k)) (eI c k++[ZM.enc (c k)]) 0++[.var (.aj 0 0 []) ae,.var (.p (Zc.enc s)) ae,fb (λk=>ls.getD k default) k,.var (.p (Zf.enc (ls.getD k default).1)) ae,.var (.p (Zc.enc (mv k))) ae,.var (.p (ZM.enc (c k))) ae])
     (C:=[(0:Nat)=0,(0:Nat)=0,eI c k=eI c k,((eI c k).length+1)*80<=Zr,(eI c k).length+1<=maxLen]) (by kernel_rfl) (by kernel_rfl) ⟨rfl,rfl,rfl,by rw[hC1];simp only[Zr];omega,by rw[hC1];simp only[maxLen];omega,ao⟩ (by kernel_rfl) (by kernel_rfl) (by kernel_rfl)
     (λJ a ok hH yM=>by
       have h:=vx (P:=yb) (o:=be nf 4) (t:=102) (x:=.tmp 8) (y:=.tmp 37) (id:=5) (off:=0) (yQ:=[]) (dd:=.own 6 ad 4 (eI c k)) (sub:=.own 6 ad 4 (eI c k)) (new:=.own 6 ad 4 (eI c k++[ZM.enc (c k)])) (dd':=.own 6 ad 4 (eI c k++[ZM.enc (c k)])) (C1:=[]) (off':=0) (hs:=[]) (hs':=[]) ok yM
        (by kernel_rfl) (by kernel_rfl) (by rw[hH];kernel_rfl) (by kernel_rfl) trivial rfl (by kernel_rfl) (by kernel_rfl) (by kernel_rfl) (by kernel_rfl) (by kernel_rfl) (by kernel_rfl)
       rw[hH]at h;exact Vg h (Wk.refl _) (ca.of_eq (by kernel_rfl)))
   have hgo:(λk=>ag (er k=0)) k=ae:=by simp[he]
   refine⟨_,((((((lV s i p (ls.getD k default) (mv k) (c k) (er k)).set 31 (.p (.int .i64 (er k)))).set 32 (.p (.bool (er k !=0)))).set 34 (.own 6 ad 4 (eI c k))).set 35 (.p (ZM.enc (c k)))).set 36 (.p (.sl (ab ae) 4 [ZM.enc (c k)]))).set 37 (.own 6 ad 4 (eI c k++[ZM.enc (c k)])),_,gF v ls.length ls s i p c (k+1)++[fb (λk=>ls.getD k default) k,.var (.p (Zf.enc (ls.getD k default).1)) ae,.var (.p (Zc.enc (mv k))) ae,.var (.p (ZM.enc (c k))) ae],rA, ?_, ?_⟩
   .rw[yW hgo];refine PW (iT rB (iT (iT r7 (uB (b:=er k !=0) (by kernel_rfl) ?_)) r9)) (λj h=>by cases h);rw[hb];exact PU
   .rw[yW hgo]
    kernel_rfl
  .have hb:(er k !=0)=ae:=by simpa using he
   have hgo:¬((λk=>ag (er k=0)) k=ae):=by simp[he]
   have r8:bE yb (ab l) (.region 8 AJ af) (((lV s i p (ls.getD k default) (mv k) (c k) (er k)).set 31 (.p (.int .i64 (er k)))).set 32 (.p (.bool (er k !=0)))) (gF v ls.length ls s i p c k++[fb (λk=>ls.getD k default) k,.var (.p (Zf.enc (ls.getD k default).1)) ae,.var (.p (Zc.enc (mv k))) ae,.var (.p (ZM.enc (c k))) ae]) .normal
    ((((lV s i p (ls.getD k default) (mv k) (c k) (er k)).set 31 (.p (.int .i64 (er k)))).set 32 (.p (.bool (er k !=0)))).set 33 (.p (.int .i64 (er k)))) (AL v ls.length ls s i p c er k++[fb (λk=>ls.getD k default) k,.var (.p (Zf.enc (ls.getD k default).1)) ae,.var (.p (Zc.enc (mv k))) ae,.var (.p (ZM.enc (c k))) ae]):=
    Xx (hs:=[.raw,.raw,.raw]) (hs':=[]) (C:=[(0:Nat)=0,(0:Nat)=0]) (by kernel_rfl) ⟨rfl,rfl,ao⟩ (by kernel_rfl)
   refine⟨_,(((lV s i p (ls.getD k default) (mv k) (c k) (er k)).set 31 (.p (.int .i64 (er k)))).set 32 (.p (.bool (er k !=0)))).set 33 (.p (.int .i64 (er k))),_,AL v ls.length ls s i p c er k++[fb (λk=>ls.getD k default) k,.var (.p (Zf.enc (ls.getD k default).1)) ae,.var (.p (Zc.enc (mv k))) ae,.var (.p (ZM.enc (c k))) ae],rA, ?_, ?_⟩
   .rw[yX hgo];refine PW (iT rB (ZMC (iT r7 (uB (b:=er k !=0) (by kernel_rfl) ?_)) (by decide))) (λj h=>by cases h);rw[show(if(er k !=0)=ae then Code.seq (.region 8 AJ af) .ret else .skip)=Code.seq (.region 8 AJ af) .ret from yW hb]
    exact iT r8 PV
   .rw[yX hgo]
    kernel_rfl
 bB:=by kernel_rfl
theorem RF{fn:Func}(f:fn.results= #[.cell 8 102,.cell 9 50]){v:Nat}{ls:yL Zq}{s:yG}{i:Int}{p:yU}{o:Pl}{lg:yL Pl}{e:Int}{E:yL aq}{ts:yL Dv}(ho:fS yb 102 (.p o)=ae)(g:ts[8]? =ab (.aj 5 0 []))(h:ts[9]? =ab (.aj 7 0 [])):
 fin yb fn ts (hJ v ls.length ls s i p (.p o) lg e++E) 2 [] []=ab ([(0:Nat)=0,(0:Nat)=0],.bm [.p o,.p (.int .i64 e)],[ep v ls.length,eu v ls.length ls]):=by
 unfold fin;rw[f];have g:ts.getD 8 .ak=.aj 5 0 []:=by rw[ycu,g];rfl
 have h:ts.getD 9 .ak=.aj 7 0 []:=by rw[ycu,h];rfl
 have j:gp yb ts (hJ v ls.length ls s i p (.p o) lg e++E) [.cell 8 102,.cell 9 50] []=ab ([(0:Nat)=0,(0:Nat)=0],[.p o,.p (.int .i64 e)]):=by
  unfold gp;rw[g];dsimp only;rw[show(hJ v ls.length ls s i p (.p o) lg e++E)[5]? =ab (.var (.p o) ae) from by kernel_rfl]
  dsimp only[Z9];rw[yW ho];unfold gp;rw[h]
  kernel_rfl
 show(match gp yb ts _ [.cell 8 102,.cell 9 50] [] with|some (C,l)=>_|none=>ad)=_
 rw[j]
 kernel_rfl
theorem RG{v:Nat}{ls:yL Zq}{s:yG}{i:Int}{p:yU}{c:Nat->VJ}{er:Nat->Int}{mv:Nat->yG}{rt:Nat->Bool}{res:Dv}(hl:ls.length<=1000)(hm:∀k,k < ls.length->ZP yD s (ls.getD k default).2.1=ab (mv k))
 (hr:∀k,k < ls.length->aL yD (ls.getD k default).1 (mv k)=ab (rt k)) (Q:(yn ls.length).all rt=ae->∀k,k < ls.length->Vt yD (ls.getD k default).1 (mv k) i p=ab (c k,er k))
 (q0:(yn ls.length).all rt=af->res=.bm [.p (.sl (ab af) 4 []),.p (.int .i64 14)])
 (q1:(yn ls.length).all rt=ae->(∀k,k < ls.length->er k=0)->res=.bm [.p (.sl ad 4 (eI c ls.length)),.p (.int .i64 0)])
 (q2:(yn ls.length).all rt=ae->∀k,k < ls.length->er k≠0->(∀j,j < k->er j=0)->res=.bm [.p (.sl (ab af) 4 []),.p (.int .i64 (er k))]):
 bZ yb 28 [.aj 0 0 [],.p (Zc.enc s),.p (.int .i64 i),.p (Ty.enc .u64 p)] [ep v ls.length,eu v ls.length ls] res [ep v ls.length,eu v ls.length ls]:=by
 obtain⟨fn,hf,hb,hnt,g⟩:=ZKT;refine ZyA hf hb ?_;intro m J a ok hH yM hd;rw[hnt]at yM;have y:=ZME (v:=v) hl hm hr;obtain⟨b,hbb⟩:∃b,(yn ls.length).all rt=b:=⟨_,rfl⟩;rw[hbb]at y Q q0 q1 q2;unfold RD
 have r0:bE yb ad (.region 0 ZNh af) ([.aj 0 0 [],.p (Zc.enc s),.p (.int .i64 i),.p (Ty.enc .u64 p)]++yx 35 .ak) [ep v ls.length,eu v ls.length ls] .normal (AM s i p) (hJ v ls.length ls s i p (.own 6 ad 4 []) [] 0):=
  Xx (hs:=[.raw,.raw,.raw,.cm [] 4 115,.raw,.raw]) (hs':=[]) (C:=[]) (by kernel_rfl) trivial (by kernel_rfl)
 have r1:bE yb ad (.region 1 AK af) (AM s i p) (hJ v ls.length ls s i p (.own 6 ad 4 []) [] 0) .normal (uE s i p b) (hJ v ls.length ls s i p (.own 6 ad 4 []) [] 0):=
  Xx (hs:=[.raw,.call (.p (.bool b)) [ep v ls.length,eu v ls.length ls] [0,1]]) (hs':=[]) (C:=[(0:Nat)=0,bZ yb 27 [.aj 0 0 [],.p (Zc.enc s)] [ep v ls.length,eu v ls.length ls] (.p (.bool b)) [ep v ls.length,eu v ls.length ls]]) (by kernel_rfl) ⟨rfl,y,ao⟩ (by kernel_rfl)
 refine wpIn_seq (wpIn_mono (r0 m J a ok hH yM) ?_);rintro e a1 w1 ⟨rfl,R,J1,rfl,e1,S,T,z⟩
 cases b with
 |false=>
  have r2:bE yb ad (.seq (.region 1 AK af) (.cond (.tmp 17) (.seq (.region 2 RB af) .ret) .skip)) (AM s i p) (hJ v ls.length ls s i p (.own 6 ad 4 []) [] 0) .ret (uE s i p af) (hJ v ls.length ls s i p (.p (.sl (ab af) 4 [])) [] 14):=
   iT r1 (uB (b:=ae) (by kernel_rfl) (iT (Xx (hs:=[.raw,.raw]) (hs':=[]) (C:=[(0:Nat)=0,(0:Nat)=0]) (by kernel_rfl) ⟨rfl,rfl,ao⟩ (by kernel_rfl)) PV))
  refine wpIn_seq (wpIn_mono (r2 m J1 a1 T e1 z) ?_);rintro e a2 w2 ⟨rfl,A,J2,rfl,e2,B,F,h⟩;refine⟨.inl rfl,J2,_,_,[],[],[(0:Nat)=0,(0:Nat)=0],rfl,S.trans B,F,e2,h, ?_,⟨rfl,rfl,ao⟩,.inl (A.trans (R.trans hd))⟩;rw[q0 rfl];have:=RF (E:=[]) g (v:=v) (ls:=ls) (s:=s) (i:=i) (p:=p) (o:=.sl (ab af) 4 []) (lg:=[]) (e:=14) (ts:=uE s i p af) (by kernel_rfl) (by kernel_rfl) (by kernel_rfl)
  rwa [yba]at this
 |true=>
  have r2:bE yb ad (.seq (.region 1 AK af) (.cond (.tmp 17) (.seq (.region 2 RB af) .ret) .skip)) (AM s i p) (hJ v ls.length ls s i p (.own 6 ad 4 []) [] 0) .normal (uE s i p ae) (hJ v ls.length ls s i p (.own 6 ad 4 []) [] 0):=
   iT r1 (uB (b:=af) (by kernel_rfl) PU)
  have r3:bE yb ad (.region 3 ZNi af) (uE s i p ae) (hJ v ls.length ls s i p (.own 6 ad 4 []) [] 0) .normal (kQ s i p) (gF v ls.length ls s i p c 0):=
   Xx (hs:=[.raw,.call (.fn 128 [.aj 2 0 [],.aj 3 0 []]) [ep v ls.length,eu v ls.length ls,.var (.aj 0 0 []) ae,.var (.p (Zc.enc s)) ae] [0,1]]) (hs':=[])
    (C:=[(0:Nat)=0,bZ yb 71 [.aj 0 0 [],.p (Zc.enc s)] [ep v ls.length,eu v ls.length ls] (.fn 128 [.aj 2 0 [],.aj 3 0 []]) [ep v ls.length,eu v ls.length ls,.var (.aj 0 0 []) ae,.var (.p (Zc.enc s)) ae]]) (by kernel_rfl) ⟨rfl,Zwy v ls.length ls s,ao⟩ (by kernel_rfl)
  have Q:=Q rfl;refine wpIn_seq (wpIn_mono (r2 m J1 a1 T e1 z) ?_);rintro e a2 w2 ⟨rfl,A,J2,rfl,e2,B,F,h⟩;refine wpIn_seq (wpIn_seq (wpIn_mono (r3 m J2 a2 F e2 h) ?_));rintro e a3 w3 ⟨rfl,hd3,J3,rfl,e3,to3,ok3,U⟩;have W:a3.defers=[]:=hd3.trans (A.trans (R.trans hd));have h8:(kQ s i p)[8]? =ab (.aj 5 0 []):=by kernel_rfl
  have h9:(kQ s i p)[9]? =ab (.aj 7 0 []):=by kernel_rfl
  have f:=(S.trans B).trans to3;refine wpIn_block (ZC1 (ZO4 (i:=i) (p:=p) (c:=c) (er:=er) (rt:=λk=>ag (er k=0)) hl hm) ok3 rfl e3 U W (by kernel_rfl) rfl (ZO5 hl Q) m _ (λJ' a' zU ht to G e' l I=> ?_) (λJ' a' k hkn hg zU ht to G e' l I=> ?_))
  .have r10:bE yb ad (.region 10 ZKQ af) (kQ s i p) (gF v ls.length ls s i p c ls.length) .normal ((kQ s i p).set 38 (.own 6 ad 4 (eI c ls.length))) (hJ v ls.length ls s i p (.p (.sl ad 4 (eI c ls.length))) (eI c ls.length) 0++[.var (.aj 0 0 []) ae,.var (.p (Zc.enc s)) ae]):=
    Xx (hs:=[.raw,.raw]) (hs':=[]) (C:=[(0:Nat)=0,(0:Nat)=0,(0:Nat)=0]) (by kernel_rfl) ⟨rfl,rfl,rfl,ao⟩ (by kernel_rfl)
   refine wpIn_seq (wpIn_mono (r10 m J' a' G e' l) ?_);rintro e a4 w4 ⟨rfl,hd4,J4,rfl,e4,M,ok4,X⟩;refine wpIn_ret ⟨.inl rfl,J4,_,_,[],[],[(0:Nat)=0,(0:Nat)=0],rfl,(f.trans to).trans M,ok4,e4,X, ?_,⟨rfl,rfl,ao⟩, ?_⟩
   .rw[q1 rfl λk Q=>by simpa using zU k Q];exact RF g (by kernel_rfl) (by kernel_rfl) (by kernel_rfl)
   .rw[hd4];rcases I with I|⟨D,m1,m2,Z,m4⟩
    .exact .inl I
    .have Y:=oT m4;exact .inr ⟨D,m1,ybr f.size m2,AG M Y Z,(M.block D Y Z).trans m4⟩
  .refine⟨.inl rfl,J',kQ s i p,_,[],[],[(0:Nat)=0,(0:Nat)=0],rfl,f.trans to,G,e',l, ?_,⟨rfl,rfl,ao⟩, ?_⟩
   .rw[q2 rfl k hkn (by simpa using hg) λj hj=>by simpa using zU j hj];exact RF g (by kernel_rfl) h8 h9
   .rcases I with I|⟨D,m1,m2,Z,m4⟩
    .exact .inl I
    .exact .inr ⟨D,m1,ybr f.size m2,Z,m4⟩
def AN(F:Nat)(s:yG)(ls:yL Zq):yO (yL Bool):=
 ls.foldr (λx o=>(ZP F s x.2.1).bind λt=>(aL F x.1 t).bind λb=>o.bind λl=>ab (b::l)) (ab [])
theorem ZHC(F:Nat)(s:yG)(x:Zq)(r:yL Zq):AN F s (x::r)=(ZP F s x.2.1).bind λt=>(aL F x.1 t).bind λb=>(AN F s r).bind λl=>ab (b::l):=rfl
def AO(F:Nat)(s:yG)(i:Int)(p:yU)(ls:yL Zq):yO (yL (VJ×Int)):=
 ls.foldr (λx o=>(ZP F s x.2.1).bind λt=>(Vt F x.1 t i p).bind λc=>o.bind λl=>ab (c::l)) (ab [])
theorem ZHD(F:Nat)(s:yG)(i:Int)(p:yU)(x:Zq)(r:yL Zq):AO F s i p (x::r)=(ZP F s x.2.1).bind λt=>(Vt F x.1 t i p).bind λc=>(AO F s i p r).bind λl=>ab (c::l):=rfl
def RH(F:Nat)(s:yG)(i:Int)(p:yU)(w:yL (Ty.aK []))(ls:yL Zq):yO (yL VJ×Int×yL (Ty.aK [])×yL Zq):=
 if ls.length<=1000 then(AN F s ls).bind λl=>if l.all id=ae then(AO F s i p ls).bind λm=>(match m.find? λq=>q.2 !=0 with|some q=>ab ([],q.2,w,ls)|none=>ab (m.map λq=>q.1,0,w,ls)) else ab ([],14,w,ls) else ad
theorem ZyD{F:Nat}{s:yG}:∀{ls:yL Zq}{l:yL Bool},AN F s ls=ab l->l.length=ls.length/\∀k,k < ls.length->∃t,ZP F s (ls.getD k default).2.1=ab t/\aL F (ls.getD k default).1 t=ab (l.getD k af)
 |[],l,h=>by cases (show ab []=ab l from h);exact⟨rfl,λk f=>absurd f (Nat.not_lt_zero _)⟩
 |x::r,l,h=>by
  rw[ZHC]at h;obtain⟨t,j,h⟩:=yf.1 h;obtain⟨b,m,h⟩:=yf.1 h;obtain⟨y,g,h⟩:=yf.1 h;cases h;obtain⟨e,z⟩:=ZyD g;grind
theorem ZyE{F:Nat}{s:yG}{i:Int}{p:yU}:∀{ls:yL Zq}{l:yL (VJ×Int)},AO F s i p ls=ab l->l.length=ls.length/\∀k,k < ls.length->∃t,ZP F s (ls.getD k default).2.1=ab t/\Vt F (ls.getD k default).1 t i p=ab (l.getD k default)
 |[],l,h=>by cases (show ab []=ab l from h);exact⟨rfl,λk f=>absurd f (Nat.not_lt_zero _)⟩
 |x::r,l,h=>by
  rw[ZHD]at h;obtain⟨t,j,h⟩:=yf.1 h;obtain⟨b,m,h⟩:=yf.1 h;obtain⟨y,g,h⟩:=yf.1 h;cases h;obtain⟨e,z⟩:=ZyE g;grind
theorem ZC4:∀(l:yL Bool),(yn l.length).all (λk=>l.getD k af)=l.all id
 |[]=>rfl
 |b::l=>by
  rw[yah,List.range_succ_eq_map,List.all_cons,List.all_map,List.all_cons];exact congrArg (b&& ·) (ZC4 l)
theorem RI{α:Type}{p:α->Bool}{d:α}:∀(l:yL α)(k:Nat),k < l.length->p (l.getD k d)=ae->(∀j,j < k->p (l.getD j d)=af)->l.find? p=ab (l.getD k d)
 |[],k,h,_,_=>absurd h (Nat.not_lt_zero _)
 |x::l,0,_,h,_=>by
  grind
 |x::l,k+1,g,h,f=>by
  have m:p x=af:=f 0 (Nat.succ_pos _);rw[List.find?_cons,m];exact RI l k (by simpa using g) h λj y=>f (j+1) (by omega)
theorem ZyF{l:yL (VJ×Int)}:∀(k:Nat),k<=l.length->eI (λk=>(l.getD k default).1) k=(l.map λq=>ZM.enc q.1).take k
 |0,_=>rfl
 |k+1,h=>by
  have f:k < l.length:=h;rw[eI,ZyF k (by omega),List.take_add_one,List.getElem?_map,yad f];grind
theorem ZO6{a f b:Pl}(h:bF a f):Wk (.bm [.p a,.p b]) (.bm [.p f,.p b]):=⟨rfl,rfl,λJ vs r=>by
 simp only[yH,aH]at r ⊢;obtain⟨g,rfl,v,j,l,m,y⟩:=r;exact⟨g,rfl,v,j,l,(Wk.p h).dv m,y⟩⟩
abbrev RJ:yL bC:=[.var (.agg [.rw 1]) ae,.row Zu ae 112]
theorem ZQz(w:yL (Ty.aK []))(ls:yL Zq):aG [.var (.agg [.rw 1]) ae,.aV Zu w ae 112 ls]=[ep w.length ls.length,eu w.length ls.length ls]:=by
 have f:=(pJ (L:=lk [.var (.agg [.rw 1]) ae,.aV Zu w ae 112 ls]) (id:=1) (v:=w) (s:=60) (N:=ls.length) (by kernel_rfl)).1;show[aq.var (.agg [(TD.rw 1).er (lk [.var (.agg [.rw 1]) ae,.aV Zu w ae 112 ls])]) ae,aq.row w.length Zu.size ae 112 (.p (.arr ls.length Zu.size (ls.map Zu.enc)))]=_;rw[f];rfl
def Qx(F:Nat):Fs yb:=⟨28,[.aj 0 [],.v Zc,.v (.int .i64),.v .u64],RJ,[Zc,(.int .i64),.u64,aQf,(.sl Zu)],[⟨.ret,[(0,.bm [.v (.sl ZM),.v (.int .i64)])],RJ,[(.sl ZM),(.int .i64),aQf,(.sl Zu)]⟩],
 λx=>RH F x.1 x.2.1 x.2.2.1 x.2.2.2.1 x.2.2.2.2⟩
def ZlU:Fs yb:=Qx yD
theorem Zk3:ZlU.Ok:=by
 rintro⟨(s:yG),(i:Int),(p:yU),(w:yL (Ty.aK [])),(ls:yL Zq)⟩ o h
 replace h:RH yD s i p w ls=ab o:=h
 unfold RH at h;split at h
 .rename_i W;obtain⟨l,h1,I⟩:=yf.1 h;obtain⟨e,k0⟩:=ZyD h1
  have ho:∃m e,o=(m,e,w,ls):=by
   split at I
   .obtain⟨m,_,M⟩:=yf.1 I;split at M <;> cases M <;> exact⟨_,_,rfl⟩
   .cases I;exact⟨_,_,rfl⟩
  obtain⟨R,S,rfl⟩:=ho;refine⟨[.aj 0 [],.p (.v Zc s),.p (.v (.int .i64) i),.p (.v .u64 p)],[⟨.sl (.st []),w⟩,⟨.sl Zu,ls⟩],[.var (.agg [.rw 1]) ae,.aV Zu w ae 112 ls],by kernel_rfl,by kernel_rfl,λx vs s' hs hf=> ?_⟩;obtain⟨rfl,rfl⟩:=hs
  have hs':s'=([.bm [.p (.v (.sl ZM) R),.p (.v (.int .i64) S)]],[.var (.agg [.rw 1]) ae,.aV Zu w ae 112 ls]):=by
   have M:QS 1 [(0,.bm [.v (.sl ZM),.v (.int .i64)])] RJ (dq [(.sl ZM),(.int .i64),aQf,(.sl Zu)] (R,S,w,ls))=ab ([.bm [.p (.v (.sl ZM) R),.p (.v (.int .i64) S)]],[.var (.agg [.rw 1]) ae,.aV Zu w ae 112 ls]):=by kernel_rfl
   exact(ybq (M.symm.trans hf)).symm
  subst hs';refine⟨_,rfl, ?_⟩;show bZ yb 28 (TD.aE (lk [.var (.agg [.rw 1]) ae,.aV Zu w ae 112 ls]) [.aj 0 [],.p (.v Zc s),.p (.v (.int .i64) i),.p (.v .u64 p)]) (aG [.var (.agg [.rw 1]) ae,.aV Zu w ae 112 ls]) ((TD.bm [.p (.v (.sl ZM) R),.p (.v (.int .i64) S)]).er (lk [.var (.agg [.rw 1]) ae,.aV Zu w ae 112 ls])) (aG [.var (.agg [.rw 1]) ae,.aV Zu w ae 112 ls]);rw[ZQz];show bZ yb 28 [.aj 0 0 [],.p (Zc.enc s),.p (.int .i64 i),.p (Ty.enc .u64 p)] [ep w.length ls.length,eu w.length ls.length ls] (.bm [.p (.sl ad 4 (R.map ZM.enc)),.p (.int .i64 S)]) [ep w.length ls.length,eu w.length ls.length ls]
  have X:∀k,k < ls.length->ZP yD s (List.getD (α:=Zq) ls k default).2.1=ab ((ZP yD s (List.getD (α:=Zq) ls k default).2.1).getD default):=λk E=>by
   grind
  have Y:∀k,k < ls.length->aL yD (List.getD (α:=Zq) ls k default).1 ((ZP yD s (List.getD (α:=Zq) ls k default).2.1).getD default)=ab (l.getD k af):=λk E=>by
   obtain⟨t,t1,t2⟩:=k0 k E;rw[t1];exact t2
  have Q:=ZC4 l;rw[e]at Q;have B:∀(e:Int),Wk (.bm [.p (.sl (ab af) 4 []),.p (.int .i64 e)]) (.bm [.p (.sl ad 4 ([]:yL Pl)),.p (.int .i64 e)]):=λe=>ZO6 (bF.gq aY.nil);split at I
  .rename_i A;obtain⟨m,M,U⟩:=yf.1 I;obtain⟨em,km⟩:=ZyE M
   have E:∀k,k < ls.length->Vt yD (List.getD (α:=Zq) ls k default).1 ((ZP yD s (List.getD (α:=Zq) ls k default).2.1).getD default) i p=ab ((m.getD k default).1,(m.getD k default).2):=λk E=>by
    obtain⟨t,t1,t2⟩:=km k E;rw[t1];exact t2
   have hp:∀k,(m.getD k default).2≠0->((m.getD k default).2 !=0)=ae:=λk h=>by simpa using h
   cases y:m.find? (λq=>q.2 !=0) with
   |some q=>
    rw[y]at U;cases U;refine rz (RG (c:=λk=>(m.getD k default).1) (er:=λk=>(m.getD k default).2) (res:=.bm [.p (.sl (ab af) 4 []),.p (.int .i64 q.2)]) W X Y (λ_=>E) (λh=> ?_) (λ_ h=> ?_) (λ_ k Z F T=> ?_)) (B q.2) (ca.refl _)
    .rw[Q,A]at h;cases h
    .have h5:=List.find?_some y;have h6:=List.mem_of_find?_eq_some y;obtain⟨j,T,hq⟩:=ybi h6;have:=h j (by omega);rw[ycu,yad T,Option.getD_some,hq]at this;rw[this]at h5;simp at h5
    .have:=RI (p:=λq:VJ×Int=>q.2 !=0) m k (by omega) (hp k F) (λj G=>by simpa using T j G);rw[y]at this;cases this
     rfl
   |none=>
    rw[y]at U;cases U;refine rz (RG (c:=λk=>(m.getD k default).1) (er:=λk=>(m.getD k default).2) (res:=.bm [.p (.sl ad 4 (eI (λk=>(m.getD k default).1) ls.length)),.p (.int .i64 0)]) W X Y (λ_=>E) (λh=> ?_) (λ_ _=>rfl) (λ_ k Z F T=> ?_)) (Wk.of_eq ?_) (ca.refl _)
    .rw[Q,A]at h;cases h
    .have:=RI (p:=λq:VJ×Int=>q.2 !=0) m k (by omega) (hp k F) (λj G=>by simpa using T j G);rw[y]at this;cases this
    .rw[<-em,ZyF m.length (ym _),List.take_of_length_le (by simp)];have hmm:=(List.map_map (l:=m) (f:=λq:VJ×Int=>q.1) (g:=λc:VJ=>ZM.enc c)).symm;exact congrArg (λl=>Dv.bm [.p (.sl ad 4 l),.p (.int .i64 0)]) hmm
  .rename_i A;cases I;have z:l.all id=af:=by simpa using A
   exact rz (RG (c:=λ_=>default) (er:=λ_=>0) (res:=.bm [.p (.sl (ab af) 4 []),.p (.int .i64 14)]) W X Y (λh=>by rw[Q,z]at h;cases h) (λ_=>rfl) (λh=>by rw[Q,z]at h;cases h) (λh=>by rw[Q,z]at h;cases h)) (B 14) (ca.refl _)
 .cases h
theorem ZKW{a:Chan}{s:yG}{w:yL ah}{q:Chan×yG×Tx×Int}(h:Vs yD a s w=ab q):bZ yb 10 [.p (Zf.enc a),.p (Zc.enc s),.p (Ty.enc aQc w)] [] (.bm [.p (Zf.enc q.1),.p (Zc.enc q.2.1),.p (aJ.enc q.2.2.1),.p (.int .i64 q.2.2.2)]) []:=by
 obtain⟨g,R,H,f,j,l⟩:=MD (a,s,w) q h;have f:=(show Sh.fills [.v Zf,.v Zc,.v aQc] (dq [Zf,Zc,aQc] (a,s,w))=ab ([.p (.v Zf a),.p (.v Zc s),.p (.v aQc w)],[]) by kernel_rfl).symm.trans f;cases f;cases j;obtain⟨r,m,y⟩:=l _ _ ([.bm [.p (.v Zf q.1),.p (.v Zc q.2.1),.p (.v aJ q.2.2.1),.p (.v (.int .i64) q.2.2.2)]],[]) ⟨rfl,rfl⟩ (by kernel_rfl);cases m;exact y
theorem ZKX{P:yg}{o:yj}{ts:yL Dv}{H:yL aq}{t x id v off i j n s:Nat}{st:Bool}{e:TypeId}{xs ys:yL Pl}{y:Pl}{hs:yL ar}(ho:o.op=.load t (.tmp x))(g:ts.getD x .ak=.ba id v off [i,j])(hH:H[id]? =ab (.row v s st e (.p (.arr n s xs))))
 (h:ys[j]? =ab y) (l:fS P t (.p y)=ae):cw P o ts H (.el (.agg ys)::hs)=ab ([xs[i]? =ab (.agg ys),i*s+(Pl.sizes (ys.take j)+0)=off],.p y,H,hs):=by
 have f:aC P ts 0 (.tmp x)=.ba id v off [i,j]:=g
 have m:bj P o ts (.el (.agg ys)::hs)=ad:=by
  unfold bj;grind
 have z:bH P o ts H (.el (.agg ys)::hs)=ab ([xs[i]? =ab (.agg ys),i*s+(Pl.sizes (ys.take j)+0)=off],.p y,hs):=by
  unfold bH;rw[ho];dsimp only;rw[f];dsimp only;rw[hH];dsimp only[Z9,Option.map];grind
 unfold cw;grind
noncomputable def RK:Array yj:=match QT (ZL yb 25) 4 with|.region _ ops _=>ops|_=> #[]
noncomputable def ZRa:Nat:=match QT (ZL yb 25) 4 with|.region id _ _=>id|_=>0
theorem ZMI:QT (ZL yb 25) 4=.region ZRa RK ae:=by kernel_rfl
theorem RL:RK.size=22:=by kernel_rfl
section
variable(x:Zq)(r:yL Zq)(v:Nat)(s:yG)(w:yL ah)(q:Chan×yG×Tx×Int)(e4:aq)
noncomputable def adD:Nat->Dv
 |0=>.aj 1 0 []
 |1=>.aj 1 0 []
 |2=>.aj 1 0 [0]
 |3=>.rv 0 v 60 0 (r.length+1)
 |4=>.ba 0 v ((0+0)*60) [0+0]
 |5=>.ba 0 v ((0+0)*60+0) [0+0,0]
 |6=>.p (Zf.enc x.1)
 |7=>.p (Zc.enc s)
 |8=>.p (Ty.enc aQc w)
 |9=>.bm [.p (Zf.enc q.1),.p (Zc.enc q.2.1),.p (aJ.enc q.2.2.1),.p (.int .i64 q.2.2.2)]
 |10=>.bm [.p (Zf.enc q.1),.p (Zc.enc q.2.1),.p (aJ.enc q.2.2.1),.p (.int .i64 q.2.2.2)]
 |11=>.p (Zf.enc q.1)
 |12=>.p (Zc.enc q.2.1)
 |13=>.p (aJ.enc q.2.2.1)
 |14=>.p (.int .i64 q.2.2.2)
 |15=>.aj 5 0 []
 |16=>.aj 6 0 []
 |17=>.aj 7 0 []
 |18=>.ak
 |19=>.ak
 |20=>.ak
 |21=>.p (.int .i64 q.2.2.2)
 |_=>.ak
noncomputable def RM:yL NV:=[⟨15,18,35,Zf.enc q.1,.tmp 8,.tmp 32⟩,⟨16,19,39,Zc.enc q.2.1,.tmp 9,.tmp 33⟩,⟨17,20,49,aJ.enc q.2.2.1,.tmp 10,.tmp 34⟩]
noncomputable def adH:yL aq:=[aq.row v 60 ae 112 (.p (.arr (r.length+1) 60 ((x::r).map Zu.enc))),aq.var (.agg [.rv 0 v 60 0 (r.length+1)]) ae,aq.var (.p (Zc.enc s)) ae,aq.var (.p (Ty.enc aQc w)) ae,e4]
noncomputable def AP:yL Dv:=(yn 64).map λs=>match s with|0=>.aj 1 0 []|4=>.aj 2 0 []|5=>.aj 3 0 []|6=>.aj 4 0 []|_=>Dv.ak
end
noncomputable def adS:Nat->yL Nat×yL Nat
 |0=>([],[0])
 |1=>([0],[])
 |2=>([1],[])
 |3=>([2],[])
 |4=>([3],[])
 |5=>([4],[])
 |6=>([5],[])
 |7=>([],[4])
 |8=>([],[5])
 |9=>([6,7,8],[])
 |10=>([9],[])
 |11=>([10],[])
 |12=>([10],[])
 |13=>([10],[])
 |14=>([10],[])
 |18=>([15,11],[])
 |19=>([16,12],[])
 |20=>([17,13],[])
 |21=>([14],[])
 |_=>([],[])
abbrev ZQA(x:Zq)(r:yL Zq)(v:Nat)(s:yG)(w:yL ah)(q:Chan×yG×Tx×Int)(e4:aq):yL Dv:=dg (AP).length (aX RK.toList) (adD x r v s w q) (AP) [15,16,17,21] [0,5,6]
theorem ZMJ(x:Zq)(r:yL Zq)(v:Nat)(s:yG)(w:yL ah)(q:Chan×yG×Tx×Int)(e4:aq)(g:Vs yD x.1 s w=ab q):XZ yb (QT (ZL yb 25) 4) (AP) (adH x r v s w e4) .normal (ZQA x r v s w q e4) (adH x r v s w e4++(RM q).map λv=>.var (.p v.p) ae):=by
 rw[ZMI];refine Zyy (by kernel_rfl) (adD x r v s w q) (RM q) adS (by rw[RL];kernel_rfl) (by kernel_rfl) (by rw[RL];kernel_rfl) [15,16,17,21] [0,5,6] (by kernel_rfl) (by kernel_rfl) (by kernel_rfl) (λi f l Z=> ?_) (λk v m=> ?_)
 .rw[RL]at f
  match i,f,l with
  |0,_,_=>exact⟨[.raw],[],by kernel_rfl,ao⟩
  |1,_,_=>exact⟨[],[],by kernel_rfl,ao⟩
  |2,_,_=>exact⟨[],[],by kernel_rfl,ao⟩
  |3,_,_=>exact⟨[],[(0:Nat)=0],by kernel_rfl,by omega,ao⟩
  |4,_,_=>exact⟨[],[(0:Int)<=0,(0:Int) < ((r.length+1:Nat):Int)],by kernel_rfl,by omega,by omega,ao⟩
  |5,_,_=>exact⟨[],[],by kernel_rfl,ao⟩
  |6,_,_=>exact⟨[.el (Zu.enc x)],[((x::r).map Zu.enc)[0+0]? =ab (Zu.enc x),(0+0)*60+(0+0)=(0+0)*60+0],ZKX (t:=35) (x:=27) (id:=0) (v:=v) (n:=r.length+1) (s:=60) (st:=ae) (e:=112) (xs:=(x::r).map Zu.enc) (i:=0+0) (j:=0) (by kernel_rfl) (by kernel_rfl) (by kernel_rfl) (by kernel_rfl) (by kernel_rfl),rfl,rfl,ao⟩
  |7,_,_=>exact⟨[],[(0:Nat)=0],by kernel_rfl,by omega,ao⟩
  |8,_,_=>exact⟨[],[(0:Nat)=0],by kernel_rfl,by omega,ao⟩
  |9,_,_=>exact⟨[.call (.bm [.p (Zf.enc q.1),.p (Zc.enc q.2.1),.p (aJ.enc q.2.2.1),.p (.int .i64 q.2.2.2)]) [] []],[bZ yb 10 [.p (Zf.enc x.1),.p (Zc.enc s),.p (Ty.enc aQc w)] [] (.bm [.p (Zf.enc q.1),.p (Zc.enc q.2.1),.p (aJ.enc q.2.2.1),.p (.int .i64 q.2.2.2)]) []],by kernel_rfl,ZKW g,ao⟩
  |10,_,_=>exact⟨[.raw],[],by kernel_rfl,ao⟩
  |11,_,_=>exact⟨[],[],by kernel_rfl,ao⟩
  |12,_,_=>exact⟨[],[],by kernel_rfl,ao⟩
  |13,_,_=>exact⟨[],[],by kernel_rfl,ao⟩
  |14,_,_=>exact⟨[],[],by kernel_rfl,ao⟩
  |15,_,h=>exact absurd (show ae=af from h) (by decide)
  |16,_,h=>exact absurd (show ae=af from h) (by decide)
  |17,_,h=>exact absurd (show ae=af from h) (by decide)
  |18,_,h=>exact absurd (show ae=af from h) (by decide)
  |19,_,h=>exact absurd (show ae=af from h) (by decide)
  |20,_,h=>exact absurd (show ae=af from h) (by decide)
  |21,_,_=>exact⟨[.raw],[],by kernel_rfl,ao⟩
  |_+22,h,_=>exact absurd h (by omega)
 .match k,m with
  |0,rfl=>exact⟨by kernel_rfl,by kernel_rfl,by kernel_rfl,by kernel_rfl,by kernel_rfl,by kernel_rfl,by kernel_rfl,by kernel_rfl,by kernel_rfl,by kernel_rfl,by kernel_rfl,by kernel_rfl,by kernel_rfl⟩
  |1,rfl=>exact⟨by kernel_rfl,by kernel_rfl,by kernel_rfl,by kernel_rfl,by kernel_rfl,by kernel_rfl,by kernel_rfl,by kernel_rfl,by kernel_rfl,by kernel_rfl,by kernel_rfl,by kernel_rfl,by kernel_rfl⟩
  |2,rfl=>exact⟨by kernel_rfl,by kernel_rfl,by kernel_rfl,by kernel_rfl,by kernel_rfl,by kernel_rfl,by kernel_rfl,by kernel_rfl,by kernel_rfl,by kernel_rfl,by kernel_rfl,by kernel_rfl,by kernel_rfl⟩
  |_+3,h=>cases h
abbrev ZRb:Type:=yL (Ty.aK [])×yL Zq×yG×yL ah×Tx
abbrev ZRc:Type:=Int×yL (Ty.aK [])×yL Zq×yG×yL ah×Tx×Chan×yG×Tx
noncomputable def Zod(F:Nat)(a:ZRb):yO ZRc:=
 match a.2.1 with
 |[]=>ad
 |x::r=>(Vs F x.1 a.2.2.1 a.2.2.2.1).bind λq=>ab (q.2.2.2,a.1,x::r,a.2.2.1,a.2.2.2.1,a.2.2.2.2,q.1,q.2.1,q.2.2.1)
noncomputable def RN(F:Nat):Lp:=⟨[(0,.aj 1 []),(4,.aj 2 []),(5,.aj 3 []),(6,.aj 4 [])],[.row Zu ae 112,.var (.agg [.rw 0]) ae,.var (.v Zc) ae,.var (.v aQc) ae,.var (.v aJ) ae],[aQf,(.sl Zu),Zc,aQc,aJ],[⟨.normal,[(0,.aj 1 []),(5,.aj 3 []),(6,.aj 4 []),(8,.aj 5 []),(9,.aj 6 []),(10,.aj 7 []),(11,.v (.int .i64))],[.row Zu ae 112,.var (.agg [.rw 0]) ae,.var (.v Zc) ae,.var (.v aQc) ae,.var (.v aJ) ae,.var (.v Zf) ae,.var (.v Zc) ae,.var (.v aJ) ae],[.int .i64,aQf,(.sl Zu),Zc,aQc,aJ,Zf,Zc,aJ]⟩],Zod F⟩
noncomputable def Zpu:Lp:=RN yD
section
variable(x:Zq)(r:yL Zq)(z0:yL (Ty.aK []))(z2:yG)(z3:yL ah)(z4:Tx)(q:Chan×yG×Tx×Int)
noncomputable def RO:yL TD:=((yn 64).map λs=>match s with|0=>.aj 1 []|4=>.aj 2 []|5=>.aj 3 []|6=>.aj 4 []|_=>TD.ak)
noncomputable def RP:yL TD:=((yn 64).map λs=>match s with|0=>.aj 1 []|5=>.aj 3 []|6=>.aj 4 []|8=>.aj 5 []|9=>.aj 6 []|10=>.aj 7 []|11=>.p (.v (.int .i64) q.2.2.2)|_=>TD.ak)
noncomputable def ng:yL ai:=[.aV Zu z0 ae 112 (x::r),.var (.agg [.rw 0]) ae,.var (.p (.v Zc z2)) ae,.var (.p (.v aQc z3)) ae,.var (.p (.v aJ z4)) ae]
noncomputable def oU:yL ai:=ng x r z0 z2 z3 z4++[.var (.p (.v Zf q.1)) ae,.var (.p (.v Zc q.2.1)) ae,.var (.p (.v aJ q.2.2.1)) ae]
noncomputable def adG(v:Nat)(s:yG)(w:yL ah)(e4:aq)(d:Dv):yL aq:=[aq.row v 60 ae 112 (.p (.arr (r.length+1) 60 ((x::r).map Zu.enc))),aq.var (.agg [d]) ae,aq.var (.p (Zc.enc s)) ae,aq.var (.p (Ty.enc aQc w)) ae,e4]
end
theorem ZMK:VF yb 25=64:=by kernel_rfl
theorem ZlV:Zpu.Is yb (VF yb 25) (QT (ZL yb 25) 4):=by
 rw[ZMK];intro v o g s hs e vs B f hs';obtain⟨z0,z1,z2,z3,z4⟩:=v
 cases z1 with
 |nil=>cases g
 |cons x r=>
  obtain⟨q,l,m⟩:=yf.1 (show(Vs yD x.1 z2 z3).bind _=ab o from g)
  cases m;obtain⟨rfl,rfl⟩:=f;have y:=ZMJ x r z0.length z2 z3 q (.var (.p (aJ.enc z4)) ae) l;obtain rfl:=ybq ((show _=ab (RO,ng x r z0 z2 z3 z4) by kernel_rfl).symm.trans hs);obtain rfl:=ybq ((show _=ab (RP q,oU x r z0 z2 z3 z4 q) by kernel_rfl).symm.trans hs');have z:=(pJ (L:=lk (ng x r z0 z2 z3 z4)) (id:=0) (v:=z0) (s:=60) (N:=r.length+1) (by kernel_rfl)).1;have A:=(pJ (L:=lk (oU x r z0 z2 z3 z4 q)) (id:=0) (v:=z0) (s:=60) (N:=r.length+1) (by kernel_rfl)).1;have h:aG (ng x r z0 z2 z3 z4)=adG x r z0.length z2 z3 (.var (.p (aJ.enc z4)) ae) ((TD.rw 0).er (lk (ng x r z0 z2 z3 z4))):=by kernel_rfl
  have j:aG (oU x r z0 z2 z3 z4 q)=adG x r z0.length z2 z3 (.var (.p (aJ.enc z4)) ae) ((TD.rw 0).er (lk (oU x r z0 z2 z3 z4 q)))++(RM q).map λv=>.var (.p v.p) ae:=by kernel_rfl
  rw[z]at h;rw[A]at j;show XZ yb _ (TD.aE (lk (ng x r z0 z2 z3 z4)) RO) (aG (ng x r z0 z2 z3 z4)) .normal (TD.aE (lk (oU x r z0 z2 z3 z4 q)) (RP q)) (aG (oU x r z0 z2 z3 z4 q));rw[show TD.aE (lk (ng x r z0 z2 z3 z4)) RO=AP by kernel_rfl,show TD.aE (lk (oU x r z0 z2 z3 z4 q)) (RP q)=ZQA x r z0.length z2 z3 q (.var (.p (aJ.enc z4)) ae) by kernel_rfl,h,j];exact y
end
end Go.Proofs.YtcbhhaigilifgaaGreat
end
