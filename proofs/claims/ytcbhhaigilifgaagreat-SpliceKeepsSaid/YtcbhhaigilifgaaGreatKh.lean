/- Parts of the proof, in one file. -/
import Derived.Test.YtcbhhaigilifgaaGreatKg
open Option renaming some → ab, none → ad
open Bool renaming true → ae, false → af
open Decidable renaming decide → ag
open Array renaming replicate → ycg, getElem?_eq_getElem → ycl, getElem?_eq_some_iff → yco, getD_eq_getD_getElem? → ycu, getElem?_setIfInBounds → ycz
open Bool renaming and_eq_true → yi, or_false → ycj
open Go renaming Program → yg, Value → yh, Oper → yj, World → yr
open Go.Proofs.Tryz renaming prog → yb
open Int renaming toNat_natCast → yat
open List renaming length_append → yl, range → yo, getElem?_eq_some_iff → yu, replicate → yx, length_take → yaa, getElem?_eq_getElem → yab, append_assoc → yac, length_map → yad, length_cons → yaf, take_length → yai, getElem?_cons_succ → yak, all_eq_true → yal, getElem?_cons_zero → yam, getElem?_append_right → yaq, mem_cons_self → yau, mem_cons_of_mem → yav, map_append → yaw, length_drop → yaz, take_append_drop → ybb, mem_singleton → ybc, getElem?_append_left → ybe, append_nil → ybf, getElem_of_mem → ybg, mem_of_getElem? → ybk, mem_cons → ybp, mem_range → ybr, mem_map → ybw, getElem?_eq_none → ybz, mem_append → ycm, length_nil → ycn, getD_eq_getElem?_getD → ycx, length_singleton → ycy
open Nat renaming le_refl → ym, zero_add → yar, le_trans → ybt
open Option renaming bind_some → ya, bind_eq_some_iff → yf
open Option.some renaming inj → ybl
open Prod.mk renaming injEq → yq
set_option linter.unusedVariables false
set_option linter.unusedSimpArgs false
section
set_option maxRecDepth 4000
namespace Go.Proofs.YtcbhhaigilifgaaGreat
open Go Go.Ev
theorem ZHn{a b:yL yB}(h:a.length<=2000000):Z5 yD a b=ab (ag (a=b)):=by
 obtain⟨r,I⟩:=ZEp (a:=a) (b:=b) h;by_cases g:a=b
 .subst g;rw[Zte h,yY rfl]
 .rw[yZ g];unfold Z5;by_cases y:a.length=b.length
  .rw[yX (by simp[y])]
   obtain⟨x,F,G⟩:=XH (step:=ZE yD) a.length (λk s=>s=(a,b,(a.length:Int),(k:Int))/\a.take k=b.take k) (λx=>x=.inl af) (i:=(a,b,(a.length:Int),(0:Int))) ⟨rfl,rfl⟩ (by omega) (by
    rintro k _ z ⟨rfl,m⟩;obtain⟨e,A,_⟩:=Zj z;obtain⟨f,E,_⟩:=Zj (l:=b) (k:=k) (by omega);unfold ZE;dsimp only;rw[yW (Zw z),Zn A,ya,Zn E,ya,Zr (by omega)];by_cases j:e=f
    .left;rw[yX (by simp[j])];exact⟨_,rfl,rfl,by rw[List.take_add_one,List.take_add_one,m,A,E,j]⟩
    .right;rw[yW (bne_iff_ne.2 j)];exact⟨_,rfl,rfl⟩) (by
    rintro _ ⟨rfl,m⟩;rw[yai,y,yai]at m;exact absurd m g)
   rw[F,ya,G]
  .rw[yW (by simp;omega)]
theorem Zxl{b:yL yB}(hb:b.length<=2000000):∃l ok,oD yD b=ab (l,ok)/\(ok=ae->Wg l/\gX l/\gv l=b)/\(ok=af->l=[]):=by
 unfold oD;rw[AF hb,ya,VH hb,ya];have z:=QP (b,af);generalize WQ (b,af)=q at z;obtain⟨n,r⟩:=q;dsimp only at z ⊢
 obtain⟨x,A,Y,f,rfl,E,j⟩:=XH (step:=WU yD) (min n.toNat 4) (λk s=>∃r f,s=(b,n,(k:Int),([]:Z4),r,f)/\r.1.length<=2000000/\f.length=k/\∀e,e∈f->e.1.length<=12) (λx=>∃r f,x=(b,([]:Z4),r,f)/\f.length<=4/\∀e,e∈f->e.1.length<=12)
  (i:=(b,n,(0:Int),([]:Z4),r,([]:yL ZR))) ⟨r,[],rfl,by omega,rfl,λe he=>by cases he⟩ (by omega) (by
  rintro k _ y ⟨r,f,rfl,A,E,j⟩;have Z:=QP r;unfold WU;dsimp only;rw[yW (yY (by omega)),VH A,ya,yX (by rw[yT];omega)];by_cases g:(WQ r).1 > 12
  .right;rw[yW (yY g)];exact⟨_,rfl,_,_,rfl,by omega,j⟩
  .left;rw[yX (by rw[yN];exact g)];obtain⟨F,w,Q,R,S⟩:=ZHm (b:=b) (n:=n) (i:=(k:Int)) (m:=(WQ r).1) (l:=[]) (r:=(WQ r).2) (acc:=f) (i1:=0) (i2:=0) (u:=0) (by omega) (by omega);have T:=QP F;have U:=QP (WQ F).2;have W:=ug (WQ (WQ F).2).2;rw[Q,ya];dsimp only;rw[VH R,ya,VH (by omega),ya,kU (by omega),ya,yW (ZZ (by omega) (by omega)),Zr (by omega)];refine⟨_,rfl,_,_,rfl,by omega,by simp[E],λe he=> ?_⟩;rcases ycm.1 he with he|he
   .exact j e he
   .rw[ybc.1 he];exact S) (by
  rintro _ ⟨r,f,rfl,A,E,j⟩;unfold WU;dsimp only;by_cases M:((min n.toNat 4:Nat):Int) < n
  .rw[yW (yY M),VH A,ya,yW (by rw[yT];omega)];exact⟨_,rfl,_,_,rfl,by omega,j⟩
  .rw[yX (by rw[yN];exact M)];exact⟨_,rfl,_,_,rfl,by omega,j⟩)
 rw[A,ya];dsimp only;have X:dO f:=⟨by omega,λe he=>by have:=j e he;omega⟩;obtain⟨k,G,I⟩:=QO X;rw[G,ya]
 cases k with
 |false=>exact⟨_,_,rfl,λh=>(by cases h),λ_=>rfl⟩
 |true=>
  have y:=I.1 rfl;have zW:=qm y.1;rw[yX (by decide),ON y.1 y.2,ya,ZHn (by omega),ya];by_cases J:gv f=b
  .rw[yY J,yX (by decide)];exact⟨_,_,rfl,λ_=>⟨y.1,y.2,J⟩,λh=>(by cases h)⟩
  .rw[yZ J,yW (by decide)];exact⟨_,_,rfl,λh=>(by cases h),λ_=>rfl⟩
open Classical in
noncomputable def mZ(b:yL yB):Z4×Bool:=if h:∃l,Wg l/\gX l/\gv l=b then(h.choose,ae) else([],af)
theorem ZJy{b:yL yB}(hb:b.length<=2000000):oD yD b=ab (mZ b):=by
 obtain⟨l,f,g,j,m⟩:=Zxl hb;unfold mZ;by_cases h:∃l,Wg l/\gX l/\gv l=b
 .obtain⟨y,z,A⟩:=h.choose_spec;have:=Zvm y z;rw[A]at this;rw[dif_pos h,this]
 .rw[dif_neg h,g]
  cases f with
  |false=>rw[m rfl]
  |true=>exact absurd ⟨l,j rfl⟩ h
theorem PH{r:Zf}{n:Nat}(h:(VP r n).2.2=af):r.2=af/\r.1=(VP r n).1++(VP r n).2.1/\(VP r n).1.length=n:=by
 unfold VP at h ⊢;by_cases c:r.2=ae\/r.1.length < n
 .rw[yW c]at h;cases h
 .rw[yX c]at h ⊢;have f:¬r.2=ae:=λq=>c (.inl q);have g:¬r.1.length < n:=λq=>c (.inr q);refine⟨by simpa using f,(ybb n r.1).symm, ?_⟩;show(r.1.take n).length=n;rw[yaa];omega
theorem ZEr{r:Zf}(h:(iF r).2.2=af):r.2=af/\r.1=(iF r).1++(iF r).2.1:=by
 obtain⟨f,g,j⟩:=PH (r:=r) (n:=32) h;refine⟨f, ?_⟩;unfold iF;rw[j,Nat.sub_self,List.replicate_zero,ybf];exact g
theorem ZHo:∀(l:yL yB),l.length<=8->∀k,k<=l.length->∀j,j < k->∃d,l[j]? =ab d/\fk l k / 256 ^ (k - 1 - j) % 256=d.toNat:=by
 intro l E k
 induction k with
 |zero=>intro _ j h;omega
 |succ k m=>
  intro F j h;obtain⟨d,g,_⟩:=Zj (l:=l) (k:=k) (by omega)
  have e:fk l (k+1)=fk l k*256+d.toNat:=by
   show fk l k*256+((l[k]?).map UInt8.toNat).getD 0=_;rw[g];rfl
  have y:d.toNat < 256:=UInt8.toNat_lt d;by_cases f:j=k
  .subst f;refine⟨d,g, ?_⟩;rw[e,show j+1 - 1 - j=0 by omega,Nat.pow_zero,Nat.div_one];omega
  .obtain⟨c,z,A⟩:=m (by omega) j (by omega);refine⟨c,z, ?_⟩;rw[e,show k+1 - 1 - j=(k - 1 - j)+1 by omega,Nat.pow_succ,Nat.mul_comm (256 ^ (k - 1 - j)), <-Nat.div_div_eq_div_mul,show(fk l k*256+d.toNat) / 256=fk l k by omega];exact A
theorem ZHp{l:yL yB}(h:l.length=8):fz (fk l 8)=l:=by
 apply List.ext_getElem?;intro j;by_cases f:j < 8
 .obtain⟨d,d1,d2⟩:=ZHo l (by omega) 8 (by omega) j f;rw[zz _ f,d1];refine congrArg ab (UInt8.toNat_inj.1 ?_);rw[UInt8.toNat_ofNat']
  rw[<-d2,show(2:Nat) ^ (56 - 8*j)=256 ^ (8 - 1 - j) by
   rw[show(256:Nat)=2 ^ 8 from rfl, <-Nat.pow_mul]
   congr 1;omega]
 .rw[ybz (by rw[YM];omega),ybz (by omega)]
theorem ZHq{r:Zf}(h:(ju r).2.2=af):r.2=af/\r.1=fz (ju r).1.toNat++(ju r).2.1:=by
 obtain⟨g,j,f⟩:=PH (r:=r) (n:=8) h;refine⟨g, ?_⟩;unfold ju;dsimp only;rw[f];have l:=PE (VP r 8).1 8
 rw[show(UInt64.ofNat (fk (VP r 8).1 8)).toNat=fk (VP r 8).1 8 by
  rw[UInt64.toNat_ofNat'];exact Nat.mod_eq_of_lt (Nat.lt_of_lt_of_eq l (by decide)),ZHp f]
 exact j
theorem Zvn(b:yL yB):∀(f k n:Nat),(Wu b f k n).1=ae->∃m,(Wu b f k n).2.1=n+m*128 ^ k/\b.drop k=Yp m++b.drop (Wu b f k n).2.2/\(0 < k->0 < m)
 |0,k,n,h=>by simp[Wu]at h
 |f+1,k,n,h=>by
  by_cases z:b.length<=k
  .rw[AB z]at h;cases h
  have g:=yab (Nat.lt_of_not_le z);generalize b[k]=d at g;have G:=UInt8.toNat_lt d;by_cases j:8 < k
  .rw[AC g j]at h;cases h
  by_cases y:0 < k/\d.toNat=0
  .rw[AD g j y]at h;cases h
  by_cases l:d.toNat < 128
  .rw[ui g j y l];refine⟨d.toNat,by dsimp only;rw[Nat.mod_eq_of_lt l], ?_,λI=>by omega⟩;dsimp only;rw[oJ l,uk g];simp
  .rw[uj g j y l]at h ⊢;obtain⟨m,E,F,A⟩:=Zvn b f (k+1) _ h;have A:=A (by omega);refine⟨d.toNat % 128+m*128, ?_, ?_,λ_=>by omega⟩
   .rw[E,Nat.add_mul,Nat.pow_succ,Nat.mul_assoc,Nat.mul_comm 128,Nat.add_assoc]
   .rw[tU (by omega),show(d.toNat % 128+m*128) / 128=m by omega,show(d.toNat % 128+m*128) % 128+128=d.toNat by omega,uk g,F];simp
theorem ZzK{r:Zf}(h:(WQ r).2.2=af):r.2=af/\r.1=Yp (WQ r).1.toNat++(WQ r).2.1:=by
 unfold WQ at h ⊢;by_cases c:(Wu r.1 10 0 0).1=ae
 .rw[yW c]at h ⊢;obtain⟨m,f,g,_⟩:=Zvn r.1 10 0 0 c;refine⟨h, ?_⟩;dsimp only;rw[f,Nat.pow_zero,Nat.mul_one,yar,yat];exact g
 .rw[yX c]at h;cases h
theorem ZBw{r:Zf}(h:(QQ r).2.2=af):r.2=af/\r.1=Yp (QQ r).1.length++((QQ r).1++(QQ r).2.1):=by
 unfold QQ at h ⊢;by_cases c:(WQ r).2.2=ae
 .rw[yW c]at h;dsimp only at h;rw[c]at h;cases h
 .rw[yX c]at h ⊢;obtain⟨m,f,g⟩:=PH h;obtain⟨j,l⟩:=ZzK (r:=r) (by simpa using c);refine⟨j, ?_⟩;rw[g, <-f];exact l
theorem ZzL{r:Zf}(h:r.1.length<=2000000):Qb yD r=ab (iF r):=by
 unfold Qb iF;rw[PF (by omega) h,ya];have f:=uf r 32;rw[show(32:Int).toNat=32 from rfl,yW (by rw[yi];exact⟨yY f.1,rfl⟩)]
 generalize (VP r 32).1=l at f;rw[List.take_zero,List.nil_append,show dt=yx 32 0 from rfl,List.drop_replicate,yar]
theorem ZzM{r:Zf}(h:r.1.length<=2000000):VA yD r=ab (QQ r):=by
 unfold VA QQ;have g:=QP r;rw[VH h,ya];by_cases f:(WQ r).2.2=ae
 .rw[yW f,yW f]
 .rw[yX f,yX f,PF g.1 (by omega),ya]
theorem AG{α:Type}{f:α->yL yB}{l:yL α}{e:α}:bo f (l++[e])=bo f l++f e:=by
 unfold bo
 rw[yaw,List.flatten_append];simp
def ft(r r':Zf)(f:yL yB):Prop:=r'.2=af->r.2=af/\r.1=f++r'.1
theorem ft.refl(r:Zf):ft r r []:=λh=>⟨h,rfl⟩
theorem ft.trans{a b c:Zf}{x y:yL yB}(h:ft a b x)(k:ft b c y):ft a c (x++y):=λq=>by
 obtain⟨f,g⟩:=k q;obtain⟨j,l⟩:=h f;exact⟨j,by rw[l,g,yac]⟩
theorem um(r:Zf):ft r (WQ r).2 (Yp (WQ r).1.toNat):=λh=>ZzK h
theorem ZHr(r:Zf):ft r (iF r).2 (iF r).1:=λh=>ZEr h
theorem PI(r:Zf):ft r (ju r).2 (fz (ju r).1.toNat):=λh=>ZHq h
theorem ZEs(r:Zf):ft r (QQ r).2 (Yp (QQ r).1.length++(QQ r).1):=λh=>by
 obtain⟨f,g⟩:=ZBw h;exact⟨f,by rw[yac];exact g⟩
def gL(m:Int)(r:Zf):Int×Zf:=(if(WQ r).1 > m then-1 else(WQ r).1,(WQ r).2)
theorem qp{m:Int}{r:Zf}(h:r.1.length<=2000000):qd yD m r=ab (gL m r):=by
 unfold qd gL;rw[VH h,ya];by_cases f:(WQ r).1 > m
 .rw[yW (yY f),yW f]
 .rw[yX (by rw[yN];exact f),yX f]
theorem PJ{m:Int}(f:0<=m)(r:Zf):(gL m r).1<=m/\ -1<=(gL m r).1/\(gL m r).2.1.length<=r.1.length:=by
 have h:=QP r;unfold gL;dsimp only;split <;> omega
theorem PK{m z:Int}(f:0<=z)(h1:z<=m)(hm:m<=1000)(yK:yL yB):gL m (Yp z.toNat++yK,af)=(z,(yK,af)):=by
 unfold gL;rw[kV f (by omega),yX (by omega)]
theorem PL{m:Int}(r:Zf)(h:0<=(gL m r).1):ft r (gL m r).2 (Yp (gL m r).1.toNat):=by
 unfold gL at h ⊢;by_cases c:(WQ r).1 > m
 .rw[yW c]at h;omega
 .rw[yX c];exact um r
theorem ZLW{b:yL yB}(h:(mZ b).2=ae):Wg (mZ b).1/\gX (mZ b).1/\gv (mZ b).1=b:=by
 unfold mZ at h ⊢;split
 .rename_i q;exact q.choose_spec
 .rename_i q;rw[dif_neg q]at h;cases h
theorem ZLX{n0 n nt:Int}{T:Tx}{r:Zf}(hn:n<=64)(j:r.1.length<=2000000):
 ∃v ins r',Zc (WH yD) yD (n0,n,(0:Int),T,nt,([]:yL Out),([]:yL Unit),([]:yL In),([]:yL In),r)=ab (n0,T,nt,([]:yL Out),v,([]:yL In),ins,r')/\r'.1.length<=2000000/\ins.length=n.toNat/\(∀x,x∈ins->x.1.1.length=32)/\ft r r' (bo eV ins):=by
 obtain⟨x,f,v,ins,r',rfl,g⟩:=XH (step:=WH yD) n.toNat (λk s=>∃v ins r',s=(n0,n,(k:Int),T,nt,([]:yL Out),v,([]:yL In),ins,r')/\r'.1.length<=2000000/\ins.length=k/\(∀x,x∈ins->x.1.1.length=32)/\ft r r' (bo eV ins))
  (λx=>∃v ins r',x=(n0,T,nt,([]:yL Out),v,([]:yL In),ins,r')/\r'.1.length<=2000000/\ins.length=n.toNat/\(∀x,x∈ins->x.1.1.length=32)/\ft r r' (bo eV ins)) (i:=(n0,n,(0:Int),T,nt,([]:yL Out),([]:yL Unit),([]:yL In),([]:yL In),r)) ⟨[],[],r,rfl,j,rfl,(λx hx=>by cases hx),ft.refl r⟩ (by omega) (by
  rintro k _ z ⟨v,ins,r',rfl,f,g,h,l⟩;left;have m:=ZEm r';have y:=QP (iF r').2;unfold WH;dsimp only;rw[yW (yY (by omega)),ZzL f,ya,VH (by omega),ya,yW (ZZ (by simp;omega) (by simp;omega)),Zr (by omega)];refine⟨_,rfl,_,_,_,rfl,by omega,by simp[g],λx hx=> ?_, ?_⟩
  .rcases ycm.1 hx with hx|hx
   .exact h x hx
   .rw[ybc.1 hx];exact m.1
  .rw[AG];exact l.trans ((ZHr r').trans (um _))) (by
  rintro _ ⟨v,ins,r',rfl,f,g,h⟩;unfold WH;dsimp only;rw[yX (dj (by omega))];exact⟨_,rfl,_,_,_,rfl,f,g,h⟩)
 exact⟨v,ins,r',f,g⟩
theorem ZJz{n0 m0 m nt:Int}{T:Tx}{v:yL Unit}{ins:yL In}{r:Zf}(hm:m<=64)(j:r.1.length<=2000000):
 ∃x,Zc (WI yD) yD (n0,m0,m,(0:Int),T,nt,([]:yL Out),v,([]:yL In),ins,r)=ab x/\
  ((∃y,x=.inl (af,(([]:yL In),([]:yL Out),(0:Int)),y))\/∃outs r',x=.inr (n0,m0,T,nt,outs,v,([]:yL In),ins,r')/\r'.1.length<=2000000/\outs.length=m.toNat/\(∀o,o∈outs->Wg o.2)/\ft r r' (bo fL outs)):=by
 refine XH (step:=WI yD) m.toNat (λk s=>∃outs r',s=(n0,m0,m,(k:Int),T,nt,outs,v,([]:yL In),ins,r')/\r'.1.length<=2000000/\outs.length=k/\(∀o,o∈outs->Wg o.2)/\ft r r' (bo fL outs)) _ ⟨[],r,rfl,j,rfl,(λx l=>by cases l),ft.refl r⟩ (by omega) ?_ ?_
 .rintro k _ J ⟨outs,r',rfl,f,g,h,z⟩;have M:=QP r';have A:=ZBv (WQ r').2;have E:=ZJy (b:=(QQ (WQ r').2).1) (by omega);unfold WI;dsimp only;rw[yW (yY (by omega)),VH f,ya,ZzM (by omega),ya,E,ya]
  cases F:(mZ (QQ (WQ r').2).1).2 with
  |false=>right;exact⟨_,rfl,.inl ⟨_,rfl⟩⟩
  |true=>
   left;obtain⟨G,Q,I⟩:=ZLW F;rw[yX (by simp),yW (ZZ (by omega) (by omega)),Zr (by omega)];refine⟨_,rfl,_,_,rfl,by omega,by simp[g],λo ho=> ?_, ?_⟩
   .rcases ycm.1 ho with ho|ho
    .exact h o ho
    .rw[ybc.1 ho];exact G
   .rw[AG];refine z.trans ?_;unfold fL;dsimp only;rw[I];exact(um r').trans (ZEs _)
 .rintro _ ⟨outs,r',rfl,f,g,h⟩;unfold WI;dsimp only;rw[yX (dj (by omega))];exact⟨_,rfl,.inr ⟨_,_,rfl,f,g,h⟩⟩
theorem ZJA{n0 m0 i0 len i s nt:Int}{T:Tx}{outs:yL Out}{v:yL Unit}{pre post:yL In}{fr:ZK}{br:Int}{sec:yU}{r:Zf}(hs:s<=12)(hi:i0.toNat=pre.length)(m:r.1.length<=2000000):
 ∃r' w,Zc (WJ yD) yD (n0,m0,i0,len,i,s,(0:Int),T,nt,outs,v,pre,post,fr,br,sec,r,([]:yL gr))=ab (n0,m0,(i0.toNat:Int),len,i,T,nt,outs,v,pre,post,fr,br,sec,r',w)/\r'.1.length<=2000000/\w.length=s.toNat/\ft r r' (bo gg w):=by
 obtain⟨x,f,r',w,rfl,g⟩:=XH (step:=WJ yD) s.toNat (λk t=>∃h r' w,t=(n0,m0,h,len,i,s,(k:Int),T,nt,outs,v,pre,post,fr,br,sec,r',w)/\h.toNat=pre.length/\r'.1.length<=2000000/\w.length=k/\ft r r' (bo gg w))
  (λx=>∃r' w,x=(n0,m0,(i0.toNat:Int),len,i,T,nt,outs,v,pre,post,fr,br,sec,r',w)/\r'.1.length<=2000000/\w.length=s.toNat/\ft r r' (bo gg w)) (i:=(n0,m0,i0,len,i,s,(0:Int),T,nt,outs,v,pre,post,fr,br,sec,r,([]:yL gr))) ⟨i0,r,[],rfl,hi,m,rfl,ft.refl r⟩ (by omega) (by
  rintro k _ z ⟨h,r',w,rfl,j,f,g,l⟩;left;have A:=ug r';have y:=ug (ju r').2;unfold WJ;dsimp only;rw[yW (yY (by omega)),yW (yY j),kU f,ya,kU (by omega),ya,yW (ZZ (by omega) (by omega)),Zr (by omega),j,yW (yY rfl)];refine⟨_,rfl,((pre.length:Nat):Int),_,_,rfl,by omega,by omega,by simp[g], ?_⟩;rw[AG];exact l.trans ((PI r').trans (PI _))) (by
  rintro _ ⟨h,r',w,rfl,j,f,g,l⟩;unfold WJ;dsimp only;rw[yX (dj (by omega)),j,hi];exact⟨_,rfl,_,_,rfl,f,g,l⟩)
 exact⟨r',w,f,g⟩
theorem ZJB{n0 m0 nt:Int}{T:Tx}{outs:yL Out}{v:yL Unit}{ins:yL In}{r:Zf}(hn:ins.length<=64)(E:r.1.length<=2000000):
 ∃x,Zc (WK yD) yD (n0,m0,((ins.length:Nat):Int),(0:Int),T,nt,outs,v,([]:yL In),ins,r)=ab x/\
  ((∃y,x=.inl (af,(([]:yL In),([]:yL Out),(0:Int)),y))\/∃pre r',x=.inr (n0,m0,T,nt,outs,v,pre,([]:yL In),r')/\r'.1.length<=2000000/\pre.map (λx=>x.1)=ins.map (λx=>x.1)/\ft r r' (bo fR pre)):=by
 refine XH (step:=WK yD) ins.length (λk s=>∃pre f r',s=(n0,m0,((ins.length:Nat):Int),(k:Int),T,nt,outs,v,pre,f,r')/\r'.1.length<=2000000/\pre.length=k/\pre.length+f.length=ins.length/\(pre++f).map (λx=>x.1)=ins.map (λx=>x.1)/\ft r r' (bo fR pre)) _
  ⟨[],ins,r,rfl,E,rfl,by simp,rfl,ft.refl r⟩ (by omega) ?_ ?_
 .rintro k _ F ⟨pre,f,r',rfl,j,z,g,h,l⟩
  cases f with
  |nil=>rw[ycn]at g;omega
  |cons e f=>
   rw[yaf]at g;have R:=QP r';have G:=PJ (m:=12) (by omega) (WQ r').2;unfold WK;dsimp only[wG];rw[yW (Zw F),yW (yY (by omega)),yW (X8 (by omega) (by omega)),VH j,ya,yW (yY (by omega)),qp (by omega),ya];by_cases hs:(gL 12 (WQ r').2).1 < 0
   .right;rw[yW (yY hs)];exact⟨_,rfl,.inl ⟨_,rfl⟩⟩
   left;obtain⟨A,w,I,J,M,e4⟩:=ZJA (n0:=n0) (m0:=m0) (i0:=(((k:Int).toNat:Nat):Int)) (len:=((ins.length:Nat):Int)) (i:=(k:Int)) (s:=(gL 12 (WQ r').2).1) (nt:=nt) (T:=T) (outs:=outs) (v:=v) (pre:=pre) (post:=f) (fr:=e.1) (br:=(WQ r').1) (sec:=e.2.2.2) (r:=(gL 12 (WQ r').2).2) (by omega) (by omega) (by omega);have Q:=ug A;rw[yX (by rw[yN];exact hs),I,ya];dsimp only;rw[kU J,ya,yW (yY (by omega)),Zr (by omega)];refine⟨_,rfl,_,_,_,rfl,by omega,by simp[z],by simp;omega, ?_, ?_⟩
   .rw[<-h];simp
   .rw[AG];refine l.trans ?_;unfold fR;dsimp only;rw[M];exact(um r').trans ((PL _ (by omega)).trans (e4.trans (PI A)))
 .rintro _ ⟨pre,f,r',rfl,j,z,g,h,l⟩
  cases f with
  |cons e f=>rw[yaf]at g;omega
  |nil=>
   unfold WK;dsimp only;rw[yX (by rw[Zy];decide)];rw[ybf]at h;exact⟨_,rfl,.inr ⟨_,_,rfl,j,h,l⟩⟩
def uo(t:Tx):Prop:=Q6 yD t=ab ae/\ql t/\mW t
theorem ZBx{b:yL yB}(hb:b.length<=2000000):∃t ok,oE yD b=ab (t,ok)/\(ok=ae->uo t/\kR t=b)/\(ok=af->t=([],[],0)):=by
 unfold oE;have G:=PJ (m:=64) (by omega) (b,af);dsimp only at G;rw[AF hb,ya,qp (by dsimp only;omega),ya];have I:=PL (m:=64) (b,af);generalize gL 64 (b,af)=q at G I;obtain⟨n,r0⟩:=q;dsimp only at G I ⊢;obtain⟨v,f,J,h1,h2,h3,h4,h5⟩:=ZLX (n0:=n) (n:=n) (nt:=0) (T:=(([]:yL In),([]:yL Out),(0:Int))) (r:=r0) (by omega) (by omega);have E:=PJ (m:=64) (by omega) J;rw[h1,ya];dsimp only;rw[qp h2,ya];have M:=PL (m:=64) J;generalize gL 64 J=q at E M;obtain⟨m,r2⟩:=q;dsimp only at E M ⊢;obtain⟨x,q1,Q⟩:=ZJz (n0:=n) (m0:=m) (m:=m) (nt:=0) (T:=(([]:yL In),([]:yL Out),(0:Int))) (v:=v) (ins:=f) (r:=r2) (by omega) (by omega);rw[q1,ya];rcases Q with⟨y,rfl⟩|⟨outs,R,rfl,Q,q3,q4,q5⟩
 .exact⟨_,_,rfl,λh=>(by cases h),λ_=>rfl⟩
 dsimp only;have j:=QP R;have l:=um R;rw[VH Q,ya,ycn,yar];generalize WQ R=q at j l;obtain⟨g,r4⟩:=q;dsimp only at j l ⊢;obtain⟨z,p1,p2⟩:=ZJB (n0:=n) (m0:=m) (nt:=g) (T:=(([]:yL In),([]:yL Out),(0:Int))) (outs:=outs) (v:=v) (ins:=f) (r:=r4) (by omega) (by omega);rw[p1,ya];rcases p2 with⟨y,rfl⟩|⟨A,S,rfl,p2,U,p4⟩
 .exact⟨_,_,rfl,λh=>(by cases h),λ_=>rfl⟩
 dsimp only;rw[yW (by rfl)];unfold xS Qc
 have W:A.length=f.length:=by
  have:=congrArg List.length U
  rwa [yad,yad]at this
 have X:∀o,o∈outs->dO o.2:=λo ho=>by
  obtain⟨g1,F,g3⟩:=q4 o ho;exact⟨by omega,λb hb=>by have:=(g3 b hb).1;omega⟩
 obtain⟨k,hk,_,Y⟩:=PD (t:=(A,outs,g)) ⟨by dsimp only;omega,by dsimp only;omega,X⟩;rw[ya,ya,hk,ya];by_cases c1:n < 0
 .rw[yW (yY c1)];exact⟨_,_,rfl,λh=>(by cases h),λ_=>rfl⟩
 rw[yX (by rw[yN];exact c1)];by_cases c2:m < 0
 .rw[yW (yY c2)];exact⟨_,_,rfl,λh=>(by cases h),λ_=>rfl⟩
 rw[yX (by rw[yN];exact c2)]
 cases c3:S.2 with
 |true=>
  rw[yW (by rfl)]
  exact⟨_,_,rfl,λh=>(by cases h),λ_=>rfl⟩
 |false=>
  rw[yX (by simp)];by_cases c4:(S.1.length:Int) > 0
  .rw[yW (yY c4)];exact⟨_,_,rfl,λh=>(by cases h),λ_=>rfl⟩
  rw[yX (by rw[yN];exact c4)]
  cases k with
  |false=>
   rw[yW (by decide)]
   exact⟨_,_,rfl,λh=>(by cases h),λ_=>rfl⟩
  |true=>
   rw[yX (by decide)];refine⟨_,_,rfl,λ_=>⟨⟨hk,Y rfl,⟨λx hx=> ?_,j.2.1⟩⟩, ?_⟩,λh=>by cases h⟩
   .have Z:x.1∈f.map (λx=>x.1):=by
     rw[<-U];exact ybw.2 ⟨x,hx,rfl⟩
    obtain⟨y,hy,hyx⟩:=ybw.1 Z;rw[<-hyx];exact h4 y hy
   .obtain⟨g1,F⟩:=((I (by omega)).trans (h5.trans ((M (by omega)).trans (q5.trans (l.trans p4))))) c3;have h0:S.1=[]:=List.eq_nil_of_length_eq_zero (by omega);rw[h0,ybf]at F;dsimp only at F
    have e:∀a:yL In,bo eV a=((a.map λx=>x.1).map λp:ZK=>p.1++Yp p.2.toNat).flatten:=λa=>by
     unfold bo
     rw[List.map_map];rfl
    rw[F];unfold kR iU;dsimp only;rw[e A,e f,U,W,h3,q3];simp only[yac]
def AH(x:In):In:=(x.1,(0,[],0))
theorem ZHs{n0 nt:Int}{T:Tx}{ins:yL In}{yK:yL yB}(hn:ins.length<=64)(j:∀x,x∈ins->x.1.1.length=32)(g:∀x,x∈ins->tW x)(F:yK.length<=100000):
 Zc (WH yD) yD (n0,(ins.length:Int),(0:Int),T,nt,([]:yL Out),([]:yL Unit),([]:yL In),([]:yL In),(bo eV ins++yK,af))=ab (n0,T,nt,([]:yL Out),yx ins.length (),([]:yL In),ins.map AH,(yK,af)):=by
 refine Zz ins.length (λk:Nat=>(n0,(ins.length:Int),(k:Int),T,nt,([]:yL Out),yx k (),([]:yL In),(ins.take k).map AH,(bo eV (ins.drop k)++yK,af))) ?_ ?_ (by omega)
 .intro k y;obtain⟨e,z,A⟩:=Zj y;have G:=Xo (f:=eV) (c:=41) (λx h=>zC (j x h) (g x h)) hn k;have l:=Xo (f:=eV) (c:=41) (λx h=>zC (j x h) (g x h)) hn (k+1);obtain⟨E,I,_⟩:=g e A;have J:=ZC (n:=e.1.2.toNat) (by omega);have m:=j e A;unfold WH;dsimp only;rw[yW (Zw y),ZzL (by simp only[yl];omega),ya,ul z];unfold eV at l ⊢;rw[yac,yac,ZHj m];dsimp only;rw[VH (by simp only[yl];omega),ya,kV E (by omega),yW (ZZ (by simp;omega) (by simp;omega)),Zr (by omega),We z,yaw];rfl
 .unfold WH;dsimp only;rw[yX (by rw[Zy];decide),List.drop_length,yai];rfl
theorem ZEt{n0 m0 nt:Int}{T:Tx}{v:yL Unit}{ins:yL In}{outs:yL Out}{yK:yL yB}(hn:outs.length<=64)(g:∀x,x∈outs->OJ x)(G:yK.length<=100000):
 Zc (WI yD) yD (n0,m0,(outs.length:Int),(0:Int),T,nt,([]:yL Out),v,([]:yL In),ins,(bo fL outs++yK,af))=ab (.inr (n0,m0,T,nt,outs,v,([]:yL In),ins,(yK,af))):=by
 refine Zz outs.length (λk:Nat=>(n0,m0,(outs.length:Int),(k:Int),T,nt,outs.take k,v,([]:yL In),ins,(bo fL (outs.drop k)++yK,af))) ?_ ?_ (by omega)
 .intro k l;obtain⟨e,m,z⟩:=Zj l;have I:=Xo (f:=fL) (c:=551) (λx h=>zM (g x h)) hn k;have j:=Xo (f:=fL) (c:=551) (λx h=>zM (g x h)) hn (k+1);obtain⟨A,J,y,E⟩:=g e z;have F:=qm y;have M:=ZC (n:=e.1.toNat) (by omega);have Q:=ZC (n:=(gv e.2).length) (by omega);unfold WI;dsimp only;rw[yW (Zw l),VH (by simp only[yl];omega),ya,ul m];unfold fL at j ⊢;simp only[yac];rw[kV A (by omega)];dsimp only;rw[ZzM (by simp only[yl];omega),ya,ZEo (by omega)];dsimp only;rw[Zvm y E,ya];dsimp only;rw[yX (by decide),yW (ZZ (by rw[yaa];omega) (by rw[yaa];omega)),Zr (by omega),We m]
 .unfold WI;dsimp only;rw[yX (by rw[Zy];decide),List.drop_length,yai];rfl
theorem ZEu{n0 m0 len i nt:Int}{T:Tx}{outs:yL Out}{v:yL Unit}{pre post:yL In}{fr:ZK}{br:Int}{sec:yU}{l:yL gr}{yK:yL yB}(hs:l.length<=12)(y:yK.length<=100000):
 Zc (WJ yD) yD (n0,m0,((pre.length:Nat):Int),len,i,(l.length:Int),(0:Int),T,nt,outs,v,pre,post,fr,br,sec,(bo gg l++yK,af),([]:yL gr))=ab (n0,m0,((pre.length:Nat):Int),len,i,T,nt,outs,v,pre,post,fr,br,sec,(yK,af),l):=by
 refine Zz l.length (λk:Nat=>(n0,m0,((pre.length:Nat):Int),len,i,(l.length:Int),(k:Int),T,nt,outs,v,pre,post,fr,br,sec,(bo gg (l.drop k)++yK,af),l.take k)) ?_ ?_ (by omega)
 .intro k j;obtain⟨e,m,z⟩:=Zj j;have g:∀x,x∈l->(gg x).length<=16:=λx _=>by unfold gg;rw[yl,YM,YM];exact ym _
  have A:=Xo (f:=gg) (c:=16) g hs k;have h:=Xo (f:=gg) (c:=16) g hs (k+1);have E:=YM e.2.toNat
  unfold WJ;dsimp only;rw[yW (Zw j),yW (yY (yat _)),kU (by simp only[yl];omega),ya,ul m];unfold gg at h ⊢;rw[yac,yac,uh];dsimp only;rw[kU (by simp only[yl];omega),ya,uh,yW (ZZ (by rw[yaa];omega) (by rw[yaa];omega)),yW (yY (yat _)),Zr (by omega),We m,yat]
 .unfold WJ;dsimp only;rw[yX (by rw[Zy];decide),List.drop_length,yai,yat];rfl
theorem ZEv{n0 m0 nt:Int}{T:Tx}{outs:yL Out}{v:yL Unit}{ins:yL In}(hn:ins.length<=64)(g:∀x,x∈ins->tW x):
 Zc (WK yD) yD (n0,m0,((ins.length:Nat):Int),(0:Int),T,nt,outs,v,([]:yL In),ins.map AH,(bo fR ins,af))=ab (.inr (n0,m0,T,nt,outs,v,ins,([]:yL In),([],af))):=by
 refine Zz ins.length (λk:Nat=>(n0,m0,((ins.length:Nat):Int),(k:Int),T,nt,outs,v,ins.take k,(ins.drop k).map AH,(bo fR (ins.drop k),af))) ?_ ?_ (by omega)
 .intro k A;obtain⟨e,h,F⟩:=Zj A;have M:=Xo (f:=fR) (c:=218) (λx j=>zO (g x j)) hn k;have l:=Xo (f:=fR) (c:=218) (λx j=>zO (g x j)) hn (k+1);obtain⟨_,_,G,Q,E⟩:=g e F;have hs:=Vh (f:=gg) (c:=16) (λs _=>by unfold gg;rw[yl,YM,YM];exact ym _) E e.2.2.1.length;rw[yai]at hs;have R:=ZC (n:=e.2.1.toNat) (by omega);have S:=ZC (n:=e.2.2.1.length) (by omega);have U:=YM e.2.2.2.toNat
  have I:(ins.take k).length=k:=by rw[yaa];omega
  unfold WK;dsimp only;rw[yW (Zw A),yW (yY (by omega)),uk h,List.map_cons];dsimp only[wG];rw[yW (X8 (by omega) (by rw[yad,yaz,I];omega)),VH (by rw[<-uk h];dsimp only;omega),ya,yW (yY (by omega)),OL];unfold fR at l ⊢;simp only[yac];rw[kV G (by omega)];dsimp only;rw[qp (by simp only[yl];omega),ya];have y:=PK (m:=12) (z:=(e.2.2.1.length:Int)) (by omega) (by omega) (by omega) (bo gg e.2.2.1++(fz e.2.2.2.toNat++bo fR (ins.drop (k+1))));rw[yat]at y;unfold fR at y;rw[y];dsimp only;rw[yX (dj (by omega))];have J:(((k:Int).toNat:Nat):Int)=(((ins.take k).length:Nat):Int):=by omega
  rw[J,ZEu E (by simp only[yl];omega),ya];dsimp only;rw[kU (by simp only[yl];omega),ya,uh,yW (yY (by omega)),Zr (by omega),We h];rfl
 .unfold WK;dsimp only;rw[yX (by rw[Zy];decide),List.drop_length,yai];rfl
theorem ZJC{t:Tx}(g:mW t)(h:ql t):(kR t).length<=60000:=by
 have m:=(OP g h).2;have j:=Vh (f:=fR) (c:=218) (λx l=>zO (h.2.2.2.2.1 x l)) h.2.1 t.1.length;rw[yai]at j;unfold kR;rw[yl];omega
theorem ZJD{t:Tx}(R:uo t):oE yD (kR t)=ab (t,ae):=by
 obtain⟨S,h,y⟩:=R;have A:=ZJC y h;obtain⟨f,outs,g⟩:=t;obtain⟨E,F⟩:=y;obtain⟨T,j,G,I,l,J⟩:=h;dsimp only at E F T j G I l J;unfold oE;rw[AF (by omega),ya,qp (by dsimp only;omega),ya];unfold kR iU at A ⊢;simp only[yac,yl]at A ⊢;have M:=PK (m:=64) (z:=(f.length:Int)) (by omega) (by omega) (by omega) (bo eV f++(Yp outs.length++(bo fL outs++(Yp g.toNat++bo fR f))));rw[yat]at M;rw[M];dsimp only;rw[ZHs j E l (by simp only[yl];omega),ya];dsimp only;have Q:=PK (m:=64) (z:=(outs.length:Int)) (by omega) (by omega) (by omega) (bo fL outs++(Yp g.toNat++bo fR f));rw[yat]at Q;rw[qp (by simp only[yl];omega),ya,Q];dsimp only;rw[ZEt G J (by simp only[yl];omega),ya];dsimp only;rw[VH (by simp only[yl];omega),ya,kV I F,ycn,yar,yad];dsimp only;rw[ZEv j l,ya];dsimp only;rw[yW List.isEmpty_nil,yX (dj (by omega)),yX (dj (by omega))];unfold xS Qc;rw[ya,yX (by decide),ya,yX (by decide),S,ya,yX (by decide)]
open Classical in
theorem qq{I X:Type}{step:I->yO (I⊕X)}{a:I}{x:X}(h1:step a=ab (.inr x)):Zc step yD a=ab x:=by
 rw[jW,show(18446744073709551616:Nat)=18446744073709551613+1+1+1 from rfl,Zc,h1]
 rfl
theorem up{I X:Type}{step:I->yO (I⊕X)}{a b:I}{x:X}(h1:step a=ab (.inl b))(h2:step b=ab (.inr x)):Zc step yD a=ab x:=by
 rw[jW,show(18446744073709551616:Nat)=18446744073709551613+1+1+1 from rfl,Zc,h1,ya]
 dsimp only;rw[Zc,h2];rfl
theorem na{I X:Type}{step:I->yO (I⊕X)}{a b c:I}{x:X}(h1:step a=ab (.inl b))(h2:step b=ab (.inl c))(h3:step c=ab (.inr x)):Zc step yD a=ab x:=by
 rw[jW,show(18446744073709551616:Nat)=18446744073709551613+1+1+1 from rfl,Zc,h1,ya]
 dsimp only;rw[Zc,h2,ya];dsimp only;rw[Zc,h3];rfl
def fu(z:Int)(l:yL Xe):Int:=l.foldl (λa c=>wi (a+c.2)) z
def gM(z:Int)(l:yL Out):Int:=l.foldl (λa c=>wi (a - c.1)) z
theorem AI{z:Int}{l:yL Xe}{k:Nat}{c:Xe}(h:l[k]? =ab c):fu z (l.take (k+1))=wi (fu z (l.take k)+c.2):=by
 rw[We h,fu,List.foldl_append];rfl
theorem PM{z:Int}{l:yL Out}{k:Nat}{c:Out}(h:l[k]? =ab c):gM z (l.take (k+1))=wi (gM z (l.take k) - c.1):=by
 rw[We h,gM,List.foldl_append];rfl
def eM(l:yL Xe):Int:=(l.map λc=>c.2).sum
def fN(l:yL Out):Int:=(l.map λc=>c.1).sum
theorem PN:∀(l:yL Xe)(z:Int),(∀c,c∈l->1<=c.2/\c.2<=1099511627776)->l.length<=8-> -9007199254740992<=z->z+l.length*1099511627776<=9007199254740992->fu z l=z+eM l/\0<=eM l/\eM l<=l.length*1099511627776
 |[],z,_,_,_,_=>by simp[fu,eM]
 |c::l,z,h,f,y,g=>by
  have A:=h c yau;have j:l.length+1<=8:=f;rw[yaf]at g;have e:fu z (c::l)=fu (wi (z+c.2)) l:=rfl;have w:wi (z+c.2)=z+c.2:=ZJ (by omega) (by omega);obtain⟨E,F,G⟩:=PN l (z+c.2) (λx m=>h x (yav _ m)) (by omega) (by omega) (by omega);have s:eM (c::l)=c.2+eM l:=by simp[eM]
  grind
theorem ZCT:∀(l:yL Out)(z:Int),(∀c,c∈l->0<=c.1/\c.1<=1099511627776)->l.length<=8->z<=9007199254740992-> -9007199254740992<=z - l.length*1099511627776->gM z l=z - fN l/\0<=fN l/\fN l<=l.length*1099511627776
 |[],z,_,_,_,_=>by simp[gM,fN]
 |c::l,z,h,f,y,g=>by
  have A:=h c yau;have j:l.length+1<=8:=f;rw[yaf]at g;have e:gM z (c::l)=gM (wi (z - c.1)) l:=rfl;have w:wi (z - c.1)=z - c.1:=ZJ (by omega) (by omega);obtain⟨E,F,G⟩:=ZCT l (z - c.1) (λx m=>h x (yav _ m)) (by omega) (by omega) (by omega);have s:fN (c::l)=c.1+fN l:=by simp[fN]
  grind
def gN(c:Xe):Prop:=1<=c.2/\c.2<=1099511627776
def eW(o:Out):Prop:=(0<=o.1/\o.1<=1099511627776)/\Wg o.2/\gX o.2
structure aQ(x:ai):Prop where
 n1:x.1.length<=8
 n2:x.2.1.length<=8
 qr:0<=x.2.2/\x.2.2<=1099511627776
 ins:bA x.1.length λk=>∀c,x.1[k]? =ab c->gN c
 outs:bA x.2.1.length λk=>∀c,x.2.1[k]? =ab c->eW c
theorem aQ.nc{x:ai}(h:aQ x):∀c,c∈x.1->1<=c.2/\c.2<=1099511627776:=λc g=>by
 obtain⟨j,f,l⟩:=ybg g;exact h.ins j f c (by rw[yab f,l])
theorem aQ.fO{x:ai}(h:aQ x):∀c,c∈x.2.1->eW c:=λc g=>by
 obtain⟨j,f,l⟩:=ybg g;exact h.outs j f c (by rw[yab f,l])
def bh(x:ai):Int:=eM x.1 - x.2.2 - fN x.2.1
theorem qt{x:ai}(h:aQ x):fu (wi (0 - x.2.2)) x.1=eM x.1 - x.2.2/\gM (eM x.1 - x.2.2) x.2.1=bh x/\0<=eM x.1/\eM x.1<=8796093022208/\0<=fN x.2.1/\fN x.2.1<=8796093022208:=by
 have f:=h.qr;have g:=h.n1;have j:=h.n2;have w:wi (0 - x.2.2)=0 - x.2.2:=ZJ (by omega) (by omega);obtain⟨l,m,E⟩:=PN x.1 (0 - x.2.2) h.nc g (by omega) (by omega);obtain⟨y,z,F⟩:=ZCT x.2.1 (eM x.1 - x.2.2) (λc A=>(h.fO c A).1) j (by omega) (by omega);rw[w,l];refine⟨by omega, ?_,m,by omega,z,by omega⟩;rw[y];rfl
theorem uq{x:ai}(h:aQ x): -9895604649984<=bh x/\bh x<=8796093022208:=by
 obtain⟨_,_,a,b,c,d⟩:=qt h;have f:=h.qr;unfold bh;omega
theorem ur(n f:Int):Xx yD n f=ab (ag (f<=n/\n<=1099511627776)):=lQ _ _ rfl
theorem uu(n a b:Int):zu yD n a b=ab (ag (a<=n/\n<=b)):=lQ _ _ rfl
open Classical in
theorem ZHt(x:ai)(hl:x.1.length<=8)(z:Int):Zc (YE yD) yD (z,x.1,(x.1.length:Int),(0:Int),x)=
 ab (if bA x.1.length (λk=>∀c,x.1[k]? =ab c->gN c) then .inr (fu z x.1,x) else .inl (0,af,x)):=by
 refine kS x.1.length (λk:Nat=>(fu z (x.1.take k),x.1,(x.1.length:Int),(k:Int),x)) _ _ _ (λk g h=> ?_) (λk g h=> ?_) ?_ (by omega)
 .obtain⟨c,f,l⟩:=Zj g;unfold YE;dsimp only;rw[yW (Zw g),Zn f,ya,ur,ya,yY (show 1<=c.2/\c.2<=1099511627776 from h c f),yX (by decide),Zr (by omega),AI f]
 .obtain⟨c,f,l⟩:=Zj g
  have m:¬(1<=c.2/\c.2<=1099511627776):=λq=>h λy j=>by
   rw[f]at j;cases j;exact q
  unfold YE;dsimp only;rw[yW (Zw g),Zn f,ya,ur,ya,yZ m,yW (by decide)]
 .unfold YE;grind
def cG(x:ai):Prop:=∀o,o∈x.2.1->dO o.2
open Classical in
theorem ZEw(x:ai)(hl:x.2.1.length<=8)(y:cG x)(z:Int):Zc (YF yD) yD (z,x.2.1,(x.2.1.length:Int),(0:Int),x)=
 ab (if bA x.2.1.length (λk=>∀c,x.2.1[k]? =ab c->eW c) then .inr (gM z x.2.1,x) else .inl (0,af,x)):=by
 refine kS x.2.1.length (λk:Nat=>(gM z (x.2.1.take k),x.2.1,(x.2.1.length:Int),(k:Int),x)) _ _ _ (λk g h=> ?_) (λk g h=> ?_) ?_ (by omega)
 .obtain⟨c,f,j⟩:=Zj g;obtain⟨b,l,m⟩:=QO (y c j);have A:=h c f;have E:b=ae:=m.2 A.2;subst E;unfold YF;dsimp only;rw[yW (Zw g),Zn f,ya,ur,ya,yY A.1,yX (by decide),l,ya,yX (by decide),Zr (by omega),PM f]
 .obtain⟨c,f,j⟩:=Zj g;obtain⟨b,l,m⟩:=QO (y c j);unfold YF;dsimp only;rw[yW (Zw g),Zn f,ya,ur,ya];by_cases q:0<=c.1/\c.1<=1099511627776
  .rw[yY q,yX (by decide),l,ya]
   have E:b=af:=by
    cases b with
    |false=>rfl
    |true=>exact absurd (λG F=>by
      rw[f]at F;cases F;exact⟨q,m.1 rfl⟩) h
   grind
  grind
 .unfold YF;grind
open Classical in
theorem Zvp{x:ai}(y:cG x):X3 yD x=ab (if aQ x then(bh x,ae) else(0,af)):=by
 unfold X3;by_cases j:x.1.length<=8
 .rw[yX (dj (by omega))];by_cases l:x.2.1.length<=8
  .rw[yX (dj (by omega)),ur,ya];by_cases f:0<=x.2.2/\x.2.2<=1099511627776
   .rw[yY f,yX (by decide),ZHt x j,ya];by_cases g:bA x.1.length (λk=>∀c,x.1[k]? =ab c->gN c)
    .rw[yW g];dsimp only;rw[ZEw x l y,ya];by_cases h:bA x.2.1.length (λk=>∀c,x.2.1[k]? =ab c->eW c)
     .have m:aQ x:=⟨j,l,f,g,h⟩;obtain⟨z,A,_⟩:=qt m;rw[yW h,yW m];dsimp only;rw[z,A]
     .rw[yX h,yX λq:aQ x=>h q.outs]
    .rw[yX g,yX λq:aQ x=>g q.ins]
   .rw[yZ f,yW (by decide),yX λq:aQ x=>f q.qr]
  .rw[yW (yY (by omega)),yX λq:aQ x=>l q.n2]
 .rw[yW (yY (by omega)),yX λq:aQ x=>j q.n1]
open Classical in
theorem ZzP(x:ai)(hl:x.1.length<=8):Zc (XP yD) yD ((0:Int),x)=ab (if bA x.1.length (λk=>∀c,x.1[k]? =ab c->gN c) then .inr x else .inl (af,x)):=by
 refine kS x.1.length (λk:Nat=>((k:Int),x)) _ _ _ (λk f h=> ?_) (λk f h=> ?_) ?_ (by omega)
 .obtain⟨c,g,l⟩:=Zj f;unfold XP;dsimp only;rw[yW (Zw f),Zn g,ya,uu,ya,yY (show 1<=c.2/\c.2<=1099511627776 from h c g),yX (by decide),Zr (by omega)]
 .obtain⟨c,g,l⟩:=Zj f
  have m:¬(1<=c.2/\c.2<=1099511627776):=λq=>h λy j=>by
   rw[g]at j;cases j;exact q
  unfold XP;dsimp only;rw[yW (Zw f),Zn g,ya,uu,ya,yZ m,yW (by decide)]
 .unfold XP;grind
open Classical in
theorem Zxq(x:ai)(hl:x.2.1.length<=8)(y:cG x):Zc (XQ yD) yD ((0:Int),x)=ab (if bA x.2.1.length (λk=>∀c,x.2.1[k]? =ab c->eW c) then .inr x else .inl (af,x)):=by
 refine kS x.2.1.length (λk:Nat=>((k:Int),x)) _ _ _ (λk f h=> ?_) (λk f h=> ?_) ?_ (by omega)
 .obtain⟨c,g,j⟩:=Zj f;obtain⟨b,l,m⟩:=ub (y c j);have z:=h c g;have A:b=ae:=m.2 z.2;subst A;unfold XQ;dsimp only;rw[yW (Zw f),Zn g,ya,uu,ya,yY z.1,yX (by decide),ya,l,ya,yX (by decide),Zr (by omega)]
 .obtain⟨c,g,j⟩:=Zj f;obtain⟨b,l,m⟩:=ub (y c j);unfold XQ;dsimp only;rw[yW (Zw f),Zn g,ya,uu,ya];by_cases q:0<=c.1/\c.1<=1099511627776
  .rw[yY q,yX (by decide),ya,l,ya]
   have A:b=af:=by
    cases b with
    |false=>rfl
    |true=>exact absurd (λF E=>by
      rw[g]at E;cases E;exact⟨q,m.1 rfl⟩) h
   grind
  grind
 .unfold XQ;grind
open Classical in
theorem ZHu{x:ai}(m:cG x):Qf yD x=ab (ag (aQ x)):=by
 unfold Qf;by_cases j:x.1.length<=8
 .rw[yX (dj (by omega))];by_cases l:x.2.1.length<=8
  .rw[yX (dj (by omega)),uu,ya];by_cases f:0<=x.2.2/\x.2.2<=1099511627776
   .rw[yY f,yX (by decide),ZzP x j,ya];by_cases g:bA x.1.length (λk=>∀c,x.1[k]? =ab c->gN c)
    .rw[yW g];dsimp only;rw[Zxq x l m,ya];by_cases h:bA x.2.1.length (λk=>∀c,x.2.1[k]? =ab c->eW c)
     .rw[yW h,yY (show aQ x from⟨j,l,f,g,h⟩)]
     .rw[yX h,yZ λq:aQ x=>h q.outs]
    .rw[yX g,yZ λq:aQ x=>g q.ins]
   .rw[yZ f,yW (by decide),yZ λq:aQ x=>f q.qr]
  .rw[yW (yY (by omega)),yZ λq:aQ x=>l q.n2]
 .rw[yW (yY (by omega)),yZ λq:aQ x=>j q.n1]
theorem Zti{x:ai}(ok:aQ x):WN yD x=ab (bh x):=by
 have m:=ok.n1;have y:=ok.n2;obtain⟨h,j,_⟩:=qt ok;unfold WN;rw[show((wi (0 - x.2.2),(0:Int),x):Int×Int×ai)=(λk:Nat=>(fu (wi (0 - x.2.2)) (x.1.take k),(k:Int),x)) 0 from rfl]
 rw[Zz (x:=(fu (wi (0 - x.2.2)) x.1,x)) x.1.length (λk:Nat=>(fu (wi (0 - x.2.2)) (x.1.take k),(k:Int),x)) ?_ ?_ (by omega),ya]
 .dsimp only;rw[h];rw[show((eM x.1 - x.2.2,(0:Int),x):Int×Int×ai)=(λk:Nat=>(gM (eM x.1 - x.2.2) (x.2.1.take k),(k:Int),x)) 0 from rfl]
  rw[Zz (x:=(gM (eM x.1 - x.2.2) x.2.1,x)) x.2.1.length (λk:Nat=>(gM (eM x.1 - x.2.2) (x.2.1.take k),(k:Int),x)) ?_ ?_ (by omega),ya]
  .rw[j]
  .intro k f;obtain⟨c,g,l⟩:=Zj f;unfold Vg;dsimp only;rw[yW (Zw f),Zn g,ya,Zr (by omega),PM g]
  .unfold Vg;grind
 .intro k f;obtain⟨c,g,l⟩:=Zj f;unfold Vf;dsimp only;rw[yW (Zw f),Zn g,ya,Zr (by omega),AI g]
 .unfold Vf;grind
open Classical in
theorem ZBz{x y:ai}(f:cG x)(g:cG y):xQ yD [x,y]=ab (if aQ x/\aQ y then([bh x,bh y],ae) else([0,0],af)):=by
 unfold xQ;have st:∀(i:Int)(d:yL Int),YX yD ([x,y],i,[x,y],d)=if(ag (i < 2))=ae then(idx [x,y] i).bind λa=>(X3 yD a).bind λb=>if(bi i 2)=ae then(d[i.toNat]?).bind λc=>if(!b.2)=ae then ab (.inr (.inl (af,[x,y],[0,0]))) else ab (.inl ([x,y],wi (i+1),[x,y],d.set i.toNat b.1)) else ad else ab (.inr (.inr ([x,y],d))):=λi d=>rfl
 have s0:YX yD ([x,y],0,[x,y],[0,0])=if aQ x then ab (.inl ([x,y],1,[x,y],[bh x,0])) else ab (.inr (.inl (af,[x,y],[0,0]))):=by
  rw[st,yW (by decide),show idx [x,y] 0=ab x from rfl,ya,Zvp f,ya,yW (by decide)]
  by_cases h:aQ x
  .rw[yW h,yW h];rfl
  .rw[yX h,yX h];rfl
 have s1:YX yD ([x,y],1,[x,y],[bh x,0])=if aQ y then ab (.inl ([x,y],2,[x,y],[bh x,bh y])) else ab (.inr (.inl (af,[x,y],[0,0]))):=by
  rw[st,yW (by decide),show idx [x,y] 1=ab y from rfl,ya,Zvp g,ya,yW (by decide)]
  by_cases h:aQ y
  .rw[yW h,yW h];rfl
  .rw[yX h,yX h];rfl
 have j:YX yD ([x,y],2,[x,y],[bh x,bh y])=ab (.inr (.inr ([x,y],[bh x,bh y]))):=by
  grind
 have l:Zc (YX yD) yD ([x,y],0,[x,y],[0,0])=ab (if aQ x/\aQ y then .inr ([x,y],[bh x,bh y]) else .inl (af,[x,y],[0,0])):=by
  by_cases h:aQ x
  .rw[yW h]at s0;by_cases k:aQ y
   .rw[yW k]at s1;rw[yW ⟨h,k⟩,na s0 s1 j]
   .rw[yX k]at s1;rw[yX λq=>k q.2,up s0 s1]
  .rw[yX h]at s0;rw[yX λq=>h q.1,qq s0]
 rw[l,ya];by_cases h:aQ x/\aQ y
 .rw[yW h,yW h]
 .rw[yX h,yX h]
end Go.Proofs.YtcbhhaigilifgaaGreat
end
section
set_option maxRecDepth 4000
namespace Go.Proofs.YtcbhhaigilifgaaGreat
open Go Go.Ev
open Classical in
theorem ZzQ(t:Tx){k:Nat}{o:Out}(ho:t.2.1[k]? =ab o)(hl:o.2.length<=6):Zc (YG yD) yD ((k:Int),(0:Int),t)=ab (if bA o.2.length (λj=>∀b,o.2[j]? =ab b->b.1.length<=14) then .inr ((k:Int),t) else .inl (af,t)):=by
 refine kS o.2.length (λj:Nat=>((k:Int),(j:Int),t)) _ _ _ (λj f h=> ?_) (λj f h=> ?_) ?_ (by omega)
 .obtain⟨b,g,l⟩:=Zj f;have:=h b g;unfold YG;dsimp only;rw[Zn ho,ya,yW (Zw f),ya,Zn g,ya,yX (dj (by omega)),Zr (by omega)]
 .obtain⟨b,g,l⟩:=Zj f
  have m:¬b.1.length<=14:=λq=>h λy z=>by
   grind
  unfold YG;dsimp only;rw[Zn ho,ya,yW (Zw f),ya,Zn g,ya,yW (yY (by omega))]
 .unfold YG;dsimp only;rw[Zn ho,ya,yX (by rw[Zy];decide)]
def PO(o:Out):Prop:=o.2.length<=6/\bA o.2.length (λj=>∀b,o.2[j]? =ab b->b.1.length<=14)
theorem ZHw(l:yL Out)(hl:l.length<=10):∃b,W3 yD ([],l,0)=ab b/\(b=ae->∀o,o∈l->dO o.2):=by
 classical
 unfold W3;rw[yX (show¬(ag (((([],l,0):Tx).1.length:Int) > 66)=ae) by show¬(ag ((0:Int) > 66)=ae);decide),yX (by rw[yN];show¬((l.length:Int) > 66);omega)];have E:Zc (Wb yD) yD ((0:Int),(([],l,0):Tx))=ab (.inr ([],l,0)):=qq (by unfold Wb;rfl);rw[E,ya];dsimp only
 have m:=kS (step:=Yo yD) l.length (λk:Nat=>((k:Int),(([],l,0):Tx))) (λk=>∀o,l[k]? =ab o->PO o) (.inr ([],l,0)) (.inl (af,([],l,0))) (λk g h=>by
  obtain⟨o,f,F⟩:=Zj g;have hs:=h o f;unfold Yo;dsimp only;rw[yW (Zw g),Zn f,ya,yX (by rw[yN];have:=hs.1;omega),ZzQ (([],l,0):Tx) f hs.1,ya,yW hs.2];dsimp only;rw[Zr (by omega)]) (λk g h=>by
  obtain⟨o,f,F⟩:=Zj g
  have G:¬PO o:=λq=>h λR S=>by
   grind
  unfold Yo;dsimp only;rw[yW (Zw g),Zn f,ya];by_cases y:o.2.length<=6
  .rw[yX (dj (by omega)),ZzQ (([],l,0):Tx) f y,ya,yX λq=>G ⟨y,q⟩]
  .rw[yW (yY (by omega))]) (by
  unfold Yo;dsimp only;rw[yX (by rw[Zy];decide)]) (by omega)
 have m:Zc (Yo yD) yD ((0:Int),(([],l,0):Tx))=_:=m;rw[m,ya];by_cases h:bA l.length (λk=>∀o,l[k]? =ab o->PO o)
 .rw[yW h];refine⟨ae,rfl,λ_ o f=> ?_⟩;obtain⟨j,z,I⟩:=ybg f;obtain⟨T,J⟩:=h j z o (by rw[yab z,I]);refine⟨by omega,λb M=> ?_⟩;obtain⟨i,A,Q⟩:=ybg M;have:=J i A b (by rw[yab A,Q]);omega
 simp_all
structure oK(x:ai):Prop where
 n1:x.1.length<=10
 n2:x.2.1.length<=10
 wf:cG x
theorem ZzR(a:yL ai){i:Int}{x:ai}(g:ag (i < 2)=ae)(h1:bi i 2=ae)(h2:a[i.toNat]? =ab x):∃b:Bool,Yl yD (i,a)=ab (if b=ae then .inl (wi (i+1),a) else .inr (.inl (af,a)))/\(b=ae->oK x):=by
 unfold Yl;dsimp only;rw[yW g,yW h1,h2,ya];by_cases j:x.1.length<=10
 .rw[yX (dj (by omega)),yW h1,ya];by_cases f:x.2.1.length<=10
  .rw[yX (dj (by omega)),yW h1,ya];obtain⟨b,l,m⟩:=ZHw x.2.1 f;rw[l,ya]
   cases b with
   |false=>exact⟨af,by rw[yW (by decide),yX (by decide)],λh=>by cases h⟩
   |true=>exact⟨ae,by rw[yX (by decide),yW rfl],λ_=>⟨j,f,m rfl⟩⟩
  .exact⟨af,by rw[yW (yY (by omega)),yX (by decide)],λh=>by cases h⟩
 .exact⟨af,by rw[yW (yY (by omega)),yX (by decide)],λh=>by cases h⟩
theorem ZLY(x y:ai):∃b,Qd yD [x,y]=ab b/\(b=ae->oK x/\oK y):=by
 unfold Qd;obtain⟨b,f,j⟩:=ZzR [x,y] (i:=0) (x:=x) (by decide) (by decide) rfl;obtain⟨c,g,l⟩:=ZzR [x,y] (i:=1) (x:=y) (by decide) (by decide) rfl
 have e:Yl yD (2,[x,y])=ab (.inr (.inr [x,y])):=by
  unfold Yl;grind
 cases b with
 |false=>
  rw[yX (by decide)]at f
  exact⟨af,by rw[qq f,ya],λh=>by cases h⟩
 |true=>
  rw[yW rfl]at f;have f:Yl yD (0,[x,y])=ab (.inl (1,[x,y])):=f
  cases c with
  |false=>
   rw[yX (by decide)]at g
   exact⟨af,by rw[up f g,ya],λh=>by cases h⟩
  |true=>
   rw[yW rfl]at g;have g:Yl yD (1,[x,y])=ab (.inl (2,[x,y])):=g;exact⟨ae,by rw[na f g e,ya],λ_=>⟨j rfl,l rfl⟩⟩
def uv(s:yG)(a b m n:Int):yG:=(s.1,[wi (a+m),wi (b+n)],s.2.2.1,s.2.2.2)
theorem ZHx{s:yG}{a b:Int}(hs:s.2.1=[a,b])(hl:s.2.2.1.length<=1000)(m n:Int):ZP yD s [m,n]=ab (uv s a b m n):=by
 unfold ZP ta;rw[hs];simp only[yam,yak,List.set_cons_zero,List.set_cons_succ,ya];rw[yW (ZZ (by omega) (by omega)),ya];rfl
theorem ZEx{s:yG}{a b:Int}(hs:s.2.1=[a,b])(hl:s.2.2.1.length<=1000)(m n:Int):NN yD s [m,n]=ab (uv s a b m n):=by
 unfold NN;rw[hs];simp only[yam,yak,List.set_cons_zero,List.set_cons_succ,ya];rw[yW (ZZ (by omega) (by omega))];rfl
theorem ZBA{ins:yL In}(i1:ins.length<=70)(F:∀x,x∈ins->x.2.2.1.length<=12){outs:yL Out}(h1:outs.length<=70)(ho:∀o,o∈outs->Wg o.2)(f:Int):NY yD (ins,outs,f)=ab (ins,outs,f):=by
 unfold NY;dsimp only;generalize I:(([]:yL In),([]:yL Out),(0:Int))=z
 have l:=Zz (step:=Xy yD) ins.length (λk:Nat=>((k:Int),(ins,outs,f),z,f,([]:yL Out),yx k (),ins.take k)) (x:=((ins,outs,f),z,f,([]:yL Out),yx ins.length (),ins)) (by
  intro k h;obtain⟨x,g,em⟩:=Zj h;have hs:=F x em;unfold Xy;dsimp only;rw[yW (Zw h),Zn g,ya,yW (ZZ (by omega) (by omega)),yW (ZZ (by rw[yaa];omega) (by rw[yaa];omega)),Zr (by omega),We g];rfl) (by
  unfold Xy;dsimp only;rw[yX (by rw[Zy];decide),yai]) (by omega)
 have l:Zc (Xy yD) yD ((0:Int),(ins,outs,f),z,f,([]:yL Out),([]:yL Unit),([]:yL In))=_:=l;rw[l,ya];dsimp only;generalize yx ins.length ()=u
 have J:=Zz (step:=Wv yD) outs.length (λk:Nat=>((k:Int),(ins,outs,f),z,f,outs.take k,u,ins)) (x:=((ins,outs,f),z,f,outs,u,ins)) (by
  intro k h;obtain⟨o,g,em⟩:=Zj h;obtain⟨M,Q,G⟩:=ho o em;unfold Wv;dsimp only;rw[yW (Zw h),Zn g,ya]
  have m:=Zz (step:=Xz yD) o.2.length (λj:Nat=>((k:Int),(j:Int),(ins,outs,f),z,f,outs.take k,u,ins,o.1,o.2.take j)) (x:=((k:Int),(ins,outs,f),z,f,outs.take k,u,ins,o.1,o.2)) (by
   intro j A;obtain⟨b,E,y⟩:=Zj A;obtain⟨R,_⟩:=G b y;unfold Xz;dsimp only;rw[Zn g,ya,yW (Zw A),ya,Zn E,ya,yW (ZZ (by omega) (by omega)),yW (ZZ (by rw[yaa];omega) (by rw[yaa];omega)),Zr (by omega),We E]) (by
   unfold Xz;dsimp only;rw[Zn g,ya,yX (by rw[Zy];decide),yai]) (by omega)
  have m:Zc (Xz yD) yD ((k:Int),(0:Int),(ins,outs,f),z,f,outs.take k,u,ins,o.1,([]:yL ZR))=_:=m;rw[m,ya];dsimp only;rw[yW (ZZ (by rw[yaa];omega) (by rw[yaa];omega)),Zr (by omega),We g]) (by
  unfold Wv;dsimp only;rw[yX (by rw[Zy];decide),yai]) (by omega)
 grind
end Go.Proofs.YtcbhhaigilifgaaGreat
end
section
set_option maxRecDepth 4000
namespace Go.Proofs.YtcbhhaigilifgaaGreat
open Go Go.Ev
theorem ZHy{t:Tx}(M:mW t)(Q:Q6 yD t=ab ae)(h:ql t):qe yD t=ab (kR t):=by
 obtain⟨R,S⟩:=OP M h;unfold qe;rw[Q,ya,yX (by decide),R,ya];unfold kR;generalize iU t=m at S;obtain⟨g,outs,l⟩:=t;obtain⟨h1,z,h3,h4,y,h6⟩:=h;dsimp only at z y ⊢;have T:=λk=>Vh (f:=fR) (c:=218) (λx U=>zO (y x U)) z k
 rw[show(m,g,(g.length:Int),(0:Int),(g,outs,l))=(λk:Nat=>(m++bo fR (g.take k),g,(g.length:Int),(k:Int),(g,outs,l))) 0 by simp[bo],
  Zz (x:=(m++bo fR g,(g,outs,l))) g.length (λk:Nat=>(m++bo fR (g.take k),g,(g.length:Int),(k:Int),(g,outs,l))) ?_ ?_ (by omega),ya]
 .intro k A;obtain⟨e,E,W⟩:=Zj A;have X:=T k;obtain⟨_,_,Y,k2,F⟩:=y e W;have r1:=ZC (n:=e.2.1.toNat) (by omega);have r2:=ZC (n:=e.2.2.1.length) (by omega);unfold xV;dsimp only;rw[yW (Zw A),Zn E,ya,ki Y (by omega) (by rw[yl];omega),ya,ki (by omega) (by omega) (by simp only[yl];omega),ya,yat];generalize G:m++bo fR (g.take k)++Yp e.2.1.toNat++Yp e.2.2.1.length=q;have Z:q.length<=60000:=by rw[<-G];simp only[yl];omega
  rw[show(q,g,(g.length:Int),(k:Int),e.2.2.1,(e.2.2.1.length:Int),(0:Int),(g,outs,l),e)=(λj:Nat=>(q++bo gg (e.2.2.1.take j),g,(g.length:Int),(k:Int),e.2.2.1,(e.2.2.1.length:Int),(j:Int),(g,outs,l),e)) 0 by simp[bo],
   Zz (x:=(q++bo gg e.2.2.1,g,(g.length:Int),(k:Int),(g,outs,l),e)) e.2.2.1.length (λj:Nat=>(q++bo gg (e.2.2.1.take j),g,(g.length:Int),(k:Int),e.2.2.1,(e.2.2.1.length:Int),(j:Int),(g,outs,l),e)) ?_ ?_ (by omega),ya]
  .have hs:=OO F e.2.2.1.length;rw[yai]at hs;dsimp only;rw[tV _ (by rw[yl];omega),ya,Zr (by omega),VO E, <-G];unfold fR;grind
  .intro j I;obtain⟨f,J,_⟩:=Zj I;have hs:=OO F j;have hu:=YM f.1.toNat
   unfold xU;dsimp only;rw[yW (Zw I),Zn J,ya,tV _ (by rw[yl];omega),ya,tV _ (by simp only[yl];omega),ya,Zr (by omega),VO J];unfold gg;grind
  .unfold xU;grind
 .unfold xV;grind
def gY(f:ZK):In:=(f,(0,[],0))
def XV(l:yL Xe):yL In:=l.map λc=>gY c.1
def WZ(f g:bn):Z4:=[([f.1,g.1],0,0,0)]
def il(ch:Chan)(x y:ai):yL In:=gY ch.1::(XV x.1++XV y.1)
def WR(f g:bn)(m:Int)(x y:ai):yL Out:=(m,WZ f g)::(x.2.1++y.2.1)
def cJ(ch:Chan)(f g:bn)(m:Int)(x y:ai):Tx:=(il ch x y,WR f g m x y,0)
theorem PP{ch:Chan}{f g:bn}(hb:ch.2.2.1=[f,g]):XY yD ch=ab (WZ f g)/\V0 yD ch=ab (WZ f g):=by
 unfold XY V0 LM Zfk xP Zf7 QF;rw[hb,yam,yak,yam];simp only[ya];rw[yW (ZZ (by simp) (by simp))];exact⟨rfl,rfl⟩
theorem ZzS{l:yL Xe}{k:Nat}{c:Xe}(h:l[k]? =ab c):XV (l.take (k+1))=XV (l.take k)++[gY c.1]:=by
 rw[We h,XV,yaw];rfl
theorem VX(l:yL Xe):(XV l).length=l.length:=yad _
theorem ZLZ(ch:Chan)(a:yL ai)(z:Tx)(ins:yL In)(outs:yL Out)(n:Int){i:Int}{x:ai}(h1:bi i 2=ae)(h2:a[i.toNat]? =ab x)(hl:x.1.length<=10)(hi:ins.length<=20):
 Zc (Xh yD) yD (i,(0:Int),ch,a,z,ins,outs,n)=ab (i,ch,a,z,ins++XV x.1,outs,n):=by
 rw[show((i,(0:Int),ch,a,z,ins,outs,n):Int×Int×Chan×yL ai×Tx×yL In×yL Out×Int)=(λk:Nat=>(i,(k:Int),ch,a,z,ins++XV (x.1.take k),outs,n)) 0 by simp[XV]];refine Zz (step:=Xh yD) x.1.length (λk:Nat=>(i,(k:Int),ch,a,z,ins++XV (x.1.take k),outs,n)) (λk f=> ?_) ?_ (by omega)
 .obtain⟨c,g,h⟩:=Zj f;unfold Xh;dsimp only;rw[yW h1,h2,ya,yW (Zw f),yW h1,ya,Zn g,ya,yW (ZZ (by rw[yl,VX,yaa];omega) (by rw[yl,VX,yaa];omega)),Zr (by omega),ZzS g,yac];rfl
 .unfold Xh;grind
theorem ZzT(ch:Chan)(a:yL ai)(z:Tx)(ins:yL In)(outs:yL Out)(n:Int){i:Int}{x:ai}(f:ag (i < 2)=ae)(h1:bi i 2=ae)(h2:a[i.toNat]? =ab x)(hl:x.1.length<=10)(hl2:x.2.1.length<=10)(hi:ins.length<=20)(ho:outs.length<=20):
 YJ yD (i,ch,a,z,ins,outs,n)=ab (.inl (wi (i+1),ch,a,z,ins++XV x.1,outs++x.2.1,n)):=by
 unfold YJ;dsimp only;rw[yW f,ZLZ ch a z ins outs n h1 h2 hl hi,ya];dsimp only;rw[yW h1,h2,ya,yW (ZZ (by omega) (by omega))]
theorem ZHz{ch:Chan}{f g:bn}(hb:ch.2.2.1=[f,g])(m:Int){x y:ai}(h:aQ x)(j:aQ y)(A:Wg (WZ f g)):NZ yD ch m [x,y]=ab (cJ ch f g m x y):=by
 have I:=h.n1;have J:=h.n2;have y1:=j.n1;have M:=j.n2;unfold NZ ZbR;dsimp only;rw[(PP hb).2,ya,ya];have s0:=ZzT ch [x,y] ([],[],0) [gY ch.1] [(m,WZ f g)] 0 (i:=0) (x:=x) (by decide) (by decide) rfl (by omega) (by omega) (by simp) (by simp);have s1:=ZzT ch [x,y] ([],[],0) ([gY ch.1]++XV x.1) ([(m,WZ f g)]++x.2.1) 0 (i:=1) (x:=y) (by decide) (by decide) rfl (by omega) (by omega) (by rw[yl,VX,ycy];omega) (by rw[yl,ycy];omega)
 have E:YJ yD ((2:Int),ch,[x,y],(([],[],0):Tx),[gY ch.1]++XV x.1++XV y.1,[(m,WZ f g)]++x.2.1++y.2.1,(0:Int))=ab (.inr (ch,[x,y],([],[],0),[gY ch.1]++XV x.1++XV y.1,[(m,WZ f g)]++x.2.1++y.2.1,0)):=by
  unfold YJ;grind
 have l:=na s0 s1 E;have l:Zc (YJ yD) yD ((0:Int),ch,[x,y],(([],[],0):Tx),[((ch.1,(0,[],0)):In)],[((m,WZ f g):Out)],(0:Int))=_:=l;rw[l,ya];dsimp only;have F:[gY ch.1]++XV x.1++XV y.1=il ch x y:=by simp[il]
 have G:[(m,WZ f g)]++x.2.1++y.2.1=WR f g m x y:=by simp[WR]
 rw[F,G,ZBA (by unfold il;simp only[yaf,yl,VX];omega) (λi z=> ?_) (by unfold WR;simp only[yaf,yl];omega) (λo ho=> ?_)]
 .rfl
 .unfold il XV at z;simp only[ybp,ycm,ybw]at z;rcases z with rfl|⟨c,_,rfl⟩|⟨c,_,rfl⟩ <;> simp[gY]
 .unfold WR at ho;simp only[ybp,ycm]at ho;rcases ho with rfl|ho|ho
  .exact A
  .exact(h.fO o ho).2.1
  .exact(j.fO o ho).2.1
theorem ZL0(a b:yL ai)(i:Int)(x:ai)(c:Chan)(s:yG)(f:Chan)(st:yG)(t0:Tx)(g:yL Int)(mv:yG)(h:Chan)(ins:yL In)(outs:yL Out)(n:Int)(hl:x.1.length<=10)(hi:ins.length<=20):
 Zc (WB yD) yD (a,i,x.1,(x.1.length:Int),(0:Int),c,s,b,f,st,t0,g,mv,h,ins,outs,n,x)=ab (a,i,c,s,b,f,st,t0,g,mv,h,ins++XV x.1,outs,n,x):=by
 rw[show((a,i,x.1,(x.1.length:Int),(0:Int),c,s,b,f,st,t0,g,mv,h,ins,outs,n,x):ME)=(λk:Nat=>(a,i,x.1,(x.1.length:Int),(k:Int),c,s,b,f,st,t0,g,mv,h,ins++XV (x.1.take k),outs,n,x)) 0 by simp[XV]];refine Zz (step:=WB yD) x.1.length (λk:Nat=>(a,i,x.1,(x.1.length:Int),(k:Int),c,s,b,f,st,t0,g,mv,h,ins++XV (x.1.take k),outs,n,x)) (λk j=> ?_) ?_ (by omega)
 .obtain⟨e,l,m⟩:=Zj j;unfold WB;dsimp only;rw[yW (Zw j),Zn l,ya,yW (ZZ (by rw[yl,VX,yaa];omega) (by rw[yl,VX,yaa];omega)),Zr (by omega),ZzS l,yac];rfl
 .unfold WB;grind
theorem ZzU(a b:yL ai)(c:Chan)(s:yG)(f:Chan)(st:yG)(t0:Tx)(g:yL Int)(mv:yG)(h:Chan)(ins:yL In)(outs:yL Out)(n:Int){i:Int}{x:ai}(j:ag (i < 2)=ae)(h2:idx a i=ab x)(hl:x.1.length<=10)(hl2:x.2.1.length<=10)(hi:ins.length<=20)(ho:outs.length<=20):
 X0 yD (a,i,c,s,b,f,st,t0,g,mv,h,ins,outs,n)=ab (.inl (a,wi (i+1),c,s,b,f,st,t0,g,mv,h,ins++XV x.1,outs++x.2.1,n)):=by
 unfold X0;dsimp only;rw[yW j,h2,ya,ZL0 a b i x c s f st t0 g mv h ins outs n hl hi,ya];dsimp only;rw[yW (ZZ (by omega) (by omega))]
theorem ZHA(c:Chan)(s:yG)(h:Chan)(st:yG)(t0:Tx)(j:yL Int)(mv:yG)(z:Chan)(f g:bn)(m:Int){x y:ai}(A:aQ x)(E:aQ y):
 Zc (X0 yD) yD ([x,y],(0:Int),c,s,[x,y],h,st,t0,j,mv,z,[((c.1,(0,[],0)):In)],[((m,WZ f g):Out)],(0:Int))=ab (c,s,[x,y],h,st,t0,j,mv,z,il c x y,WR f g m x y,0):=by
 have J:=A.n1;have M:=A.n2;have y1:=E.n1;have Q:=E.n2;have s0:=ZzU [x,y] [x,y] c s h st t0 j mv z [gY c.1] [(m,WZ f g)] 0 (i:=0) (x:=x) (by decide) rfl (by omega) (by omega) (by simp) (by simp);have s1:=ZzU [x,y] [x,y] c s h st t0 j mv z ([gY c.1]++XV x.1) ([(m,WZ f g)]++x.2.1) 0 (i:=1) (x:=y) (by decide) rfl (by omega) (by omega) (by rw[yl,VX,ycy];omega) (by rw[yl,ycy];omega)
 have F:X0 yD ([x,y],(2:Int),c,s,[x,y],h,st,t0,j,mv,z,[gY c.1]++XV x.1++XV y.1,[(m,WZ f g)]++x.2.1++y.2.1,(0:Int))=ab (.inr (c,s,[x,y],h,st,t0,j,mv,z,[gY c.1]++XV x.1++XV y.1,[(m,WZ f g)]++x.2.1++y.2.1,0)):=by
  unfold X0;grind
 have l:=na s0 s1 F;have G:[gY c.1]++XV x.1++XV y.1=il c x y:=by simp[il]
 have I:[(m,WZ f g)]++x.2.1++y.2.1=WR f g m x y:=by simp[WR]
 rw[G,I]at l;exact l
def oL(x:ai):Prop:=∀c,c∈x.1->c.1.1.length=32
theorem ZKg{ch:Chan}{f g:bn}{m:Int}{x y:ai}(h:aQ x)(j:aQ y)(l:cG x)(z:cG y):mY (cJ ch f g m x y):=by
 have A:=h.n1;have E:=h.n2;have y1:=j.n1;have F:=j.n2;refine⟨?_, ?_,λo ho=> ?_⟩
 .show(il ch x y).length<=70;unfold il;simp only[yaf,yl,VX];omega
 .show(WR f g m x y).length<=70;unfold WR;grind
 .have ho:o∈WR f g m x y:=ho;unfold WR at ho;simp only[ybp,ycm]at ho;rcases ho with rfl|ho|ho
  .unfold dO WZ;simp
  .exact l o ho
  .exact z o ho
theorem ZNe{ch:Chan}{h j:bn}{m:Int}{x y:ai}(l:ch.1.1.length=32)(z:oL x)(A:oL y):mW (cJ ch h j m x y):=by
 refine⟨λi f=> ?_,by show(0:Int)<=9223372036854775807;decide⟩;have f:i∈il ch x y:=f;unfold il XV at f;simp only[ybp,ycm,ybw]at f;rcases f with rfl|⟨c,g,rfl⟩|⟨c,g,rfl⟩
 .exact l
 .exact z c g
 .exact A c g
def jv(n:yL yB)(k:Nat):yL ZK:=(yo k).map λ(j:Nat)=>((n,(j:Int)):ZK)
theorem ZCU{t:Tx}(f:uo t)(hl:mY t):∃n,eC yD t=ab n/\zw yD t=ab n/\n.length=32/\oC yD t=ab (jv n t.2.1.length):=by
 obtain⟨n,g,h,j⟩:=ZEl hl f.2.2;have m:=hl.2;refine⟨n,g,h,j, ?_⟩;unfold oC;rw[g,f.1,ya,ya,yX (by decide)]
 have q:=Zz (step:=qb yD) t.2.1.length (λk:Nat=>((t.2.1.length:Int),(k:Int),t,jv n k,n)) (x:=(t,jv n t.2.1.length,n)) (λk l=>by
  unfold qb;dsimp only;rw[yW (Zw l),yW (ZZ (by simp[jv];omega) (by simp[jv];omega)),Zr (by omega)];unfold jv;rw[List.range_succ,yaw];rfl) (by
  unfold qb;dsimp only;rw[yX (by rw[Zy];decide)]) (by omega)
 have q:Zc (qb yD) yD ((t.2.1.length:Int),(0:Int),t,([]:yL ZK),n)=_:=q;grind
theorem ZHB:∃t,oE yD []=ab (t,af):=by
 obtain⟨t,f,g,h,_⟩:=ZBx (b:=[]) (by simp)
 cases f with
 |false=>exact⟨t,g⟩
 |true=>
  obtain⟨l,j⟩:=h rfl;have:(kR t).length=0:=by rw[j];rfl
  unfold kR iU at this;simp only[yl]at this;have:=List.length_pos_iff.2 (ZCK t.1.length);omega
abbrev qu:Chan:=((dt,0),0,[(0,0,0,0,0),(0,0,0,0,0)],[(0,0,0,0,0,0),(0,0,0,0,0,0)],0)
abbrev qv:yG:=(0,[0,0],[],0)
abbrev qw:Tx:=([],[],0)
abbrev nf:Type:=Chan×yG×Tx×Int
def AJ(ch:Chan)(m:Int):Chan:=(ch.1,m,ch.2.2.1,ch.2.2.2.1,ch.2.2.2.2)
def lU(t0 t1:bz)(a b m n:Int):Prop:=(m < 0/\a < t1.2.1)\/(n < 0/\b < t0.2.1)
theorem ZzV{d mh:yL Int}{m a:Int}(ch:Chan)(s:yG)(w:yL ai)(f:Chan)(st:yG)(t0:Tx)(g:yL Int)(mv:yG){i:Int}{t:bz}(h:ag (i < 2)=ae)(h1:bi i 2=ae)(hd:idx d i=ab m)(ha:mv.2.1[i.toNat]? =ab a)(h2:bi (wi (1 - i)) 2=ae)(ht:ch.2.2.2.1[(wi (1 - i)).toNat]? =ab t):
 XZ yD (d,i,ch,s,w,f,st,t0,g,mv)=ab (if m < 0/\a < t.2.1 then .inr (.inl (10,ch,s,w,f,st,t0,g,mv)) else .inl (d,wi (i+1),ch,s,w,f,st,t0,g,mv)):=by
 unfold XZ
 all_goals grind
open Classical in
theorem ZHC{t0 t1:bz}{a b m n:Int}(ch:Chan)(s:yG)(w:yL ai)(f:Chan)(st:yG)(z:Tx)(g:yL Int)(mv:yG)(ht:ch.2.2.2.1=[t0,t1])(hm:mv.2.1=[a,b]):
 Zc (XZ yD) yD ([m,n],(0:Int),ch,s,w,f,st,z,g,mv)=ab (if lU t0 t1 a b m n then .inl (10,ch,s,w,f,st,z,g,mv) else .inr (ch,s,w,f,st,z,g,mv)):=by
 have s0:=ZzV (d:=[m,n]) (mh:=[]) ch s w f st z g mv (i:=0) (m:=m) (a:=a) (t:=t1) (by decide) (by decide) rfl (by rw[hm];rfl) (by decide) (by rw[ht];rfl);have s1:=ZzV (d:=[m,n]) (mh:=[]) ch s w f st z g mv (i:=1) (m:=n) (a:=b) (t:=t0) (by decide) (by decide) rfl (by rw[hm];rfl) (by decide) (by rw[ht];rfl)
 have l:XZ yD ([m,n],(2:Int),ch,s,w,f,st,z,g,mv)=ab (.inr (.inr (ch,s,w,f,st,z,g,mv))):=by
  unfold XZ;grind
 by_cases h:m < 0/\a < t1.2.1
 .rw[yW h]at s0;rw[yW (show lU t0 t1 a b m n from .inl h),qq s0]
 .rw[yX h]at s0;by_cases j:n < 0/\b < t0.2.1
  .rw[yW j]at s1;rw[yW (show lU t0 t1 a b m n from .inr j),up s0 s1]
  .rw[yX j]at s1;rw[yX (show¬lU t0 t1 a b m n from λq=>q.elim h j),na s0 s1 l]
theorem Zvq{m a:Int}(ch:Chan)(s:yG)(w:yL ai)(g:Chan)(st:yG)(z:Tx)(f:yL Int){i:Int}{t:bz}(h:ag (i < 2)=ae)(h1:bi i 2=ae)(hd:f[i.toNat]? =ab m)(ha:s.2.1[i.toNat]? =ab a)(h2:bi (wi (1 - i)) 2=ae)(ht:ch.2.2.2.1[(wi (1 - i)).toNat]? =ab t):
 YP yD (i,ch,s,w,g,st,z,f)=ab (if m < 0/\wi (a+m) < t.2.1 then .inr (.inl (10,ch,s,w,qu,qv,qw,f)) else .inl (wi (i+1),ch,s,w,g,st,z,f)):=by
 unfold YP
 all_goals grind
open Classical in
theorem ZEy{t0 t1:bz}{a b m n:Int}(ch:Chan)(s:yG)(w:yL ai)(f:Chan)(st:yG)(z:Tx)(ht:ch.2.2.2.1=[t0,t1])(hm:s.2.1=[a,b]):
 Zc (YP yD) yD ((0:Int),ch,s,w,f,st,z,[m,n])=ab (if lU t0 t1 (wi (a+m)) (wi (b+n)) m n then .inl (10,ch,s,w,qu,qv,qw,[m,n]) else .inr (ch,s,w,f,st,z,[m,n])):=by
 have s0:=Zvq ch s w f st z [m,n] (i:=0) (m:=m) (a:=a) (t:=t1) (by decide) (by decide) rfl (by rw[hm];rfl) (by decide) (by rw[ht];rfl);have s1:=Zvq ch s w f st z [m,n] (i:=1) (m:=n) (a:=b) (t:=t0) (by decide) (by decide) rfl (by rw[hm];rfl) (by decide) (by rw[ht];rfl)
 have j:YP yD ((2:Int),ch,s,w,f,st,z,[m,n])=ab (.inr (.inr (ch,s,w,f,st,z,[m,n]))):=by
  unfold YP;grind
 by_cases g:m < 0/\wi (a+m) < t1.2.1
 .rw[yW g]at s0;rw[yW (show lU t0 t1 (wi (a+m)) (wi (b+n)) m n from .inl g),qq s0]
 .rw[yX g]at s0;by_cases h:n < 0/\wi (b+n) < t0.2.1
  .rw[yW h]at s1;rw[yW (show lU t0 t1 (wi (a+m)) (wi (b+n)) m n from .inr h),up s0 s1]
  .rw[yX h]at s1;rw[yX (show¬lU t0 t1 (wi (a+m)) (wi (b+n)) m n from λq=>q.elim g h),na s0 s1 j]
structure PQ(ch:Chan)(s:yG)(x y:ai)(r:nf):Prop where
 right0:au yD ch s=ab ae
 st:iD ch s
 wx:aQ x
 wy:aQ y
 ex:∃a b b0 b1 id,s.2.1=[a,b]/\ch.2.2.1=[b0,b1]/\List.length (α:=UInt8) id=32/\r=(((id,0),ch.2.1+(bh x+bh y),ch.2.2.1,ch.2.2.2.1,ch.2.2.2.2),(s.1,[a+bh x,b+bh y],s.2.2.1,s.2.2.2),cJ ch b0 b1 (ch.2.1+(bh x+bh y)) x y,0)/\0<=a+bh x/\0<=b+bh y/\
  au yD (AJ ch (ch.2.1+(bh x+bh y))) (s.1,[a+bh x,b+bh y],s.2.2.1,s.2.2.2)=ab ae/\iD (AJ ch (ch.2.1+(bh x+bh y))) (s.1,[a+bh x,b+bh y],s.2.2.1,s.2.2.2)/\uo (cJ ch b0 b1 (ch.2.1+(bh x+bh y)) x y)/\eC yD (cJ ch b0 b1 (ch.2.1+(bh x+bh y)) x y)=ab id
def ZNf(ch:Chan)(s:yG)(x y:ai)(r:nf):Prop:=PQ ch s x y r\/r.2.2.2≠0/\(r.1=qu/\r.2.1=qv/\r.2.2.1=qw)/\(au yD ch s=ab ae->r.2.2.2≠14)
theorem PR{a b:Int}:vR a b < 0↔a < 0\/b < 0:=by
 unfold vR;grind
open Classical in
theorem ZEz{ch:Chan}(w:dV ch)(hh:ch.1.1.length=32){s:yG}(hs:s.2.1.length=2){x y:ai}(W:cG x)(X:cG y)(kx:oL x)(ky:oL y):
 ∃r,WL yD ch s [x,y]=ab r/\Zfl yD ch s [x,y]=ab r/\ZNf ch s x y r:=by
 obtain⟨e,f1,f2,f3⟩:=zR w;obtain⟨b,Y,g2,g3⟩:=ua w hs;unfold WL Zfl;rw[f1,f2,ya,ya];by_cases Z:e=0
 case neg=>
  have A:(e !=0)=ae:=bne_iff_ne.2 Z;rw[yW A,yW A]
  exact⟨_,rfl,rfl,.inr ⟨Z,⟨rfl,rfl,rfl⟩,λq=>by
   unfold au at q;rw[f1,ya,yW A]at q;exact absurd (ybl q) (by decide)⟩⟩
 subst Z;rw[yX (show¬(((0:Int)!=0)=ae) by decide),yX (show¬(((0:Int)!=0)=ae) by decide),Y,g2,ya,ya]
 cases b with
 |false=>
  rw[yW (by decide),yW (by decide)]
  exact⟨_,rfl,rfl,.inr ⟨by decide,⟨rfl,rfl,rfl⟩,λq=>absurd (ybl (Y.symm.trans q)) (by decide)⟩⟩
 |true=>
  have F:=g3 rfl;rw[yX (by decide),yX (by decide),ZBz W X,ya];simp only[yam,yak,ya];rw[ZHu W,ZHu X];simp only[ya];by_cases h:aQ x
  case neg=>
   rw[yX (show¬(aQ x/\aQ y) from λq=>h q.1),yW (show(!false)=ae by decide),yZ h,yW (show(!false)=ae by decide)]
   exact⟨_,rfl,rfl,.inr ⟨by decide,⟨rfl,rfl,rfl⟩,λ_=>by decide⟩⟩
  by_cases m:aQ y
  case neg=>
   rw[yX (show¬(aQ x/\aQ y) from λq=>m q.2),yW (show(!false)=ae by decide),yY h,yX (show¬(!true)=ae by decide),yZ m,yW (show(!false)=ae by decide)]
   exact⟨_,rfl,rfl,.inr ⟨by decide,⟨rfl,rfl,rfl⟩,λ_=>by decide⟩⟩
  rw[yW (show aQ x/\aQ y from⟨h,m⟩),yX (show¬(!true)=ae by decide),yY h,yX (show¬(!true)=ae by decide),yY m,yX (show¬(!true)=ae by decide),Zti h,Zti m]
  simp only[ya];obtain⟨a,b,j,ha,hb,tot,_,_⟩:=F.fM;have hl:=F.len;have cx:=uq h;have cy:=uq m;have am:=F.am;have R:wi (a+bh x)=a+bh x:=ZJ (by omega) (by omega);have S:wi (b+bh y)=b+bh y:=ZJ (by omega) (by omega);rw[ZHx j (by omega),ya];have G:(uv s a b (bh x) (bh y)).2.1=[a+bh x,b+bh y]:=by rw[<-R, <-S];rfl
  have I:uv s a b (bh x) (bh y)=(s.1,[a+bh x,b+bh y],s.2.2.1,s.2.2.2):=by rw[<-R, <-S];rfl
  rw[G,j];simp only[yam,yak,ya];rw[R,S];by_cases c0:a+bh x < 0
  .rw[yW (yY (PR.2 (.inl c0))),yW (yY c0)];exact⟨_,rfl,rfl,.inr ⟨by decide,⟨rfl,rfl,rfl⟩,λ_=>by decide⟩⟩
  rw[yX (show¬ag (a+bh x < 0)=ae by rw[yN];exact c0)];by_cases c1:b+bh y < 0
  .rw[yW (yY (PR.2 (.inr c1))),yW (yY c1)];exact⟨_,rfl,rfl,.inr ⟨by decide,⟨rfl,rfl,rfl⟩,λ_=>by decide⟩⟩
  rw[yX (show¬ag (b+bh y < 0)=ae by rw[yN];exact c1),yX (by rw[yN,PR];omega)];obtain⟨t0,t1,T⟩:=jt w.t;obtain⟨f,g,l⟩:=jt w.b;rw[ZHC ch s [x,y] qu qv qw [bh x,bh y] (uv s a b (bh x) (bh y)) T G,ZEy ch s [x,y] qu qv qw T j,R,S,ya,ya];by_cases U:lU t0 t1 (a+bh x) (b+bh y) (bh x) (bh y)
  .rw[yW U,yW U];exact⟨_,rfl,rfl,.inr ⟨show(10:Int)≠0 by decide,⟨rfl,rfl,rfl⟩,λ_=>show(10:Int)≠14 by decide⟩⟩
  rw[yX U,yX U];simp only[yam,yak,ya];rw[ZEx j (by omega),ya,I];have e1:wi (ch.2.1+wi (bh x+bh y))=ch.2.1+(bh x+bh y):=by rw[ZJ (z:=bh x+bh y) (by omega) (by omega),ZJ (by omega) (by omega)]
  have e2:wi (wi (ch.2.1+bh x)+bh y)=ch.2.1+(bh x+bh y):=by rw[ZJ (z:=ch.2.1+bh x) (by omega) (by omega),ZJ (by omega) (by omega),Int.add_assoc]
  rw[e1,e2];generalize hM:ch.2.1+(bh x+bh y)=M;have w':dV (AJ ch M):=⟨w.b,w.t,by show-9223372036854775808<=M;omega,by show M<=9223372036854775807;omega,w.n0,w.n1,w.o0,w.o1⟩;obtain⟨bb,k1,k2,k3⟩:=ua w' (s:=(s.1,[a+bh x,b+bh y],s.2.2.1,s.2.2.2)) rfl;have J:au yD (ch.1,M,ch.2.2.1,ch.2.2.2.1,ch.2.2.2.2) (s.1,[a+bh x,b+bh y],s.2.2.1,s.2.2.2)=ab bb:=k1;have k2':X5 yD (ch.1,M,ch.2.2.1,ch.2.2.2.1,ch.2.2.2.2) (s.1,[a+bh x,b+bh y],s.2.2.1,s.2.2.2)=ab bb:=k2;rw[J,k2',ya,ya]
  cases bb with
  |false=>
   rw[yW (by decide),yW (by decide)]
   exact⟨_,rfl,rfl,.inr ⟨by decide,⟨rfl,rfl,rfl⟩,λ_=>by decide⟩⟩
  |true=>
   have sr2:=k3 rfl
   have pt:(eE f.1.toNat)/\eE g.1.toNat:=by
    have q0:=F.side 0 (by omega) t0 f (by rw[T];rfl) (by rw[l];rfl);have q1:=F.side 1 (by omega) t1 g (by rw[T];rfl) (by rw[l];rfl);exact⟨(q0.2 f.1 (by simp[pts])).1,(q1.2 g.1 (by simp[pts])).1⟩
   have lok:Wg (WZ f g):=by
    refine⟨by simp[WZ],by simp[WZ],λq hq=> ?_⟩;unfold WZ at hq;rw[ybc.1 hq];exact⟨by simp,show(0:Int)<=0 by decide,show(0:Int)<=1048576 by decide,show(0:Int)<=0 by decide,show(0:Int)<=1048576 by decide⟩
   rw[yX (by decide),yX (by decide)];unfold MC;dsimp only;rw[(PP l).1,ya,ya];dsimp only;rw[ZHA ch s qu qv qw [bh x,bh y] _ _ f g M h m,ya,ZHz l M h m lok,ya];dsimp only;have tl:mY (cJ ch f g M x y):=ZKg h m W X;have tw:mW (cJ ch f g M x y):=ZNe hh kx ky;obtain⟨tb,E,t2',Q⟩:=PD tl;have fold:((il ch x y,WR f g M x y,0):Tx)=cJ ch f g M x y:=rfl;rw[fold,t2',ya]
   cases tb with
   |false=>
    have hby:qe yD (cJ ch f g M x y)=ab []:=by
     unfold qe;rw[E,ya,yW (by decide)]
    obtain⟨t,ht'⟩:=ZHB;rw[hby,ya,ht',ya,yW (show(!false)=ae by decide),yW (by decide)]
    exact⟨_,rfl,rfl,.inr ⟨by decide,⟨rfl,rfl,rfl⟩,λ_=>by decide⟩⟩
   |true=>
    have tR:uo (cJ ch f g M x y):=⟨E,Q rfl,tw⟩;obtain⟨id,i1,i2,i3,i4⟩:=ZCU tR tl
    have hix:idx (jv id (cJ ch f g M x y).2.1.length) 0=ab (id,0):=by
     have:(cJ ch f g M x y).2.1.length=(x.2.1++y.2.1).length+1:=by
      show(WR f g M x y).length=_;unfold WR;rw[yaf]
     rw[this];unfold jv;rw[List.range_succ_eq_map,List.map_cons];rfl
    rw[ZHy tw E (Q rfl),ya,ZJD tR,ya,yX (show¬(!true)=ae by decide),yX (by decide),i4,ya,hix,ya,i2,ya];refine⟨_,rfl,rfl,.inl ⟨Y,F,h,m,a,b,f,g,id,j,l,i3, ?_⟩⟩;rw[hM];exact⟨rfl,by omega,by omega,J,sr2,tR,i1⟩
theorem ZL1{ch:Chan}(w:dV ch){t0 t1:bz}(ht:ch.2.2.2.1=[t0,t1])(h1:1<=ch.2.1/\ch.2.1<=1125899906842624)(h2:0<=ch.1.2/\ch.1.2<=63)(h3:ch.2.2.2.2=0\/ch.2.2.2.2=1)(h4:gp ch)(h5:t0.2.1+t1.2.1<=ch.2.1):
 Wt yD ch=ab 0:=by
 obtain⟨F,G,h⟩:=jt w.b;have y:=w.a0;have j:=w.o0;have l:=w.o1;obtain⟨⟨id,no⟩,A,I,ts,m⟩:=ch;dsimp only at h ht y j l h1 h2 h3 h5;subst h;subst ht;have g:=OT j l;unfold Wt;dsimp only;have f:=OR.1 h4;rw[yX (show¬ag (A < 1)=ae by rw[yN];omega),yX (show¬ag (A > 1125899906842624)=ae by rw[yN];omega)];rw[yX (show¬ag (no < 0)=ae by rw[yN];omega),yX (show¬ag (no >= 64)=ae by rw[yN];omega),g];rw[yY (show 0<=m/\m<=1 by omega),yX (by decide),OS _ _ rfl rfl,ya,yW f];dsimp only;obtain⟨_,_,_,J,_⟩:=f.1.1;obtain⟨M,_⟩:=f.1.1;obtain⟨_,_,_,Q,_⟩:=f.2.1;obtain⟨R,_⟩:=f.2.1
 have E:Qt yD t0.2.1 t1.2.1=ab (t0.2.1+t1.2.1,ae):=by
  unfold Qt oz;rw[yW (yY (show t0.2.1 >= 0 by omega)),yW (yY (show t1.2.1 >= 0 by omega)),ya,ya,yY (show t0.2.1<=1125899906842624 by omega),yY (show t1.2.1<=1125899906842624 by omega),yX (by decide),yX (by decide),ZJ (z:=1125899906842624 - t1.2.1) (by omega) (by omega),ZJ (z:=t0.2.1+t1.2.1) (by omega) (by omega)];rw[yX (dj (by omega))]
 rw[yam,yak,yam,ya,ya,E,ya,yX (show¬(!true)=ae by decide),yX (dj (by omega))]
theorem ZJE{ch:Chan}(w:dV ch){t0 t1:bz}(ht:ch.2.2.2.1=[t0,t1])(h:Wt yD ch=ab 0):t0.2.1+t1.2.1<=ch.2.1:=by
 obtain⟨e,f1,_,f3⟩:=zR w;have F:e=0:=ybl (f1.symm.trans h);obtain⟨G,I,J,M⟩:=f3 F;obtain⟨T,U,j⟩:=jt w.b;have Q:=w.a0;have l:=w.o0;have m:=w.o1;obtain⟨⟨id,no⟩,A,W,ts,y⟩:=ch;dsimp only at j ht Q l m G I J;subst j;subst ht;have g:=OT l m;unfold Wt at h;dsimp only at h;have f:=OR.1 M;rw[yX (show¬ag (A < 1)=ae by rw[yN];omega),yX (show¬ag (A > 1125899906842624)=ae by rw[yN];omega)]at h;rw[yX (show¬ag (no < 0)=ae by rw[yN];omega),yX (show¬ag (no >= 64)=ae by rw[yN];omega),g]at h;rw[yY (show 0<=y/\y<=1 by omega),yX (by decide),OS _ _ rfl rfl,ya,yW f]at h;dsimp only at h;obtain⟨_,_,_,X,_⟩:=f.1.1;obtain⟨Y,_⟩:=f.1.1;obtain⟨_,_,_,Z,_⟩:=f.2.1;obtain⟨p1,_⟩:=f.2.1
 have R:Qt yD t0.2.1 t1.2.1=if t0.2.1+t1.2.1<=1125899906842624 then ab (t0.2.1+t1.2.1,ae) else ab (0,af):=by
  unfold Qt oz;rw[yW (yY (show t0.2.1 >= 0 by omega)),yW (yY (show t1.2.1 >= 0 by omega)),ya,ya,yY (show t0.2.1<=1125899906842624 by omega),yY (show t1.2.1<=1125899906842624 by omega),yX (by decide),yX (by decide),ZJ (z:=1125899906842624 - t1.2.1) (by omega) (by omega),ZJ (z:=t0.2.1+t1.2.1) (by omega) (by omega)];by_cases h:t0.2.1+t1.2.1<=1125899906842624
  .rw[yX (dj (by omega)),yW h]
  .rw[yW (yY (by omega)),yX h]
 rw[yam,yak,yam,ya,ya,R]at h;show t0.2.1+t1.2.1<=A;by_cases E:t0.2.1+t1.2.1<=1125899906842624
 .rw[yW E,ya,yX (show¬(!true)=ae by decide)]at h;by_cases S:t0.2.1+t1.2.1 > A
  .rw[yW (yY S)]at h;exact absurd (ybl h) (by decide)
  .omega
 .rw[yX E,ya,yW (show(!false)=ae by decide)]at h;exact absurd (ybl h) (by decide)
theorem Zvr{ch:Chan}(w:dV ch){s:yG}(h:au yD ch s=ab ae):Wt yD ch=ab 0:=by
 obtain⟨e,f1,_,_⟩:=zR w;unfold au at h;rw[f1,ya]at h;by_cases f:e=0
 .rw[f1,f]
 .rw[yW (bne_iff_ne.2 f)]at h;exact absurd (ybl h) (by decide)
theorem ZzW{ch:Chan}(w:dV ch){s:yG}(f:Wt yD ch=ab 0)(h:iD ch s):au yD ch s=ab ae:=by
 obtain⟨a,b,hs,l,m,g,y,z⟩:=h.fM;unfold au;rw[f,ya,yX (show¬(((0:Int)!=0)=ae) by decide),tZ,ya,hs,yY h.no,yX (show¬(!true)=ae by decide),yam,yak,yam];simp only[ya,ZCL,tZ]
 have j:¬ag ((s.2.2.1.length:Int) > 16)=ae:=by
  have:=h.len;rw[yN];omega
 rw[yY (p:=(0<=a/\a<=1125899906842624)/\0<=b/\b<=1125899906842624) ⟨l,m⟩,yX (show¬(!true)=ae by decide),yY h.rate,yX (show¬(!true)=ae by decide),yX j,(OX w.t s h.len).1,ya,yW (show bA _ (cm ch s.2.2.1) from h.conds)]
 dsimp only;rw[(OY w.t s h.len).1,ya,yW (show bA 2 (cS ch s.2.2.1) from h.sides)]
 dsimp only;rw[OV s hs (by have:=h.len;omega),ya,yW (beq_iff_eq.2 g),hs,OW];rcases h.op with q|q
 .rw[q,yW (by decide)];exact congrArg ab (yY (y q))
 .rw[q,yW (by decide)];exact congrArg ab (yY (z q))
def dZ(l:yL Cond):Int:=(l.map λc=>c.2.2.1).sum
theorem PS:∀(l:yL Cond),(∀c,c∈l->1<=c.2.2.1/\c.2.2.1<=1125899906842624)->0<=dZ l/\dZ l<=l.length*1125899906842624
 |[],_=>by simp[dZ]
 |c::l,h=>by
  have g:=h c yau;have j:=PS l λx f=>h x (yav _ f);have e:dZ (c::l)=c.2.2.1+dZ l:=by simp[dZ]
  rw[e,yaf];omega
theorem PT:∀(l:yL Cond)(z:Int),(∀c,c∈l->1<=c.2.2.1/\c.2.2.1<=1125899906842624)->l.length<=17->0<=z->z+l.length*1125899906842624<=9007199254740992000->dm z l=z+dZ l
 |[],z,_,_,_,_=>by simp[dm,dZ]
 |c::l,z,h,f,m,g=>by
  have y:=h c yau;rw[yaf]at f g;have w:wi (z+c.2.2.1)=z+c.2.2.1:=ZJ (by omega) (by omega);have e:dm z (c::l)=dm (wi (z+c.2.2.1)) l:=rfl;have i:=PT l (z+c.2.2.1) (λx j=>h x (yav _ j)) (by omega) (by omega) (by omega);have s:dZ (c::l)=c.2.2.1+dZ l:=by simp[dZ]
  rw[e,w,i,s];omega
theorem AK(l m:yL Cond):dZ (l++m)=dZ l+dZ m:=by simp[dZ]
theorem ZHD(l:yL Cond)(k:Nat)(c:Cond):dZ (l.take k++c::l.drop k)=dZ l+c.2.2.1:=by
 have h:=AK (l.take k) (l.drop k);rw[ybb]at h;have e:dZ (c::l.drop k)=c.2.2.1+dZ (l.drop k):=by simp[dZ]
 rw[AK,e,h];omega
def V3(to:Int)(l:yL Cond):yL Cond:=l.filter λc=>ag (c.1=wi (1 - to))
theorem PU(to:Int):∀(l:yL Cond)(o:Int×Int),(∀c,c∈l->1<=c.2.2.1/\c.2.2.1<=1125899906842624)->l.length<=17->0<=o.1->o.1<=1000->0<=o.2->o.2+l.length*1125899906842624<=9007199254740992000->o.1+l.length<=1000->
 l.foldl (lR to) o=(o.1+((V3 to l).length:Int),o.2+dZ (V3 to l))
 |[],o,_,_,_,_,_,_,_=>by simp[V3,dZ]
 |c::l,o,h,m,y,z,A,E,F=>by
  have I:=h c yau;rw[yaf]at m E F;rw[List.foldl_cons];by_cases e:c.1=wi (1 - to)
  .have f:lR to o c=(o.1+1,o.2+c.2.2.1):=by
    unfold lR;rw[yW e,ZJ (by omega) (by omega),ZJ (by omega) (by omega)]
   have g:V3 to (c::l)=c::V3 to l:=by simp[V3,e]
   have G:dZ (c::V3 to l)=c.2.2.1+dZ (V3 to l):=by simp[dZ]
   rw[f,PU to l _ (λx j=>h x (yav _ j)) (by omega) (by dsimp only;omega) (by dsimp only;omega) (by dsimp only;omega) (by dsimp only;omega) (by dsimp only;omega),g,G,yaf];dsimp only;refine Prod.ext ?_ ?_
   .show o.1+1+_=o.1+_;omega
   .show o.2+_+_=o.2+_;omega
  .have f:lR to o c=o:=by
    unfold lR;rw[yX e]
   have g:V3 to (c::l)=V3 to l:=by simp[V3,e]
   rw[f,PU to l o (λx j=>h x (yav _ j)) (by omega) y z A (by omega) (by omega),g]
theorem AL(to:Int){l:yL Cond}(h:∀c,c∈l->1<=c.2.2.1/\c.2.2.1<=1125899906842624)(hl:l.length<=17):off to l=(((V3 to l).length:Int),dZ (V3 to l)):=by
 have:=PU to l (0,0) h hl (by decide) (by decide) (by decide) (by dsimp only;omega) (by dsimp only;omega);unfold off;rw[this];simp
theorem ZHE(to:Int)(l:yL Cond)(k:Nat)(c:Cond):((V3 to (l.take k++c::l.drop k)).length:Int)=(V3 to l).length+(if c.1=wi (1 - to) then 1 else 0)/\dZ (V3 to (l.take k++c::l.drop k))=dZ (V3 to l)+(if c.1=wi (1 - to) then c.2.2.1 else 0):=by
 have h:V3 to l=V3 to (l.take k)++V3 to (l.drop k):=by
  unfold V3;rw[<-List.filter_append,ybb]
 have g:V3 to (l.take k++c::l.drop k)=V3 to (l.take k)++V3 to (c::l.drop k):=by
  unfold V3;rw[List.filter_append]
 rw[g,h,AK,AK];by_cases e:c.1=wi (1 - to)
 .have f:V3 to (c::l.drop k)=c::V3 to (l.drop k):=by simp[V3,e]
  have j:dZ (c::V3 to (l.drop k))=c.2.2.1+dZ (V3 to (l.drop k)):=by simp[dZ]
  rw[f,j,yW e,yW e];simp only[yl,yaf];omega
 .have f:V3 to (c::l.drop k)=V3 to (l.drop k):=by simp[V3,e]
  rw[f,yX e,yX e];simp only[yl];omega
def AM(l:yL Cond)(f i:Int):Prop:=∃c,c∈l/\c.1=f/\c.2.1=i
theorem ZJG(s:yG)(f i:Int)(hl:s.2.2.1.length<=1000):∃c b,yC yD s f i=ab (c,b)/\(b=ae↔AM s.2.2.1 f i):=by
 obtain⟨x,e,J⟩:=XH (step:=Vd yD) s.2.2.1.length (λk st=>st=(s.2.2.1,(s.2.2.1.length:Int),(k:Int),f,i)/\∀j,j < k->∀c,s.2.2.1[j]? =ab c->¬(c.1=f/\c.2.1=i))
  (λx=>(x=.inr (f,i)/\¬AM s.2.2.1 f i)\/∃(k:Nat)(c:Cond),s.2.2.1[k]? =ab c/\(c.1=f/\c.2.1=i)/\x=.inl ((k:Int),f,i)) (i:=(s.2.2.1,(s.2.2.1.length:Int),(0:Int),f,i)) ⟨rfl,λj h=>by omega⟩ (by omega) (by
    rintro k _ F ⟨rfl,m⟩;obtain⟨c,l,G⟩:=Zj F;unfold Vd;dsimp only;rw[yW (Zw F),Zn l,ya];unfold MJ;by_cases y:c.1=f
    .rw[yW (beq_iff_eq.2 y),ya];dsimp only;by_cases z:c.2.1=i
     .rw[yW (beq_iff_eq.2 z)];exact .inr ⟨_,rfl,.inr ⟨k,c,l,⟨y,z⟩,rfl⟩⟩
     .rw[yX (show¬(c.2.1==i)=ae by rw[yT];exact z),Zr (by omega)];refine .inl ⟨_,rfl,rfl,λj A E g=> ?_⟩;by_cases e:j=k
      .subst e;rw[l]at g;cases g;exact λq=>z q.2
      .exact m j (by omega) E g
    .rw[yX (show¬(c.1==f)=ae by rw[yT];exact y),ya];dsimp only;rw[yX (by decide),Zr (by omega)];refine .inl ⟨_,rfl,rfl,λj A E g=> ?_⟩;by_cases e:j=k
     .subst e;rw[l]at g;cases g;exact λq=>y q.1
     .exact m j (by omega) E g) (by
    rintro _ ⟨rfl,m⟩;unfold Vd;dsimp only;rw[yX (by rw[Zy];decide)];refine⟨_,rfl,.inl ⟨rfl, ?_⟩⟩;rintro⟨c,G,h⟩;obtain⟨j,I,M⟩:=ybg G;exact m j I c (by rw[yab I,M]) h)
 unfold yC MK;rw[e,ya];rcases J with⟨rfl,h⟩|⟨k,c,l,Q,rfl⟩
 .dsimp only;rw[ya,yW (show ag ((-1:Int) < 0)=ae by decide)];exact⟨_,af,rfl,by simpa using h⟩
 .dsimp only;rw[ya];dsimp only;rw[yX (dj (by omega)),Zn l,ya];exact⟨_,ae,rfl,by simpa using⟨c,ybk l,Q⟩⟩
theorem ZL2{a b:Nat}(h:a+b<=100000):wi ((ZB (dy (wi ((a:Int)+(b:Int)))) 1).toNat:Int)=(((a+b) / 2:Nat):Int):=by
 rw[ZJ (z:=(a:Int)+(b:Int)) (by omega) (by omega),gU]
 have e:(dy ((a:Int)+(b:Int))).toNat=a+b:=by
  unfold dy;rw[UInt64.toNat_ofNat'];omega
 rw[e,ZJ (by omega) (by omega)]
def PV(l:yL Cond):Prop:=∀(p q:Nat)(x y:Cond),p < q->l[p]? =ab x->l[q]? =ab y->bW x y
theorem PW{a b c:Cond}(h:bW a b)(k:bW b c):bW a c:=by
 unfold bW at*;omega
structure AN(l:List Cond)(c:Cond)(k:Nat):Prop where
 le:k<=l.length
 lo:∀p x,p < k->l[p]? =ab x->bW x c
 hi:∀p x,k<=p->l[p]? =ab x->¬bW x c
theorem ZHF{l:yL Cond}(hl:l.length<=1000)(j:PV l)(c:Cond):∃(k:Nat)(b:Bool),WV yD l c=ab ((k:Int),b)/\AN l c k:=by
 obtain⟨o,e,k,rfl,F⟩:=Wz (step:=za yD) (λst=>∃a b:Nat,st=(l,(l.length:Int),(a:Int),(b:Int),c)/\a<=b/\b<=l.length/\(∀p x,p < a->l[p]? =ab x->bW x c)/\∀p x,b<=p->l[p]? =ab x->¬bW x c)
  (λst=>(st.2.2.2.1 - st.2.2.1).toNat) (λo=>∃k:Nat,o=(l,(l.length:Int),(k:Int),c)/\AN l c k) (by
    rintro _ ⟨a,b,rfl,T,G,I,J⟩;unfold za;dsimp only;by_cases z:a < b
    .left;rw[yW (Zw z),ZL2 (by omega)];have R:(a+b) / 2 < l.length:=by omega
     obtain⟨x,f,_⟩:=Zj R;rw[Zn f,ya];obtain⟨v,A,E⟩:=OU x c;rw[A,ya];by_cases M:v < 0
     .rw[yW (yY M),Zr (by omega)]
      have m:bW x c:=Classical.byContradiction λq=>by
       have:=E.2 q;omega
      refine⟨_,rfl,⟨(a+b) / 2+1,b,rfl,by omega,G,λp y S g=> ?_,J⟩,by dsimp only;omega⟩;by_cases e:p=(a+b) / 2
      .subst e;rw[f]at g;cases g;exact m
      .exact PW (j p _ _ _ (by omega) g f) m
     .rw[yX (by rw[yN];exact M)];have m:¬bW x c:=E.1 (by omega);refine⟨_,rfl,⟨a,(a+b) / 2,rfl,by omega,by omega,I,λp y S g q=> ?_⟩,by dsimp only;omega⟩;by_cases e:p=(a+b) / 2
      .subst e;rw[f]at g;cases g;exact m q
      .exact m (PW (j _ p _ _ (by omega) f g) q)
    .right;have:a=b:=by omega
     subst this;rw[yX (by rw[Zy];decide)]
     exact⟨_,rfl,a,rfl,G,I,J⟩) (l,(l.length:Int),(0:Int),(l.length:Int),c) ⟨0,l.length,rfl,by omega,by omega,λp x h=>by omega,λp x h f=>by
      have:=(yu.1 f).1;omega⟩ (by dsimp only;omega)
 unfold WV;rw[e,ya];dsimp only;by_cases Q:k < l.length
 .obtain⟨x,f,_⟩:=Zj Q;obtain⟨v,A,E⟩:=OU x c;rw[yW (Zw Q),Zn f,ya,A,ya];exact⟨k,_,rfl,F⟩
 .rw[yX (dj (by omega))];exact⟨k,_,rfl,F⟩
def qx(s:yG)(c:Cond)(k:Nat):yG:=(s.1,s.2.1,s.2.2.1.take k++c::s.2.2.1.drop k,s.2.2.2)
theorem ZJH{s:yG}(hl:s.2.2.1.length<=16)(h:PV s.2.2.1)(c:Cond):∃k,qk yD s c=ab (qx s c k)/\AN s.2.2.1 c k:=by
 obtain⟨k,b,j,l⟩:=ZHF (by omega) h c;refine⟨k, ?_,l⟩;unfold qk;by_cases f:s.2.2.1=[]
 .rw[f,yW (by rfl)]
  have m:k=0:=by
   have:=l.le;rw[f]at this;simpa using this
  subst m;unfold MM;rw[f]at j;rw[f,j,ya];unfold Xf;rw[yW (by decide),ya];unfold ML;rw[yW (show dX ([]:yL Cond).length (ab ((0:Nat):Int)) ad=ae by decide),yX (show¬((([c]:yL Cond).length:Int)==0)=ae by rw[yT];simp),yW (show((((0:Nat):Int))==(([]:yL Cond).length:Int))=ae by decide),yW (show cj ([]:yL Cond).length ([c]:yL Cond).length 40=ae from ZZ (by simp) (by simp)),ya]
  unfold qx;rw[f];rfl
 .have g:¬s.2.2.1.isEmpty=ae:=by
   rw[List.isEmpty_iff];exact f
  rw[yX g,j,ya]
  have y:Xf yD s.2.2.1=ab s.2.2.1:=by
   unfold Xf;rw[yW (ZZ (by omega) (by omega))]
  have z:ze (k:Int) s.2.2.1 c=ab (s.2.2.1.take k++c::s.2.2.1.drop k):=by
   unfold ze;have:=l.le;rw[yW (by rw[yi,yi,yP,yP,yP];omega),yat]
  rw[y,ya,yX g,z,ya];rfl
theorem ZHG{l:yL Cond}{c:Cond}{k:Nat}(h:k<=l.length)(j:Nat):(l.take k++c::l.drop k)[j]? =if j < k then l[j]? else if j=k then ab c else l[j - 1]? :=by
 have y:(l.take k).length=k:=by rw[yaa,Nat.min_eq_left h]
 by_cases f:j < k
 .rw[yW f,ybe (by omega),List.getElem?_take,yW f]
 .rw[yX f,yaq (by omega),y];by_cases g:j=k
  .rw[yW g,g,Nat.sub_self];rfl
  .rw[yX g];obtain⟨m,z⟩:∃m,j - k=m+1:=⟨j - k - 1,by omega⟩;rw[z,yak,List.getElem?_drop];congr 1;omega
theorem PX{ch:Chan}{s:yG}(h:iD ch s):PV s.2.2.1:=by
 have m:∀d p x y,s.2.2.1[p]? =ab x->s.2.2.1[p+d+1]? =ab y->bW x y:=by
  intro d
  induction d with
  |zero=>
   intro p x y j f;have g:=(yu.1 f).1
   exact(h.conds (p+0+1) g y f).2.1 x (by omega) (by simpa using j)
  |succ d E=>
   intro p x y j f;have g:=(yu.1 f).1;obtain⟨z,A,_⟩:=Zj (l:=s.2.2.1) (k:=p+d+1) (by omega);exact PW (E p x z j A) ((h.conds (p+(d+1)+1) g y f).2.1 z (by omega) (by rw[show p+(d+1)+1 - 1=p+d+1 by omega];exact A))
 intro p q x y F j f;obtain⟨d,rfl⟩:∃d,q=p+d+1:=⟨q - p - 1,by omega⟩;exact m d p x y j f
theorem AO{ch:Chan}{s:yG}(h:iD ch s):∀c,c∈s.2.2.1->kj c:=λc g=>by
 obtain⟨j,f,l⟩:=ybg g;exact(h.conds j f c (by rw[yab f,l])).1
theorem ZL3(r n:Int):0<=di r n/\di r n<=196000:=by
 unfold di;split
 .rename_i h;split
  .rename_i k;obtain⟨f,g⟩:=h;obtain⟨j,l⟩:=k;have m:0<=r*(68+8*n):=Int.mul_nonneg f (by omega);have y:r*(68+8*n)<=1000*(68+8*n):=Int.mul_le_mul_of_nonneg_right g (by omega);omega
  .omega
 .omega
theorem ZJI{ch:Chan}{s:yG}(h:iD ch s){a b:Int}(J:s.2.1=[a,b]){c:Cond}(M:kj c)(Q:¬AM s.2.2.1 c.1 c.2.1){k:Nat}(y:AN s.2.2.1 c k)(hl:s.2.2.1.length < 16){t:bz}(ht:ch.2.2.2.1[(1 - c.1).toNat]? =ab t)
 (w2:ch.2.2.2.1.length=2) (h1:t.2.2.2.2.1<=c.2.2.1) (h2:(off (1 - c.1) s.2.2.1).1 < t.2.2.2.1) (h3:(off (1 - c.1) s.2.2.1).2+c.2.2.1<=t.2.2.2.2.2) {l b':Int} (hh:(c.1=0/\l=a - c.2.2.1/\b'=b)\/(c.1=1/\l=a/\b'=b - c.2.2.1)) (Z:0<=l) (hb':0<=b')
 (A:ch.2.2.2.2=0->l >= wi (di s.2.2.2 ((s.2.2.1.length+1:Nat):Int)+660)) (E:ch.2.2.2.2=1->b' >= wi (di s.2.2.2 ((s.2.2.1.length+1:Nat):Int)+660)):
 iD ch (s.1,[l,b'],s.2.2.1.take k++c::s.2.2.1.drop k,s.2.2.2):=by
 obtain⟨a0,b0,e,ra,rb,R,_,_⟩:=h.fM;rw[J]at e
 obtain⟨rfl,rfl⟩:a=a0/\b=b0:=by
  simp only[List.cons.injEq,and_true]at e;exact e
 have F:∀x,x∈s.2.2.1->1<=x.2.2.1/\x.2.2.1<=1125899906842624:=λx f=>(AO h x f).2.2.1
 have hm:∀x,x∈s.2.2.1.take k++c::s.2.2.1.drop k->x∈s.2.2.1\/x=c:=λx f=>by
  rcases ycm.1 f with q|q
  .exact .inl (List.mem_of_mem_take q)
  .rcases ybp.1 q with q|q
   .exact .inr q
   .exact .inl (List.mem_of_mem_drop q)
 have G:∀x,x∈s.2.2.1.take k++c::s.2.2.1.drop k->1<=x.2.2.1/\x.2.2.1<=1125899906842624:=λx f=>by
  rcases hm x f with q|rfl
  .exact F x q
  .exact M.2.2.1
 have len:(s.2.2.1.take k++c::s.2.2.1.drop k).length=s.2.2.1.length+1:=by
  have:=y.le;simp only[yl,yaa,yaf,yaz];omega
 have cs:=PS s.2.2.1 F;have S:wi (a+b)=a+b:=ZJ (by omega) (by omega);have c1:=M.2.2.1;rw[S,PT _ _ F (by omega) (by omega) (by omega)]at R;refine⟨h.am,h.at_,h.op,h.side,h.no,⟨l,b',rfl,by omega,by omega, ?_, ?_, ?_⟩,h.rate, ?_, ?_, ?_⟩
 .show dm (wi (l+b')) (s.2.2.1.take k++c::s.2.2.1.drop k)=ch.2.1;rw[ZJ (z:=l+b') (by omega) (by omega),PT _ _ G (by omega) (by omega) (by rw[len];omega),ZHD];omega
 .show _->l >= wi (di s.2.2.2 (((s.2.2.1.take k++c::s.2.2.1.drop k).length:Nat):Int)+660);rw[len];exact A
 .show _->b' >= wi (di s.2.2.2 (((s.2.2.1.take k++c::s.2.2.1.drop k).length:Nat):Int)+660);rw[len];exact E
 .show(s.2.2.1.take k++c::s.2.2.1.drop k).length<=16;omega
 .show∀j,j < (s.2.2.1.take k++c::s.2.2.1.drop k).length->cm ch (s.2.2.1.take k++c::s.2.2.1.drop k) j;intro j hj x f;rw[ZHG y.le]at f;rw[len]at hj;refine⟨?_, ?_, ?_⟩
  .by_cases q:j < k
   .rw[yW q]at f;exact AO h x (ybk f)
   .rw[yX q]at f;by_cases r:j=k
    .rw[yW r]at f;cases f;exact M
    .rw[yX r]at f;exact AO h x (ybk f)
  .intro p hp0 m;rw[ZHG y.le]at m;by_cases q:j < k
   .rw[yW q]at f;rw[yW (by omega)]at m;exact PX h _ _ _ _ (by omega) m f
   .rw[yX q]at f;by_cases r:j=k
    .rw[yW r]at f;cases f;rw[yW (by omega)]at m;exact y.lo _ _ (by omega) m
    .rw[yX r]at f;by_cases u:j - 1=k
     .rw[yX (by omega),yW u]at m;cases m;have n1:=y.hi (j - 1) x (by omega) f;have n2:¬(x.1=c.1/\x.2.1=c.2.1):=λq=>Q ⟨x,ybk f,q⟩;unfold bW at*;omega
     .rw[yX (by omega),yX u]at m;exact PX h _ _ _ _ (by omega) m f
  .intro T g;by_cases q:x=c
   .subst q;rw[ht]at g;cases g;exact h1
   .have U:x∈s.2.2.1:=by
     by_cases X:j < k
     .rw[yW X]at f;exact ybk f
     .rw[yX X]at f;by_cases r:j=k
      .rw[yW r]at f;cases f;exact absurd rfl q
      .rw[yX r]at f;exact ybk f
    obtain⟨i,Y,i2⟩:=ybg U;exact(h.conds i Y x (by rw[yab Y,i2])).2.2 T g
 .intro i hi T g;have I:=h.sides i hi T g;rw[AL _ F (by omega)]at I;show(off (i:Int) (s.2.2.1.take k++c::s.2.2.1.drop k)).1<=_/\_;rw[AL _ G (by omega)];obtain⟨o1,o2⟩:=ZHE (i:Int) s.2.2.1 k c;dsimp only at I ⊢;rw[o1,o2];have W:wi (1 - (i:Int))=1 - i:=ZJ (by omega) (by omega);by_cases q:c.1=wi (1 - (i:Int))
  .rw[yW q,yW q];rw[W]at q;have e1:1 - c.1=(i:Int):=by omega
   rw[e1]at ht h2 h3;rw[yat,g]at ht;cases ht;rw[AL _ F (by omega)]at h2 h3;dsimp only at h2 h3;omega
  .rw[yX q,yX q];omega
theorem ZCV{ch:Chan}{s:yG}{i:Int}(hi:i=0\/i=1){m:Int}(hm:s.2.1[i.toNat]? =ab m):QJ yD ch s i=ab (if i=ch.2.2.2.2 then wi (m - wi (di s.2.2.2 (s.2.2.1.length:Int)+660)) else m):=by
 unfold QJ;have f:bi i 2=ae:=X8 (by omega) (by omega);by_cases h:i=ch.2.2.2.2
 .rw[yW (beq_iff_eq.2 h),yW f,hm,ya,OW,ya,yW h]
 .rw[yX (by rw[yT];exact h),yW f,hm,ya,yX h]
theorem ZL4{ch:Chan}(w:dV ch){s:yG}(hs:s.2.1.length=2)(c:Cond):∃t e,zf yD ch s c=ab (t,e)/\(e=0->au yD ch t=ab ae/\iD ch t/\t.2.1.length=2/\t.2.2.1.length=s.2.2.1.length+1):=by
 obtain⟨br,Y,_,g3⟩:=ua w hs;unfold zf;rw[Y,ya]
 cases br with
 |false=>
  rw[yW (by decide)]
  exact⟨_,_,rfl,λh=>absurd h (by decide)⟩
 |true=>
  have h:=g3 rfl;rw[yX (by decide),ZCM,ya];by_cases E:kj c
  case neg=>
   rw[yZ E,yW (by decide)];exact⟨_,_,rfl,λh=>absurd h (by decide)⟩
  obtain⟨w1,w2,t,w3,w4⟩:=Zs8 w.t E.1;have len:=h.len;have A:bi c.1 2=ae:=X8 E.1.1 (by have:=E.1.2;omega);obtain⟨a,b,j⟩:=jt hs;obtain⟨fcx,Z,f1,f2⟩:=ZJG s c.1 c.2.1 (by omega);rw[yY E,yX (by decide),yW w2,w3,ya,Zs6 _ _ (by omega),ya,f1,ya]
  cases Z with
  |true=>
   rw[yW (by rfl)]
   exact⟨_,_,rfl,λh=>absurd h (by decide)⟩
  |false=>
   have M:¬AM s.2.2.1 c.1 c.2.1:=λq=>absurd (f2.2 q) (by decide);rw[yX (show¬(af=ae) by decide)];by_cases q1:c.2.2.1 < t.2.2.2.2.1
   .rw[yW (yY q1)];exact⟨_,_,rfl,λh=>absurd h (by decide)⟩
   rw[yX (by rw[yN];exact q1)];by_cases q2:(s.2.2.1.length:Int) >= 16
   .rw[yW (yY q2)];exact⟨_,_,rfl,λh=>absurd h (by decide)⟩
   rw[yX (by rw[yN];exact q2)];by_cases Q:(off (wi (1 - c.1)) s.2.2.1).1 >= t.2.2.2.1
   .rw[yW (yY Q)];exact⟨_,_,rfl,λh=>absurd h (by decide)⟩
   rw[yX (by rw[yN];exact Q)];dsimp only;by_cases J:wi ((off (wi (1 - c.1)) s.2.2.1).2+c.2.2.1) > t.2.2.2.2.2
   .rw[yW (yY J)];exact⟨_,_,rfl,λh=>absurd h (by decide)⟩
   rw[yX (by rw[yN];exact J),yW A];have am:∀x,x∈s.2.2.1->1<=x.2.2.1/\x.2.2.1<=1125899906842624:=λx R=>(AO h x R).2.2.1;have ob:(off (wi (1 - c.1)) s.2.2.1)=(((V3 (wi (1 - c.1)) s.2.2.1).length:Int),dZ (V3 (wi (1 - c.1)) s.2.2.1)):=AL _ am (by omega);have oc:=PS (V3 (wi (1 - c.1)) s.2.2.1) λx R=>am x (List.mem_filter.1 R).1;have ol:(V3 (wi (1 - c.1)) s.2.2.1).length<=s.2.2.1.length:=List.length_filter_le _ _;have c1:=E.2.2.1;rw[ZJ (z:=(off (wi (1 - c.1)) s.2.2.1).2+c.2.2.1) (by rw[ob];dsimp only;omega) (by rw[ob];dsimp only;omega)]at J;rw[w1]at Q J;obtain⟨k,k1,k2⟩:=ZJH len (PX h) c;have Z:=ZL3 s.2.2.2 ((s.2.2.1.length+1:Nat):Int);have g:wi (di s.2.2.2 ((s.2.2.1.length+1:Nat):Int)+660)=di s.2.2.2 ((s.2.2.1.length+1:Nat):Int)+660:=ZJ (by omega) (by omega);obtain⟨a0,b0,S,ra,rb,_,_,_⟩:=h.fM;rw[j]at S
   obtain⟨rfl,rfl⟩:a=a0/\b=b0:=by
    simp only[List.cons.injEq,and_true]at S;exact S
   have ln:(qx s c k).2.2.1.length=s.2.2.1.length+1:=by
    have:=k2.le;unfold qx;simp only[yl,yaa,yaf,yaz];omega
   have fin:∀(l y m:Int),(c.1=0/\l=a - c.2.2.1/\y=b)\/(c.1=1/\l=a/\y=b - c.2.2.1)->0<=l->0<=y->([l,y]:yL Int)[c.1.toNat]? =ab m->
    ∃G e',((QJ yD ch (s.1,[l,y],s.2.2.1.take k++c::s.2.2.1.drop k,s.2.2.2) ch.2.2.2.2).bind λd=>if ag (d < 0)=ae then ab (((0,[0,0],[],0):yG),(8:Int)) else
     (QJ yD ch (s.1,[l,y],s.2.2.1.take k++c::s.2.2.1.drop k,s.2.2.2) c.1).bind λf=>if ag (f < t.2.1)=ae then ab (((0,[0,0],[],0):yG),(10:Int)) else ab (((s.1,[l,y],s.2.2.1.take k++c::s.2.2.1.drop k,s.2.2.2):yG),(0:Int)))=ab (G,e')/\
     (e'=0->au yD ch G=ab ae/\iD ch G/\G.2.1.length=2/\G.2.2.1.length=s.2.2.1.length+1):=by
    intro l y m hh T U hm
    obtain⟨n,F⟩:∃n,([l,y]:yL Int)[ch.2.2.2.2.toNat]? =ab n:=by
     rcases h.op with q|q
     .rw[q];exact⟨l,rfl⟩
     .rw[q];exact⟨y,rfl⟩
    rw[ZCV h.op (show((s.1,[l,y],s.2.2.1.take k++c::s.2.2.1.drop k,s.2.2.2):yG).2.1[ch.2.2.2.2.toNat]? =ab n from F),ya,yW rfl]
    have W:(s.2.2.1.take k++c::s.2.2.1.drop k).length=s.2.2.1.length+1:=ln;dsimp only;rw[W,g]
    have nb: -1125899906842624<=n/\n<=1125899906842624:=by
     rcases h.op with q|q
     .rw[q]at F;cases F;omega
     .rw[q]at F;cases F;omega
    rw[ZJ (z:=n - (di s.2.2.2 ((s.2.2.1.length+1:Nat):Int)+660)) (by omega) (by omega)];by_cases q5:n - (di s.2.2.2 ((s.2.2.1.length+1:Nat):Int)+660) < 0
    .rw[yW (yY q5)];exact⟨_,_,rfl,λh=>absurd h (by decide)⟩
    rw[yX (by rw[yN];exact q5),ZCV (by have:=E.1;omega) (show((s.1,[l,y],s.2.2.1.take k++c::s.2.2.1.drop k,s.2.2.2):yG).2.1[c.1.toNat]? =ab m from hm),ya]
    generalize (if c.1=ch.2.2.2.2 then _ else m)=f
    by_cases q7:f < t.2.1
    .rw[yW (yY q7)];exact⟨_,_,rfl,λh=>absurd h (by decide)⟩
    .rw[yX (by rw[yN];exact q7)];have st:=ZJI h j E M k2 (by omega) w4 w.t (by omega) (by omega) (by omega) hh T U (λq=>by rw[q]at F;cases F;rw[g];omega) (λq=>by rw[q]at F;cases F;rw[g];omega);exact⟨_,_,rfl,λ_=>⟨ZzW w (Zvr w Y) st,st,rfl,ln⟩⟩
   rcases (show c.1=0\/c.1=1 by have:=E.1;omega) with q|q
   .rw[j];rw[show([a,b]:yL Int)[c.1.toNat]? =ab a by rw[q];rfl,ya];by_cases I:a < c.2.2.1
    .rw[yW (yY I)];exact⟨_,_,rfl,λh=>absurd h (by decide)⟩
    rw[yX (by rw[yN];exact I),k1,ya,yW A];have X:(qx s c k).2.1=[a,b]:=j;rw[X,show([a,b]:yL Int)[c.1.toNat]? =ab a by rw[q];rfl,ya,yW A,ya,ZJ (z:=a - c.2.2.1) (by omega) (by omega),show([a,b]:yL Int).set c.1.toNat (a - c.2.2.1)=[a - c.2.2.1,b] by rw[q];rfl];exact fin _ _ (a - c.2.2.1) (.inl ⟨q,rfl,rfl⟩) (by omega) (by omega) (by rw[q];rfl)
   .rw[j];rw[show([a,b]:yL Int)[c.1.toNat]? =ab b by rw[q];rfl,ya];by_cases I:b < c.2.2.1
    .rw[yW (yY I)];exact⟨_,_,rfl,λh=>absurd h (by decide)⟩
    rw[yX (by rw[yN];exact I),k1,ya,yW A];have X:(qx s c k).2.1=[a,b]:=j;rw[X,show([a,b]:yL Int)[c.1.toNat]? =ab b by rw[q];rfl,ya,yW A,ya,ZJ (z:=b - c.2.2.1) (by omega) (by omega),show([a,b]:yL Int).set c.1.toNat (b - c.2.2.1)=[a,b - c.2.2.1] by rw[q];rfl];exact fin _ _ (b - c.2.2.1) (.inr ⟨q,rfl,rfl⟩) (by omega) (by omega) (by rw[q];rfl)
def kys(k:dE):yL yU:=[k.1,k.2.1,k.2.2.1,k.2.2.2.1,k.2.2.2.2.1]
theorem ZHH{seed:yL yB}(hs:seed.length=32)(z:dE):∃all,Zc (VB yD) yD ((0:Int),seed,z,([0,0,0,0,0]:yL yU))=ab (seed,z,all)/\all.length=5/\∀e,e∈all->Key e:=by
 obtain⟨x,E,all,rfl,F,G⟩:=XH (step:=VB yD) 5 (λk s=>∃all,s=((k:Int),seed,z,all)/\all.length=5/\∀j e,j < k->all[j]? =ab e->Key e) (λx=>∃all,x=(seed,z,all)/\all.length=5/\∀e,e∈all->Key e)
  (i:=((0:Int),seed,z,([0,0,0,0,0]:yL yU))) ⟨_,rfl,rfl,λj e h=>by omega⟩ (by omega) (by
  rintro k _ S ⟨all,rfl,m,y⟩;obtain⟨T,A,_⟩:=Zj (l:=all) (k:=k) (by omega);obtain⟨q,I,J⟩:=ZJt (h:=Sha.iS (kl tK [seed,[w8 (((k+1:Nat):Int))]])) (Sha.KL _);left;unfold VB;dsimp only
  rw[yW (yY (by omega)),Zr (by omega),OZ (by decide) (by simp) (by
   intro l g;simp only[ybp,List.not_mem_nil,or_false]at g;rcases g with rfl|rfl
   .omega
   .simp),ya,I,ya,yW (X8 (by omega) (by omega)),yat,A,ya]
  refine⟨_,rfl,_,rfl,by rw[List.length_set];exact m,λj e M f=> ?_⟩;by_cases c:j=k
  .subst c;rw[List.getElem?_set_self (by omega)]at f;cases f;exact J
  .rw[List.getElem?_set_ne (Ne.symm c)]at f;exact y j e (by omega) f) (by
  rintro _ ⟨all,rfl,m,y⟩;unfold VB;dsimp only;rw[yX (show¬ag (((5:Nat):Int) < 5)=ae by decide)];refine⟨_,rfl,all,rfl,m,λe f=> ?_⟩;obtain⟨j,Q,R⟩:=ybg f;exact y j e (by omega) (by rw[<-R];exact yab Q))
 exact⟨all,E,F,G⟩
structure oM(k:dE):Prop where
 key:∀e,e∈kys k->Key e
 len:k.2.2.2.2.2.length=32
theorem ZHI{seed:yL yB}(hs:seed.length=32):∃k,tL yD seed=ab k/\oM k:=by
 obtain⟨all,g,h,j⟩:=ZHH hs (0,0,0,0,0,yx 32 0)
 obtain⟨a,b,c,d,e,rfl⟩:∃a b c d e,all=[a,b,c,d,e]:=by
  match all,h with
  |[a,b,c,d,e],_=>exact⟨a,b,c,d,e,rfl⟩
 unfold tL;refine⟨(a,b,c,d,e,Sha.iS (kl tK [seed,[6]])), ?_,⟨j,show(Sha.iS (kl tK [seed,[6]])).length=32 from Sha.KL _⟩⟩
 have g:Zc (VB yD) yD ((0:Int),seed,((0,0,0,0,0,dt):dE),([0,0,0,0,0]:yL yU))=_:=g;rw[g,ya];dsimp only
 rw[show([a,b,c,d,e]:yL yU)[0]? =ab a from rfl,ya,show([a,b,c,d,e]:yL yU)[1]? =ab b from rfl,ya,show([a,b,c,d,e]:yL yU)[2]? =ab c from rfl,ya,show([a,b,c,d,e]:yL yU)[3]? =ab d from rfl,ya,show([a,b,c,d,e]:yL yU)[4]? =ab e from rfl,ya,OZ (by decide) (by simp) (by
  intro l f;simp only[ybp,List.not_mem_nil,or_false]at f;rcases f with rfl|rfl
  .omega
  .simp),ya]
noncomputable def eX(k:dE):bn:=(B k.1.toNat,B k.2.1.toNat,B k.2.2.1.toNat,B k.2.2.2.1.toNat,B k.2.2.2.2.1.toNat)
theorem ZEB(k:dE):yA yD k=ab (eX k):=by
 unfold yA;rw[tT,ya,tT,ya,tT,ya,tT,ya,tT,ya];rfl
structure kp(x:aC):Prop where
 s2:x.1.length=2
 s32:∀a,a∈x.1->List.length a=32
 t2:x.2.1.length=2
 h2:x.2.2.1.length=2
 hb:∀a,a∈x.2.2.1-> -9223372036854775808<=a/\a<=9223372036854775807
 ob: -9223372036854775808<=x.2.2.2.1/\x.2.2.2.1<=9223372036854775807
abbrev cU:yL yB:=dt
theorem Ztl{x:aC}{i:Int}(l:ag (i < 2)=ae)(h1:bi i 2=ae){seed:yL yB}(hs:x.1[i.toNat]? =ab seed){m:Int}(hm:x.2.2.1[i.toNat]? =ab m){g:dE}(z:tL yD seed=ab g)(j:Chan)(z2:yL dE)(z3:yG)
 {kits:yL dE} (f:i.toNat < kits.length) {ch:Chan} (hb:i.toNat < ch.2.2.1.length):(0<=m/\m<=1099511627776->Yt yD (i,x,j,z2,z3,kits,ch)=ab (.inl (wi (i+1),x,j,z2,z3,kits.set i.toNat g,(ch.1,wi (ch.2.1+m),ch.2.2.1.set i.toNat (eX g),ch.2.2.2.1,ch.2.2.2.2))))/\
  (¬(0<=m/\m<=1099511627776)->∃y,Yt yD (i,x,j,z2,z3,kits,ch)=ab (.inr (.inl (af,y)))):=by
 unfold Yt;dsimp only;rw[yW l,yW h1,hs,ya,z,ya,yW h1,yab f,ya,yW h1,List.getElem?_set_self f,ya,ZEB,ya,yW h1,yab hb,ya,yW h1,hm,ya];constructor
 .intro h;rw[yX (dj (by omega)),yW h1,ya,yX (dj (by omega)),yW h1,ya]
 .intro h;by_cases c:m < 0
  .rw[yW (yY c)];exact⟨_,rfl⟩
  .rw[yX (by rw[yN];exact c),yW h1,ya,yW (yY (by omega))];exact⟨_,rfl⟩
structure oN(x:aC)(ch:Chan)(kits:List dE)(s:yG):Prop where
 kt:∃k0 k1,kits=[k0,k1]/\oM k0/\oM k1/\ch.2.2.1=[eX k0,eX k1]
 PY:ch.1=(cU,0)
 wf:dV ch
 right:au yD ch s=ab ae
 st:iD ch s
 h2:s.2.1.length=2
 few:s.2.2.1.length<=8
theorem ZEC{x:aC}{ch:Chan}(w:dV ch)(hl:x.2.2.2.2.2.length<=8)(f:Chan)(z2:yL dE)(z3:yG)(kits:yL dE){s:yG}(j:au yD ch s=ab ae)(hs:s.2.1.length=2)(E:s.2.2.1.length=0):
 ∃t,Zc (YO yD) yD ((0:Int),x,f,z2,z3,kits,ch,s)=ab (x,f,z2,z3,kits,ch,t)/\au yD ch t=ab ae/\t.2.1.length=2/\t.2.2.1.length<=8:=by
 obtain⟨_,e,t,rfl,h⟩:=XH (step:=YO yD) x.2.2.2.2.2.length (λk u=>∃t:yG,u=((k:Int),x,f,z2,z3,kits,ch,t)/\au yD ch t=ab ae/\t.2.1.length=2/\t.2.2.1.length<=k)
  (λu=>∃t:yG,u=(x,f,z2,z3,kits,ch,t)/\au yD ch t=ab ae/\t.2.1.length=2/\t.2.2.1.length<=8) (i:=((0:Int),x,f,z2,z3,kits,ch,s)) ⟨s,rfl,j,hs,by omega⟩ (by omega) (by
    rintro k _ g ⟨t,rfl,t1,t2,t3⟩;obtain⟨c,l,_⟩:=Zj g;obtain⟨u,e,m,y⟩:=ZL4 w t2 c;unfold YO;dsimp only;rw[yW (Zw g),Zn l,ya,m,ya];dsimp only;by_cases h:e=0
    .rw[yW (beq_iff_eq.2 h),Zr (by omega)];obtain⟨z,_,A,F⟩:=y h;exact .inl ⟨_,rfl,u,rfl,z,A,by omega⟩
    .rw[yX (by rw[yT];exact h),Zr (by omega)];exact .inl ⟨_,rfl,t,rfl,t1,t2,by omega⟩) (by
    rintro _ ⟨t,rfl,t1,t2,t3⟩;unfold YO;dsimp only;rw[yX (by rw[Zy];decide)];exact⟨_,rfl,t,rfl,t1,t2,by omega⟩)
 exact⟨t,e,h⟩
theorem ZED{x:aC}(j:kp x):∃r,VD yD x=ab r/\(r.2.2.2=ae->oN x r.1 r.2.1 r.2.2.1):=by
 obtain⟨s0,s1,hs⟩:=jt j.s2;obtain⟨f,g,E⟩:=jt j.h2;obtain⟨l,F,G⟩:=ZHI (j.s32 s0 (by rw[hs];simp));obtain⟨z,I,J⟩:=ZHI (j.s32 s1 (by rw[hs];simp));have b0:=j.hb f (by rw[E];simp);have b1:=j.hb g (by rw[E];simp);unfold VD;have M:=Ztl (x:=x) (i:=0) (by decide) (by decide) (seed:=s0) (by rw[hs];rfl) (m:=f) (by rw[E];rfl) F ((cU,0),0,[(0,0,0,0,0),(0,0,0,0,0)],[(0,0,0,0,0,0),(0,0,0,0,0,0)],0) [(0,0,0,0,0,cU),(0,0,0,0,0,cU)] (0,[0,0],[],0) (kits:=[(0,0,0,0,0,cU),(0,0,0,0,0,cU)]) (by decide) (ch:=((cU,0),0,[(0,0,0,0,0),(0,0,0,0,0)],x.2.1,x.2.2.2.1)) (by show(0:Nat) < 2;decide);by_cases Q:0<=f/\f<=1099511627776
 case neg=>
  obtain⟨y,R⟩:=M.2 Q;rw[qq R,ya];exact⟨_,rfl,λh=>absurd (show af=ae from h) (by decide)⟩
 have W:=Ztl (x:=x) (i:=1) (by decide) (by decide) (seed:=s1) (by rw[hs];rfl) (m:=g) (by rw[E];rfl) I ((cU,0),0,[(0,0,0,0,0),(0,0,0,0,0)],[(0,0,0,0,0,0),(0,0,0,0,0,0)],0) [(0,0,0,0,0,cU),(0,0,0,0,0,cU)] (0,[0,0],[],0) (kits:=[l,(0,0,0,0,0,cU)]) (by show(1:Nat) < 2;decide) (ch:=((cU,0),wi (0+f),[eX l,(0,0,0,0,0)],x.2.1,x.2.2.2.1)) (by show(1:Nat) < 2;decide);by_cases X:0<=g/\g<=1099511627776
 case neg=>
  obtain⟨y,R⟩:=W.2 X;rw[up (M.1 Q) R,ya];exact⟨_,rfl,λh=>absurd (show af=ae from h) (by decide)⟩
 have e0:wi (0+f)=f:=by rw[ZJ (by omega) (by omega)];omega
 have e1:wi (wi (0+f)+g)=f+g:=by rw[e0,ZJ (by omega) (by omega)]
 have r2:Yt yD ((2:Int),x,(((cU,0),0,[(0,0,0,0,0),(0,0,0,0,0)],[(0,0,0,0,0,0),(0,0,0,0,0,0)],0):Chan),([(0,0,0,0,0,cU),(0,0,0,0,0,cU)]:yL dE),((0,[0,0],[],0):yG),[l,z],(((cU,0),wi (wi (0+f)+g),[eX l,eX z],x.2.1,x.2.2.2.1):Chan))=ab (.inr (.inr (x,((cU,0),0,[(0,0,0,0,0),(0,0,0,0,0)],[(0,0,0,0,0,0),(0,0,0,0,0,0)],0),[(0,0,0,0,0,cU),(0,0,0,0,0,cU)],(0,[0,0],[],0),[l,z],((cU,0),wi (wi (0+f)+g),[eX l,eX z],x.2.1,x.2.2.2.1)))):=by
  unfold Yt;dsimp only;rw[yX (show¬(ag ((2:Int) < 2)=ae) by decide)]
 rw[na (M.1 Q) (W.1 X) r2,ya,e1];dsimp only;generalize S:(((cU,0),f+g,[eX l,eX z],x.2.1,x.2.2.2.1):Chan)=ch
 have w:dV ch:=by
  subst S;exact⟨rfl,j.t2,by show-9223372036854775808<=f+g;omega,by show f+g<=9223372036854775807;omega,by show-9223372036854775808<=(0:Int);decide,by show(0:Int)<=9223372036854775807;decide,j.ob.1,j.ob.2⟩
 have hf:ch.1=(cU,0):=by subst S;rfl
 have T:ch.2.2.1=[eX l,eX z]:=by subst S;rfl
 by_cases Y:(x.2.2.2.2.2.length:Int) > 8
 .rw[yW (yY Y)];exact⟨_,rfl,λh=>absurd (show af=ae from h) (by decide)⟩
 rw[yX (by rw[yN];exact Y)];have Z:((0,x.2.2.1,[],x.2.2.2.2.1):yG).2.1.length=2:=j.h2;obtain⟨b,g1,_,_⟩:=ua w Z;rw[g1,ya]
 cases b with
 |false=>
  rw[yW (by decide)]
  exact⟨_,rfl,λh=>absurd (show af=ae from h) (by decide)⟩
 |true=>
  rw[yX (by decide)];obtain⟨t,t1,t2,t3,t4⟩:=ZEC (x:=x) w (by omega) ((cU,0),0,[(0,0,0,0,0),(0,0,0,0,0)],[(0,0,0,0,0,0),(0,0,0,0,0,0)],0) [(0,0,0,0,0,cU),(0,0,0,0,0,cU)] (0,[0,0],[],0) [l,z] g1 Z rfl;rw[t1,ya];dsimp only;refine⟨_,rfl,λ_=>⟨⟨l,z,rfl,G,J,T⟩,hf,w,t2, ?_,t3,t4⟩⟩;obtain⟨b',A,_,U⟩:=ua w t3;rw[t2]at A;exact U (ybl A).symm
theorem ZEE{a:yL yU}(h:a.length<=1000000):zp yD a a=ab ae:=by
 unfold zp;rw[yX (by simp)]
 have g:=Zz (step:=Ve yD) a.length (λk:Nat=>(a,a,(a.length:Int),(k:Int))) (x:=.inr ()) (by
  intro k f;obtain⟨e,j,_⟩:=Zj f;unfold Ve;dsimp only;rw[yW (Zw f),Zn j,ya,ya,yX (by simp),Zr (by omega)]) (by
  unfold Ve;dsimp only;rw[yX (by rw[Zy];decide)]) (by omega)
 rw[show((0:Nat):Int)=0 from rfl]at g
 rw[g,ya]
theorem ZJJ{a:ZR}(h:a.1.length<=1000000):zq yD a a=ab ae:=by
 unfold zq;rw[ZEE h,ya,yW rfl,yW (beq_self_eq_true _),yW (beq_self_eq_true _),beq_self_eq_true]
theorem ZJK{l:Z4}(h:Wg l):zr yD l l=ab ae:=by
 have y:=h.2.1;unfold zr NM;rw[yX (by simp)]
 have g:=Zz (step:=QL yD) l.length (λk:Nat=>(l,l,(l.length:Int),(k:Int))) (x:=.inr ()) (by
  intro k f;obtain⟨e,j,m⟩:=Zj f;have:=(h.2.2 e m).1;unfold QL;dsimp only;rw[yW (Zw f),Zn j,ya,ya,ZJJ (by omega),ya,yX (by decide),Zr (by omega)]) (by
  unfold QL;dsimp only;rw[yX (by rw[Zy];decide)]) (by omega)
 rw[show((0:Nat):Int)=0 from rfl]at g
 rw[g,ya,ya]
theorem ZJL(g h:bn):Wg (WZ g h):=by
 refine⟨by simp[WZ],by simp[WZ],λq f=> ?_⟩;unfold WZ at f;rw[ybc.1 f];exact⟨by simp,show(0:Int)<=0 by decide,show(0:Int)<=1048576 by decide,show(0:Int)<=0 by decide,show(0:Int)<=1048576 by decide⟩
theorem ZBC{ch:Chan}(w:dV ch){s:yG}(h:au yD ch s=ab ae)(st:iD ch s){id:yL yB}{n:Int}(hn:0<=n/\n<=63){c2:Chan}(hc:c2=((id,n),ch.2)):au yD c2 s=ab ae/\iD c2 s/\dV c2:=by
 subst hc;have g:dV (((id,n),ch.2):Chan):=⟨w.b,w.t,w.a0,w.a1,by show-9223372036854775808<=n;omega,by show n<=9223372036854775807;omega,w.o0,w.o1⟩;obtain⟨t0,t1,j⟩:=jt w.t;have f:iD (((id,n),ch.2):Chan) s:=⟨st.am,hn,st.op,st.side,st.no,st.fM,st.rate,st.len,st.conds,st.sides⟩;exact⟨ZzW g (ZL1 g (t0:=t0) (t1:=t1) j st.am hn st.op st.side (ZJE w j (Zvr w h))) f,f,g⟩
end Go.Proofs.YtcbhhaigilifgaaGreat
end
section
namespace Go.Ev
open Go.RowKit
abbrev Wd(ro:yO Nat):Fence:={ Fence.wide with round:=ro}
section
variable{P:yg}{ro:yO Nat}{n:Nat}
theorem ZJM{row:String}{args:Array yh}{w:yr}{R:yh->yr->Prop}(h:Rows P row args w R):RowsIn (Wd ro) n P row args w R:=
 λc f _=>let ⟨v,g,r,s⟩:=h c f;⟨v,g,r,stepsIn_wide.2 s⟩
theorem ZHJ{f:FuncId}{args:Array yh}{w:yr}{R:Ending->yr->Prop}(h:Calls P f args w R):CallsIn (Wd ro) n P f args w R:=(callsIn_wide (n:=n)).2 h
theorem PZ{o:yj}{a0 a:Act}{w:yr}{K:Act->yr->Prop}{Q:Exit->Act->yr->Prop}(m:∀c,o.op≠ .defer c)(ht:a.tmps=a0.tmps)
 (h:o.wp P a0 w (λa1 w1=>a1.defers=a0.defers/\K { a1 with defers:=a.defers} w1) (λe a1 w1=>Q e { a1 with defers:=a.defers} w1)):o.wpIn (Wd ro) n P a w K Q:=by
 unfold Oper.wpIn;refine⟨λf _=>trivial, ?_⟩;rw[Oper.semAt_plain _ _ _ m]
 have j:a.eval=a0.eval:=by
  cases a;cases a0;simp only at ht;subst ht;rfl
 have g:∀v,a.put o.dst v={ a0.put o.dst v with defers:=a.defers}:=by
  intro v;cases a;cases a0;simp only at ht;subst ht;unfold Act.put;grind
 have E:{ a0 with defers:=a.defers}=a:=by
  cases a;cases a0;grind
 rw[j];unfold Oper.wp at h;generalize (execOp a0.eval o).run P w=r at h ⊢
 cases r with
 |ok x F=>
  cases x with
  |value v=>simp only[Oper.upon,Oper.uponIn]at h ⊢;rw[g];exact h.2
  |skip=>simp only[Oper.upon,Oper.uponIn]at h ⊢;rw[g];exact h.2
  |defer d=>
   simp only[Oper.upon]at h;have z:=h.1;unfold Act.put at z
   cases G:o.dst <;> rw[G]at z <;> simp at z
  |enter f y=>
   simp only[Oper.upon,Oper.uponIn]at h ⊢;refine⟨λA=>by simp[Fence.wide]at A,ZHJ (Calls.mono h λe l j=> ?_)⟩
   cases e with
   |returned v=>
    show K (a.put o.dst v) l;rw[g]
    exact j.2
   |panicked c=>
    have j:Q (Exit.panic c) { a0 with defers:=a.defers} l:=j;rw[E]at j
    exact j
   |outgrown=>
    obtain⟨a1,w1,q⟩:=j
    exact⟨_,_,q⟩
  |row row y=>
   simp only[Oper.upon,Oper.uponIn]at h ⊢;refine⟨λA=>by simp[Fence.wide]at A,ZJM (Rows.mono h λv l j=> ?_)⟩;rw[g]
   exact j.2
  |_=>exact h.elim
 |halt x F=>
  cases x <;> simp only[Oper.upon,Oper.uponIn]at h ⊢
  all_goals first|exact h|(rw[E]at h;exact h)
theorem RA{o:yj}{a:Act}{σ:Sg}{d:Dv}{H':yL aq}{K:Act->yr->Prop}{Q:Exit->Act->yr->Prop}(f:∀c,o.op≠ .defer c)(h:YL P o { a with defers:=[]} σ d H')
 (g:∀v σ',σ'.H=H'->To σ σ'->Ok σ'->yJ σ' d v->K (a.put o.dst v) σ'.w):o.wpIn (Wd ro) n P a σ.w K Q:=
 PZ (a0:={ a with defers:=[]}) f rfl (h _ _ λv σ' e to j l=>by
  refine⟨by unfold Act.put;cases o.dst <;> rfl, ?_⟩;have:({ ({ a with defers:=[]}:Act).put o.dst v with defers:=a.defers}:Act)=a.put o.dst v:=by unfold Act.put;cases o.dst <;> rfl
  rw[this];exact g v σ' e to j l)
def iV(o:yj):Bool:=match o.op with
 |.defer _=>af
 |_=>ae
theorem qy{o:yj}(h:iV o=ae):∀c,o.op≠ .defer c:=λc e=>by
 unfold iV at h;grind
theorem QR{a:Act}{d:yO Tmp}{v:yh}:(a.put d v).defers=a.defers:=by
 unfold Act.put;grind
theorem RB{a:Act}{d:yO Tmp}{v:yh}:({ a with defers:=[]}:Act).put d v={ a.put d v with defers:=[]}:=by
 unfold Act.put;grind
theorem RC{ops:Array yj}(T:yL Nat){Q:Exit->Act->yr->Prop}{ts':yL Dv}{yK:yL yj}:∀(l:yL yj)(ts:yL Dv)(σ:Sg)(a:Act)(hs hs':yL ao)(C:yL Prop)(H':yL aq),
 Ok σ->aD σ ts { a with defers:=[]}->cA P ops l ts σ.H hs=ab (C,ts',H',hs')->aX C->l.all iV=ae->l.all (λo=>match o.dst with|some d=> !T.contains d|none=>ae)=ae->
 (∀A σ',(∀t,t∈T->A.tmps[t]? =a.tmps[t]?)->σ'.H=H'->To σ σ'->Ok σ'->aD σ' ts' { A with defers:=[]}->A.defers=a.defers->wpListIn (Wd ro) n P ops Q yK A σ'.w)->wpListIn (Wd ro) n P ops Q (l++yK) a σ.w
 |[],ts,σ,a,hs,hs',C,H',I,J,h,hc,E,M,R=>by
  simp only[cA,Option.some.injEq,yq]at h;obtain⟨rfl,rfl,rfl,rfl⟩:=h
  exact R a σ (λ_ _=>rfl) rfl (To.refl σ) I J rfl
 |o::l,ts,σ,a,hs,hs',C,H',I,J,h,hc,E,M,R=>by
  simp only[cA]at h;split at h
  .rename_i C1 d H1 S h1;split at h
   .rename_i C2 ts2 H2 U h2;simp only[Option.some.injEq,yq]at h;obtain⟨rfl,rfl,rfl,rfl⟩:=h;obtain⟨c1,c2⟩:=Zl.1 hc;simp only[List.all_cons,yi]at E M
    have W:∀v t,t∈T->(a.put o.dst v).tmps[t]? =a.tmps[t]? :=by
     intro v t X;unfold Act.put;grind
    have next:∀v σ',σ'.H=H1->To σ σ'->Ok σ'->aD σ' (fS ts o.dst d) (({ a with defers:=[]}:Act).put o.dst v)->wpListIn (Wd ro) n P ops Q (l++yK) (a.put o.dst v) σ'.w:=by
     intro v σ' Y to j g;rw[RB]at g;refine RC T l _ σ' _ S U C2 H2 j g (by rw[Y];exact h2) c2 E.2 M.2 λA σ2 hk e2 Z ok2 m hd=> ?_;exact R A σ2 (λt X=>(hk t X).trans (W v t X)) e2 (to.trans Z) ok2 m (by rw[hd,QR])
    show if Region.wanted o (yielded ops a.tmps) then _ else _
    have y:=vj (P:=P) (ops:=ops) I J h1 c1 (λF w1=>F.defers=[]/\wpListIn (Wd ro) n P ops Q (l++yK) { F with defers:=a.defers} w1) (λe F w1=>Q e { F with defers:=a.defers} w1) (λv σ' Y to j g=>by
     refine⟨QR, ?_⟩;have:=next v σ' Y to j g
     have e:({ ({ a with defers:=[]}:Act).put o.dst v with defers:=a.defers}:Act)=a.put o.dst v:=by unfold Act.put;cases o.dst <;> rfl
     rw[e];exact this)
    by_cases G:Region.wanted o (yielded ops a.tmps)=ae
    .rw[yW G];have z:Region.wanted o (yielded ops ({ a with defers:=[]}:Act).tmps)=ae:=G;rw[yW z]at y;exact PZ (a0:={ a with defers:=[]}) (qy E.1) rfl y
    .rw[yX G];have z:¬Region.wanted o (yielded ops ({ a with defers:=[]}:Act).tmps)=ae:=G;rw[yX z]at y;refine⟨λf _=>trivial, ?_⟩;have e:({ ({ a with defers:=[]}:Act).put o.dst undef with defers:=a.defers}:Act)=a.put o.dst undef:=by unfold Act.put;cases o.dst <;> rfl
     simp_all
   .cases h
  .cases h
theorem uw{ops:Array yj}(T:yL Nat){Q:Exit->Act->yr->Prop}{ts':yL Dv}(l:yL yj)(ts:yL Dv)(σ:Sg)(a:Act)(hs hs':yL ao)(C:yL Prop)(H':yL aq)
 (ok:Ok σ) (g:aD σ ts { a with defers:=[]}) (h:cA P ops l ts σ.H hs=ab (C,ts',H',hs')) (hc:aX C) (hl:l.all iV=ae) (hT:l.all (λo=>match o.dst with|some d=> !T.contains d|none=>ae)=ae)
 (j:∀f σ',(∀t,t∈T->f.tmps[t]? =a.tmps[t]?)->σ'.H=H'->To σ σ'->Ok σ'->aD σ' ts' { f with defers:=[]}->f.defers=a.defers->Q .normal f σ'.w):wpListIn (Wd ro) n P ops Q l a σ.w:=by
 have:=RC (P:=P) (ro:=ro) (n:=n) (ops:=ops) (Q:=Q) (yK:=[]) T l ts σ a hs hs' C H' ok g h hc hl hT j;grind
def bD(P:yg)(ro:yO Nat)(c:Code)(ts:yL Dv)(H:yL aq)(ex:Ex)(ts':yL Dv)(H':yL aq):Prop:=
 ∀(n:Nat)(σ:Sg)(a:Act),Ok σ->σ.H=H->aD σ ts { a with defers:=[]}->
  c.wpIn (Wd ro) n P (λe g h=>e=ex.to/\g.defers=a.defers/\∃f,f.w=h/\f.H=H'/\To σ f/\Ok f/\aD f ts' { g with defers:=[]}) a σ.w
theorem Y6{ops:Array yj}{id:Nat}{ts ts':yL Dv}{H H':yL aq}{hs hs':yL ao}{C:yL Prop}(h:cA P ops ops.toList ts H hs=ab (C,ts',H',hs'))(hc:aX C)(hl:ops.toList.all iV=ae):
 bD P ro (.region id ops af) ts H .normal ts' H':=λn σ a j l m=>
 wpIn_region_list (uw [] ops.toList ts σ a hs hs' C H' j m (by rw[l];exact h) hc hl (by rw[yal];intro o _;cases o.dst <;> rfl) λA y _ e to g f z=>⟨rfl,z,y,rfl,e,to,g,f⟩)
theorem ZJN{ops:Array yj}{id:Nat}{l:yL yj}{o:yj}{ts ts1:yL Dv}{H H1 H':yL aq}{hs:yL ao}{C:yL Prop}{d:Dv}(hl:ops.toList=l++[o])(h:cA P ops l ts H hs=ab (C,ts1,H1,[]))(hc:aX C)(hn:l.all iV=ae)
 (F:o.guard=ad) (hd:iV o=ae) (j:∀(σ:Sg)(a:Act),Ok σ->σ.H=H1->aD σ ts1 a->YL P o a σ d H'):bD P ro (.region id ops af) ts H .normal (fS ts1 o.dst d) H':=λn σ a G I J=>by
 refine wpIn_region_list ?_;rw[hl];refine RC [] l ts σ a hs [] C H1 G J (by rw[I];exact h) hc hn (by rw[yal];intro o _;cases o.dst <;> rfl) λM Q _ R m y f z=> ?_;refine wpListIn_plain F λK S=> ?_;refine RA (qy hd) (j Q { M with defers:=[]} y R f) λv T U g A W=>S _ _ ?_;have E:=kD (o:=o) (f.to g.leaf) W;rw[RB]at E;exact⟨rfl,QR.trans z,T,rfl,U,m.trans g,A,E⟩
theorem iW{x y:Code}{ts ts1 ts':yL Dv}{H H1 H':yL aq}{ex:Ex}(h:bD P ro x ts H .normal ts1 H1)(k:bD P ro y ts1 H1 ex ts' H'):bD P ro (.seq x y) ts H ex ts' H':=λn σ a E F G=>by
 refine wpIn_seq (wpIn_mono (h n σ a E F G) ?_);rintro e I w1 ⟨rfl,J,M,rfl,Q,j,l,f⟩;refine wpIn_mono (k n M I l Q f) ?_;rintro e T U ⟨rfl,m,R,rfl,S,z,A,g⟩;exact⟨rfl,m.trans J,R,rfl,S,j.trans z,A,g⟩
theorem ZJO{x y:Code}{ts ts':yL Dv}{H H':yL aq}{ex:Ex}(h:bD P ro x ts H ex ts' H')(l:ex≠ .normal):bD P ro (.seq x y) ts H ex ts' H':=λn σ a E F G=>by
 refine wpIn_seq (wpIn_mono (h n σ a E F G) ?_);rintro e I w1 ⟨rfl,m,z,rfl,A,g,j,f⟩
 cases ex with
 |normal=>exact absurd rfl l
 |exit id=>exact⟨rfl,m,z,rfl,A,g,j,f⟩
 |ret=>exact⟨rfl,m,z,rfl,A,g,j,f⟩
theorem ux{t:Tmp}{x y:Code}{b:Bool}{ts ts':yL Dv}{H H':yL aq}{ex:Ex}(hb:ts[t]? =ab (.p (.bool b)))(h:bD P ro (if b then x else y) ts H ex ts' H'):bD P ro (.cond (.tmp t) x y) ts H ex ts' H':=λn σ a g j f=>
 wpIn_cond (t:=b) (Yn (f.at_ t _ hb)) (h n σ a g j f)
theorem RD{ts:yL Dv}{H:yL aq}:bD P ro .skip ts H .normal ts H:=λn σ a f g h=>wpIn_skip ⟨rfl,rfl,σ,rfl,g,To.refl σ,f,h⟩
theorem RE{ts:yL Dv}{H:yL aq}:bD P ro .ret ts H .ret ts H:=λn σ a f g h=>wpIn_ret ⟨rfl,rfl,σ,rfl,g,To.refl σ,f,h⟩
theorem RF{id:Nat}{c:Code}{ts ts':yL Dv}{H H':yL aq}{ex:Ex}(h:bD P ro c ts H ex ts' H')(m:∀j,ex≠ .exit j):bD P ro (.block id c) ts H ex ts' H':=λn σ a E F G=>by
 refine wpIn_block (wpIn_mono (h n σ a E F G) ?_);rintro e I w1 ⟨rfl,y,z,rfl,A,g,l,f⟩
 cases ex with
 |normal=>exact⟨rfl,y,z,rfl,A,g,l,f⟩
 |exit id=>exact absurd rfl (m id)
 |ret=>exact⟨rfl,y,z,rfl,A,g,l,f⟩
end
end Go.Ev
namespace Go.Ev
open Go.RowKit
theorem Zvs{σ:Sg}{l:Nat}{o:Obj}(o':Obj)(ok:Ok σ)(hn:∀(id:Nat),σ.m[id]? ≠ab (ab l))(ho:σ.w.heap[l]? =ab o)(hc:o.isCells=af):
 ck σ { σ with w:=σ.w.putObj l o'}/\Ok { σ with w:=σ.w.putObj l o'}:=by
 have j:∀b,b≠l->(σ.w.putObj l o').heap[b]? =σ.w.heap[b]? :=λb j=>World.putObj_heap_other j;have F:∀(id b:Nat),σ.m[id]? =ab (ab b)->(σ.w.putObj l o').heap[b]? =σ.w.heap[b]? :=λid b h=>j b λe=>hn id (e ▸ h)
 have y:ck σ { σ with w:=σ.w.putObj l o'}:=by
  refine⟨λb x v f g=>⟨?_,g⟩,λid b f g=>⟨f,g⟩,λid s len A c f=> ?_,λid b f g=>⟨f,g⟩,λid v s st e d h=>⟨v,st,d,h,ym _,λ_=>⟨rfl,λb z j hc=>⟨z,(F id b j).trans hc,rfl⟩⟩⟩⟩
  .show(σ.w.putObj l o').cell? ⟨b,x,ad⟩=ab v
   have E:b≠l:=λe=>by
    subst e;unfold World.cell? at f;rw[ho]at f;cases o <;> simp_all[Obj.isCells]
   rw[World.cell?_of_block (w:=σ.w) (j b E)];exact f
  .obtain⟨e,I,g,J,M⟩:=f;refine⟨e,I,g,J,λQ=> ?_⟩
   all_goals grind
 exact⟨y,⟨ok.len,ok.inj,λi b h=>by show b < (σ.w.putObj l o').heap.size;rw[World.putObj_size];exact ok.lt i b h,λi e a f g=>nB y (λb j=>F i b (by rw[g,j])) (ok.dF i e a f g),
  λb h=>ok.new b (by have G:(σ.w.putObj l o').heap.size<=b:=h;rw[World.putObj_size]at G;exact G),ok.own⟩⟩
structure St(σb:Sg)(l D:Nat)(r:Loop)(σ:Sg):Prop where
 to:To σb σ
 ok:Ok σ
 bl:σb.w.heap.size<=l
 bd:σb.w.heap.size<=D
 ne:D≠l
 nl:∀(id:Nat),σ.m[id]? ≠ab (ab l)
 nd:∀(id:Nat),σ.m[id]? ≠ab (ab D)
 hl:σ.w.heap[l]? =ab (.loop r)
 hd:σ.w.heap[D]? =ab (.deferred (ab []))
theorem AP{σ σ':Sg}(to:To σ σ'){b:Nat}(hb:b < σ.w.heap.size)(hn:∀(id:Nat),σ.m[id]? ≠ab (ab b)):∀(id:Nat),σ'.m[id]? ≠ab (ab b):=λid h=>by
 rcases to.same id b h with h1|h1
 all_goals grind
theorem oO{w:yr}{b:Nat}{o:Obj}(h:w.heap[b]? =ab o):b < w.heap.size:=(yco.1 h).1
theorem St.step{σb σ σ':Sg}{l D:Nat}{r:Loop}(h:St σb l D r σ)(to:To σ σ')(ok:Ok σ'):St σb l D r σ' where
 to:=h.to.trans to
 ok:=ok
 bl:=h.bl
 bd:=h.bd
 ne:=h.ne
 nl:=AP to (oO h.hl) h.nl
 nd:=AP to (oO h.hd) h.nd
 hl:=(to.block l (oO h.hl) h.nl).trans h.hl
 hd:=(to.block D (oO h.hd) h.nd).trans h.hd
theorem St.turn{g σ:Sg}{l D:Nat}{r:Loop}(h:St g l D r σ)(r':Loop):St g l D r' { σ with w:=σ.w.putObj l (.loop r')}/\ck σ { σ with w:=σ.w.putObj l (.loop r')}:=by
 obtain⟨f,j⟩:=Zvs (.loop r') h.ok h.nl h.hl rfl;refine⟨⟨⟨h.to.leaf.trans f,h.to.F,h.to.B,h.to.os,h.to.tape,h.to.output, ?_,λb m y=> ?_,h.to.same,h.to.len⟩,j,h.bl,h.bd,h.ne,h.nl,h.nd, ?_, ?_⟩,f⟩
 .show _<=(σ.w.putObj l (.loop r')).heap.size;rw[World.putObj_size];exact h.to.size
 .have:b≠l:=by have:=h.bl;omega
  exact(World.putObj_heap_other this).trans (h.to.block b m y)
 .exact World.putObj_heap_same (oO h.hl)
 .exact(World.putObj_heap_other h.ne).trans h.hd
theorem St.drop{f σ:Sg}{l D:Nat}{r:Loop}{H:yL aq}(h:St f l D r σ)(y:Ok f)(keep:yL Nat)(ho:once (yo f.H.length++keep)=ae)(g:aP σ.H (yo f.H.length++keep) (yo f.H.length++keep)=ab H):
 St f l D r (gC σ (yo f.H.length++keep) H):=by
 have z:∀b,(∀(id:Nat),σ.m[id]? ≠ab (ab b))->∀(id:Nat),(gC σ (yo f.H.length++keep) H).m[id]? ≠ab (ab b):=λb A id e=>by
  obtain⟨j,_,E⟩:=nO e;exact A j E
 exact⟨pj y h.to ho g,pi h.ok ho g,h.bl,h.bd,h.ne,z l h.nl,z D h.nd,h.hl,h.hd⟩
section
variable{P:yg}{n:Nat}
theorem ZHL{T σ:Sg}{l D:Nat}{r:Loop}{tsR ts1 I:yL Dv}{H H1 H2:yL aq}{ex:Ex}{tmps:Array yh}(st:St T l D r σ)(J:r.state=.ready)(hH:σ.H=H)(Z:aD σ tsR { tmps:=tmps,defers:=[]})
 (ha:bD P (ab l) r.assign tsR H .normal ts1 H1) (hb:bD P (ab l) r.body ts1 H1 ex I H2) (M:ex=.normal\/ex=.ret) (R:Ending->yr->Prop)
 (U:∀σ',St T l D { r with state:=if ex=.normal then .ready else .done,pending:=if ex=.normal then ad else ab .ret} σ'->ck σ σ'->σ'.H=H2->R (.returned (.bool (ag (ex=.normal)))) σ'.w):
 RoundIn (Wd ad) n P l r.fn tmps r.assign r.body σ.w R:=by
 refine roundIn_of_wpIn trivial ?_;refine wpIn_mono (ha n σ _ st.ok hH Z) ?_;rintro e a1 w1 ⟨rfl,hd1,W,rfl,e1,y,Q,z⟩;have A:=st.step y Q;obtain⟨E,g⟩:=A.turn { r with state:=.busy};refine⟨_,run_beginRound A.hl J, ?_⟩;refine wpIn_mono (hb n { W with w:=W.w.putObj l (.loop { r with state:=.busy})} a1 E.ok e1 (z.to g)) ?_;rintro e a2 w3 ⟨rfl,hd2,F,rfl,X,G,S,Y⟩;have j:=E.step G S;have h:ck σ F:=(y.leaf.trans g).trans G.leaf;rcases M with rfl|rfl
 .obtain⟨m,f⟩:=j.turn { r with state:=.ready,pending:=ad};exact⟨_,_,run_endRound ad j.hl,U { F with w:=F.w.putObj l (.loop { r with state:=.ready,pending:=ad})} m (h.trans f) X⟩
 .obtain⟨m,f⟩:=j.turn { r with state:=.done,pending:=ab .ret};exact⟨_,_,run_endRound (ab .ret) j.hl,U { F with w:=F.w.putObj l (.loop { r with state:=.done,pending:=ab .ret})} m (h.trans f) X⟩
theorem ZJP{F:Fence}{ops:Array yj}{id:Nat}{a:Act}{w:yr}{Q:Exit->Act->yr->Prop}(hm:P.follows .mixedOrders=ae)(z:QU ops.toList 0=ae)(Inv:(Nat->Bool)->Act->yr->Prop)
 (h0:Inv (λ_=>af) a { w with drawn:=w.drawn+1})
 (step:∀(X:Nat->Bool)(i:Nat)(o:yj)(a:Act)(w:yr),ops[i]? =ab o->X i=af->(∀e,e∈o.after->Region.binds .any e=ae->X e.on=ae)->jI ops X->Inv X a w->
   o.guard=ad/\∀(K:Act->yr->Prop),(∀A w',Inv (λj=>X j || decide (j=i)) A w'->K A w')->o.wpIn F n P a w K Q)
 (hQ:∀X A w',(∀j,j < ops.size->X j=ae)->Inv X A w'->Q .normal A w'):(Code.region id ops ae).wpIn F n P Q a w:=by
 refine wpIn_region_any hm ?_
 have R:∀(yD:Nat)(f:Array Bool)(a:Act)(w:yr),f.size=ops.size->gQ (λj=>f.getD j af) ops.size<=yD->jI ops (λj=>f.getD j af)->
  Inv (λj=>f.getD j af) a w->wpAnyIn F n P .any ops Q yD f a w:=by
  intro yD
  induction yD with
  |zero=>
   intro f a w S E G g;have Z:=vq (Nat.le_zero.1 E);refine⟨?_,hQ _ a w Z g⟩;apply List.eq_nil_iff_forall_not_mem.2;intro j l;obtain⟨h1,o,M,_⟩:=mem_ready.1 l;have hjn:j < ops.size:=(yco.1 M).1;have h2:=Z j hjn;have T:j < f.size:=by omega
   simp only[Array.getD,T,dif_pos]at h1 h2;rw[h1]at h2
   cases h2
  |succ yD ih=>
   intro f a w S E G g;refine⟨λhr=> ?_,λi hi=> ?_⟩
   .have Z:∀j,j < ops.size->f.getD j af=ae:=by
     intro j
     induction j using Nat.strongRecOn with
     |_ j ihj=>
      intro l
      cases hx:f.getD j af with
      |true=>rfl
      |false=>
       have T:j < f.size:=by omega
       have hjo:ops[j]? =ab ops[j]:=ycl l
       have:j∈Region.ready .any ops f:=by
        refine mem_ready.2 ⟨?_,ops[j],hjo,λe he hb=> ?_⟩
        .grind
        .have hlt:=vu ops.toList 0 z j ops[j] (by simp) e he hb;grind
       rw[hr]at this;cases this
    exact hQ _ a w Z g
   .obtain⟨h1,o,M,h⟩:=mem_ready.1 hi;have hin:i < ops.size:=(yco.1 M).1;have eZ:i < f.size:=by omega
    let X:Nat->Bool:=λj=>f.getD j af
    have U:X i=af:=by
     grind
    have hgetset:∀j,(f.setIfInBounds i ae).getD j af=(X j || decide (j=i)):=by
     intro j;by_cases m:j=i
     .simp_all
     .simp only[X,ycu,ycz,m,decide_false,ycj];grind
    have W:(λj=>(f.setIfInBounds i ae).getD j af)=λj=>X j || decide (j=i):=funext hgetset;obtain⟨hg,hop⟩:=step X i o a w M U h G g;have hw:Region.wanted o (yielded ops a.tmps)=ae:=by simp[Region.wanted,hg]
    show wpOpIn F n P ops Q i _ a w;unfold wpOpIn;simp only[M,hw,if_true];refine hop _ λA w' I=>ih _ A w' (by simpa using S) ?_ ?_ ?_
    .have:=vt (Y:=λj=>(f.setIfInBounds i ae).getD j af) U hin (λj _=>hgetset j);have hX':gQ X ops.size<=yD+1:=E;omega
    .intro j o' l hx e he hb;show(f.setIfInBounds i ae).getD e.on af=ae;rw[hgetset];have J:(f.setIfInBounds i ae).getD j af=ae:=hx;rw[hgetset]at J;by_cases m:j=i
     .subst m;rw[M]at l;cases l;have:X e.on=ae:=h e he hb;rw[this];rfl
     .simp only[m,decide_false,ycj]at J;have:X e.on=ae:=G j o' l J e he hb;rw[this];rfl
    .rw[W];exact I
 have y:∀j,(ycg ops.size af).getD j af=af:=by
  intro j;by_cases l:j < ops.size <;> simp[Array.getD,l]
 have hff:(λj=>(ycg ops.size af).getD j af)=λ_=>af:=funext y;refine R ops.size (ycg ops.size af) a _ (by simp) vr ?_ ?_
 .intro i o _ hx;grind
 grind
end
end Go.Ev
namespace Go.Ev
open Go.RowKit
section
variable{P:yg}
theorem ZzX{fn:Func}{σ σ':Sg}{a:Act}{ts':yL Dv}{H1 H':yL aq}{r:Dv}{keep:yL Nat}{hs:yL ao}{C:yL Prop}(ok:Ok σ)(to:To σ σ')(ok':Ok σ')(e1:σ'.H=H1)(y:aD σ' ts' { a with defers:=[]})
 (j:fin P fn ts' H1 σ.H.length keep hs=ab (C,r,H')) (hc:aX C):
 ∃v,(results fn a.tmps).run P σ'.w=.ok v σ'.w/\∃f,f.w=σ'.w/\f.H=H'/\To σ f/\Ok f/\yJ f r v:=by
 unfold fin at j;split at j
 .rename_i C1 E m;dsimp only at j
  have F:∀r,(kZ E).rn (bc (yo σ.H.length++keep))=ab r\/(kZ (E.map Dv.arg)).rn (bc (yo σ.H.length++keep))=ab r->once (yo σ.H.length++keep)=ae->
   aP H1 (yo σ.H.length++keep) (yo σ.H.length++keep)=ab H'->aX C1->∃v,(results fn a.tmps).run P σ'.w=.ok v σ'.w/\
    ∃f,f.w=σ'.w/\f.H=H'/\To σ f/\Ok f/\yJ f r v:=by
   intro r hrn l g A;rw[<-e1]at m g;obtain⟨z,I,G⟩:=vz (P:=P) ok' y _ _ _ _ m A;refine⟨if h:z.toArray.size=1 then z.toArray[0] else .tuple z.toArray, ?_,gC σ' (yo σ.H.length++keep) H',rfl,rfl, ?_,pi ok' l g, ?_⟩
   .rw[Zro,Sem.run_bind, <-Array.toArray_toList (xs:=fn.results),List.mapM_toArray];simp_all
   .exact pj ok to l g
   .rcases hrn with hrn|hrn
    .exact lh (jJ g) hrn (vA G)
    .refine lh (jJ g) hrn (vA ?_);exact TS G
  all_goals grind
 .cases j
def RG(σ σ':Sg)(f:yL Deferred):Prop:=
 f=[]\/∃D,f=[{ target:=.collected D,args:= #[]}]/\σ.w.heap.size<=D/\(∀(id:Nat),σ'.m[id]? ≠ab (ab D))/\σ'.w.heap[D]? =ab (.deferred (ab []))
theorem Zvt{g:FuncId}{fn:Func}{c:Code}{args:yL Dv}{H H':yL aq}{r:Dv}(hf:P.funcs[g]? =ab fn)(hb:fn.body=ab c)
 (hr:∀(n:Nat)(σ:Sg)(a:Act),Ok σ->σ.H=H->aD σ (args++yx (fn.ntmps - args.length) .an) { a with defers:=[]}->a.defers=[]->
   c.wpIn (Wd ad) n P (λe W w'=>(e=.ret\/e=.normal)/\∃σ' ts' H1 keep hs C,σ'.w=w'/\To σ σ'/\Ok σ'/\σ'.H=H1/\aD σ' ts' { W with defers:=[]}/\fin P fn ts' H1 H.length keep hs=ab (C,r,H')/\aX C/\RG σ σ' W.defers) a σ.w):ce P g args H r H':=by
 intro σ vs M Q z;refine(callsIn_wide (n:=0)).1 (callsIn_of_wp_marks (F:=Wd ad) hf hb trivial ?_ rfl);have hl:=uN z
 have yM:aD σ (args++yx (fn.ntmps - args.length) .an) { tmps:=vs.toArray++ycg (fn.ntmps - vs.toArray.size) undef,defers:=[]}:=by
  refine⟨by simp[hl],λi d G=> ?_,rfl⟩;rcases Nat.lt_or_ge i args.length with h1|h1
  .rw[ybe h1]at G;obtain⟨v,y,I⟩:=uO z G
   have J:(vs.toArray++ycg (fn.ntmps - vs.toArray.size) undef)[i]? =ab v:=by
    grind
   simp_all
  .rw[yaq h1]at G;have:=List.eq_of_mem_replicate (ybk G);rw[this];exact Yr
 refine wpIn_mono (hr 0 σ { tmps:=vs.toArray++ycg (fn.ntmps - vs.toArray.size) undef,defers:=[]} M Q yM rfl) ?_;rintro e a w' ⟨he,σ',ts',H1,keep,hs,C,rfl,to,A,X,h,j,Y,E⟩
 have l:LeavesInM (Wd ad) 0 P fn a.tmps (λe w'=>∃v f,e=.returned v/\f.w=w'/\f.H=H'/\To σ f/\Ok f/\yJ f r v) a.defers .returning σ'.w:=by
  rcases E with E|⟨D,E,hD,hn,Z⟩
  .rw[E];obtain⟨v,h1,f,y,I,J,R,S⟩:=ZzX (a:=a) M to A X h (by rw[Q];exact j) Y;exact⟨v,h1,v,f,rfl,y,I,J,R,S⟩
  .rw[E];obtain⟨m,T⟩:=Zvs (.deferred ad) A hn Z rfl
   have U:To σ { σ' with w:=σ'.w.putObj D (.deferred ad)}:=⟨to.leaf.trans m,to.F,to.B,to.os,to.tape,to.output,(by
    show _<=(σ'.w.putObj D (.deferred ad)).heap.size;rw[World.putObj_size];exact to.size),λb h1 y=>(World.putObj_heap_other (by omega)).trans (to.block b h1 y),to.same,to.len⟩
   obtain⟨v,h1,f,y,I,J,R,S⟩:=ZzX (σ':={ σ' with w:=σ'.w.putObj D (.deferred ad)}) (a:=a) M U T X (h.to m) (by rw[Q];exact j) Y;exact⟨by simp,.inl ⟨D,_,rfl,run_takeDeferred Z,v,h1,v,f,rfl,y,I,J,R,S⟩⟩
 rcases he with rfl|rfl
 .exact l
 .exact l
end
end Go.Ev
end
section
set_option maxRecDepth 10000
namespace Go.Proofs.YtcbhhaigilifgaaGreat
open Go Go.Ev
noncomputable def im:Array yj:=match ZX yb 128 with|.seq (.region _ o _) _=>o|_=> #[]
noncomputable def iX:Array yj:=match ZX yb 128 with|.seq _ (.block _ (.loop (.seq (.region _ o _) _)))=>o|_=> #[]
noncomputable def dW:Array yj:=match ZX yb 128 with|.seq _ (.block _ (.loop (.seq _ (.seq _ (.seq (.block _ (.seq (.region _ o _) _)) _)))))=>o|_=> #[]
noncomputable def cn:Array yj:=match ZX yb 128 with|.seq _ (.block _ (.loop (.seq _ (.seq _ (.seq (.block _ (.seq _ (.seq (.region _ o _) _))) _)))))=>o|_=> #[]
noncomputable def iY:Array yj:=match ZX yb 128 with|.seq _ (.block _ (.loop (.seq _ (.seq _ (.seq _ (.region _ o _))))))=>o|_=> #[]
noncomputable def RH:Code:=.seq (.region 1 iX af) (.seq (.cond (.tmp 12) .skip (.exit 0)) (.seq (.block 1 (.seq (.region 2 dW af) (.seq (.region 3 cn ae) (.cond (.tmp 23) .ret .skip)))) (.region 4 iY af)))
theorem ZCW:∃fn,yb.funcs[128]? =ab fn/\fn.body=ab (.seq (.region 0 im af) (.block 0 (.loop RH)))/\fn.ntmps=25/\fn.results= #[]:=by
 have h:(yb.funcs[128]?).map (λfn=>(fn.body,fn.ntmps,fn.results))=ab (ab (.seq (.region 0 im af) (.block 0 (.loop RH))),25, #[]):=by kernel_rfl
 obtain⟨fn,g,f⟩:=Option.map_eq_some_iff.1 h;simp only[yq]at f;exact⟨fn,g,f.1,f.2.1,f.2.2⟩
theorem qz:cn.size=9:=by kernel_rfl
def lV:Nat->yL Nat
 |2=>[1]|5=>[4]|6=>[3,5]|8=>[7]|_=>[]
def lW:Nat->yL Nat
 |1=>[5]|3=>[2]|4=>[5]|_=>[]
noncomputable def ca:Nat->yO Tmp:=aT cn.toList
theorem ZKh:∀i j,i < cn.size->j < cn.size->ca i≠ad->ca i=ca j->i=j:=by
 rw[qz];intro i j l m;have h:((yo 9).all λi=>(yo 9).all λj=>ca i==ad || !(ca i==ca j) || decide (i=j))=ae:=by kernel_rfl
 have h1:=yal.1 (yal.1 h i (ybr.2 l)) j (ybr.2 m);intro g f;rw[f]at g;simp only[Bool.or_eq_true,yP,yT,Bool.not_eq_true',beq_eq_false_iff_ne]at h1;rcases h1 with(h1|h1)|h1
 .exact absurd (f.symm.trans h1) g
 .exact absurd f h1
 .exact h1
structure It(N n:Nat)(Hm HS:Nat->List aq)(X:Nat->aq)(tsI tsC tsD tsG:Nat->List Dv)(goes:Nat->Bool)(D:Nat->Nat->Dv)(ch st:Nat->Pl)(its0:List Dv):Prop where
 e0:∃ts C hs,cA yb im im.toList its0 (Hm 0) hs=ab (C,ts,Hm 0,[])/\aX C/\aI [1,2,9,10,11] 0 ts=tsI 0
 ix:∀k,(tsI k)[11]? =ab (.p (.int .i64 (k:Int)))
 e1:∀k,k<=n->∃C hs,cA yb iX iX.toList (tsI k) (Hm k) hs=ab (C,tsC k,Hm k,[])/\aX C
 c1:∀k,(tsC k)[12]? =ab (.p (.bool (ag (k < n))))
 e2:∀k,k < n->∃C hs,cA yb dW dW.toList (tsC k) (Hm k) hs=ab (C,tsD k,Hm k++[X k],[])/\aX C
 io:∀k,(tsD k).length=25
 e3:∀k,k < n->∀i,i < 7->∃C hs,cD yb (ba cn i) (dw 25 ca (D k) (tsD k) (lV i) (lW i)) (Hm k++[X k]) hs=ab (C,D k i,Hm k++[X k],[])/\aX C
 d0:∀k,D k 0=.an
 d2:∀k,D k 2=.p (ch k)
 d6:∀k,D k 6=.p (st k)
 d7:∀k,D k 7=.p (.bool (goes k))
 d8:∀k,D k 8=.p (.bool (!goes k))
 e8:∀k H,cD yb (ba cn 8) (dw 25 ca (D k) (tsD k) [7] []) H []=ab ([],D k 8,H,[])
 g:∀k,Dv.bC (bc (yo N)) (dw 25 ca (D k) (tsD k) [8] [1,2,9,10,11])=ab (tsG k)
 g23:∀k,(tsG k)[23]? =ab (.p (.bool (!goes k)))
 e4:∀k,k < n->goes k=ae->∃ts C hs,cA yb iY iY.toList (tsG k) (Hm (k+1)) hs=ab (C,ts,Hm (k+1),[])/\aX C/\aI [1,2,9,10,11] 0 ts=tsI (k+1)
structure gq(N n:Nat)(Hm HS:Nat->List aq)(X:Nat->aq)(goes:Nat->Bool)(ch st:Nat->Pl)(l:Nat)(rc:Loop)(p1 p2:Tmp)(tsR:List Dv):Prop where
 round:∀k,k < n->∃ts1 ts2 H1 H2,bD yb (ab l) rc.assign ((tsR.set p1 (.p (ch k))).set p2 (.p (st k))) (Hm k++[X k]) .normal ts1 H1/\
  bD yb (ab l) rc.body ts1 H1 (if goes k=ae then .normal else .ret) ts2 H2/\aP H2 (yo N) (yo N)=ab (if goes k=ae then Hm (k+1) else HS k)
 bC:Dv.bC (bc (yo N)) tsR=ab tsR
theorem ZNg{ops:Array yj}{X:Nat->Bool}(hc:jI ops X){i j:Nat}(hi:i < ops.size)(he:bU (ba ops i) j=ae)(g:X i=ae):X j=ae:=by
 have h:ops[i]? =ab (ba ops i):=by
  unfold ba;rw[ycu,ycl hi];rfl
 unfold bU at he;obtain⟨x,l,f⟩:=Array.any_eq_true'.1 he;simp only[yi,yT]at f;have:=hc i _ h g x l f.2;rw[<-f.1];exact this
def bare(t:Array yh):Act:={ tmps:=t,defers:=[]}
theorem Zvu{σ:Sg}{ts:yL Dv}{t:Array yh}{p:Tmp}{d:Dv}{v:yh}(h:aD σ ts (bare t))(hd:yJ σ d v):aD σ (ts.set p d) (bare (t.setIfInBounds p v)):=by
 have:=kD (o:={ dst:=ab p,op:=.move (.tmp 0),type:=0,pos:=default,after:= #[],guard:=ad}) h hd;exact this
def uz(a:Act):Nat:=match a.tmps.getD 11 undef with
 |.int _ x=>x.toNat
 |_=>0
theorem ZzZ{σ:Sg}{ts:yL Dv}{a:Act}{k:Nat}(h:aD σ ts a)(f:ts[11]? =ab (.p (.int .i64 (k:Int)))):uz a=k:=by
 have:=ZD (h.at_ 11 _ f);unfold uz;rw[this];simp
theorem ZHN{M σ1:Sg}{l D0:Nat}{E:Loop}{N n:Nat}{Hm HS:Nat->yL aq}{X:Nat->aq}{tsI tsC tsD tsG:Nat->yL Dv}{y:Nat->Bool}{D:Nat->Nat->Dv}{ch st:Nat->Pl}{its0:yL Dv}{p1 p2:Tmp}{tsR:yL Dv}
 (T:It N n Hm HS X tsI tsC tsD tsG y D ch st its0) (lo:gq N n Hm HS X y ch st l E p1 p2 tsR) (okb:Ok M) (hN:M.H.length=N) (hrs:E.state=.ready) (hrp:E.pending=ad) (hps:E.params= #[p1,p2])
 (st1:St M l D0 E σ1) (hH:σ1.H=Hm 0) (vs:Array yh) (hvs:vs.size=3) (hv0:vs[0]? =ab (.func (.yield l) #[] #[])) (hrep0:aD σ1 its0 { tmps:=vs++ycg 22 undef,defers:=[]}) (hrR:aD σ1 tsR (bare E.tmps)) (m:Nat) (R:Ending->yr->Prop)
 (hdone:∀σ',(∀j,j < n->y j=ae)->St M l D0 E σ'->σ'.H=Hm n->aD σ' tsR (bare E.tmps)->∀v,R (.returned v) σ'.w)
 (hstop:∀σ' k,k < n->y k=af->(∀j,j < k->y j=ae)->St M l D0 { E with state:=.done,pending:=ab .ret} σ'->σ'.H=HS k->aD σ' tsR (bare E.tmps)->∀v,R (.returned v) σ'.w):
 CallsIn (Wd ad) m yb 128 vs σ1.w R:=by
 obtain⟨fn,hf,hb,hnt,hres⟩:=ZCW;refine callsIn_of_wp hf hb trivial ?_ rfl;rw[hnt,hvs];obtain⟨ts0,C0,hs0,e0,c0,m0⟩:=T.e0;have hrn:E.state=.ready:=hrs;have hrc:{ E with state:=.ready,pending:=ad}=E:=by cases E;simp_all
 have nd:im.toList.all iV=ae/\iX.toList.all iV=ae/\dW.toList.all iV=ae/\iY.toList.all iV=ae:=⟨by kernel_rfl,by kernel_rfl,by kernel_rfl,by kernel_rfl⟩
 have nk:∀(o:Array yj),o=im\/o=iX\/o=dW\/o=iY->o.toList.all (λo=>match o.dst with|some d=> !([0]:yL Nat).contains d|none=>ae)=ae:=by
  rintro o (rfl|rfl|rfl|rfl) <;> kernel_rfl
 refine wpIn_seq (wpIn_region_list (uw [0] im.toList its0 σ1 _ hs0 [] C0 (Hm 0) st1.ok hrep0 (by rw[hH];exact e0) c0 nd.1 (nk _ (.inl rfl)) λa2 σ2 hk2 e2 to2 ok2 rep2 hd2=> ?_))
 have hy2:a2.tmps[0]? =ab (.func (.yield l) #[] #[]):=by
  rw[hk2 0 (by simp)];show(vs++ycg 22 undef)[0]? =_;rw[Array.getElem?_append_left (by omega)];exact hv0
 have st2:=st1.step to2 ok2;have rep2':aD σ2 (tsI 0) { a2 with defers:=[]}:=by rw[<-m0];exact Vs _ rep2
 have rR2:=hrR.to to2.leaf
 have end_:∀(a:Act)(w:yr)(R':Prop),a.defers=[]->(∀v,R (.returned v) w)->bodyPost yb fn R .normal a w/\bodyPost yb fn R .ret a w:=λa w _ hd hR=>
  ⟨⟨hd,_,results_none hres _ _ _,hR _⟩,⟨hd,_,results_none hres _ _ _,hR _⟩⟩
 refine wpIn_block (wpIn_loop (λa w=>∃k σ,k<=n/\σ.w=w/\St M l D0 E σ/\σ.H=Hm k/\aD σ (tsI k) { a with defers:=[]}/\a.defers=[]/\a.tmps[0]? =ab (.func (.yield l) #[] #[])/\aD σ tsR (bare E.tmps)/\∀j,j < k->y j=ae)
  (λa _=>n - uz a) ⟨0,σ2,Nat.zero_le _,rfl,st2,e2,rep2',hd2,hy2,rR2,λj Z=>absurd Z (Nat.not_lt_zero _)⟩ ?_)
 rintro a _ ⟨k,σ,hk,rfl,hst,hHk,yM,hd,hy,hR,zU⟩;have hik:uz a=k:=ZzZ (a:={ a with defers:=[]}) yM (T.ix k);unfold RH;obtain⟨C1,hs1,e1,c1⟩:=T.e1 k hk;refine wpIn_seq (wpIn_region_list (uw [0] iX.toList (tsI k) σ a hs1 [] C1 (Hm k) hst.ok yM (by rw[hHk];exact e1) c1 nd.2.1 (nk _ (.inr (.inl rfl))) λa3 σ3 hk3 e3 to3 ok3 rep3 hd3=> ?_));have st3:=hst.step to3 ok3;have hy3:=(hk3 0 (by simp)).trans hy;have rR3:=hR.to to3.leaf;have hc12:=Yn (rep3.at_ 12 _ (T.c1 k));by_cases hkn:k < n
 . 
  refine wpIn_seq (wpIn_cond_true (by rw[yY hkn]at hc12;exact hc12) (wpIn_skip ?_));obtain⟨C2,hs2,e2',c2⟩:=T.e2 k hkn;refine wpIn_seq (wpIn_block (wpIn_seq (wpIn_region_list (uw [0] dW.toList (tsC k) σ3 a3 hs2 [] C2 (Hm k++[X k]) ok3 rep3 (by rw[e3];exact e2') c2 nd.2.2.1 (nk _ (.inr (.inr (.inl rfl)))) λa4 σ4 hk4 e4 to4 ok4 rep4 hd4=> ?_))));have st4:=st3.step to4 ok4;have hy4:=(hk4 0 (by simp)).trans hy3;have rR4:=rR3.to to4.leaf;have hd4':a4.defers=[]:=hd4.trans (hd3.trans hd);obtain⟨ts1,ts2,H1,H2,ra,rb,hdrop⟩:=lo.round k hkn;let U:Loop:=if y k=ae then E else{ E with state:=.done,pending:=ab .ret}
  let Inv:(Nat->Bool)->Act->yr->Prop:=λY a w=>∃σ,σ.w=w/\St M l D0 (bif Y 7 then U else E) σ/\σ.H=(bif Y 7 then H2 else Hm k++[X k])/\aD σ (dR 9 ca (D k) (tsD k) Y) { a with defers:=[]}/\a.defers=[]/\
   a.tmps[0]? =ab (.func (.yield l) #[] #[])/\(Y 0=ae->a.tmps[15]? =ab (.func (.yield l) #[] #[]))/\aD σ tsR (bare E.tmps)
  refine wpIn_seq (ZJP (by kernel_rfl) (by kernel_rfl) Inv ?_ ?_ ?_)
  .have hdr:σ4.w.grownBy { σ4.w with drawn:=σ4.w.drawn+1} ad:=⟨rfl,rfl,rfl,ym _,λ_ _ _=>rfl⟩;obtain⟨to5,ok5⟩:=nC ok4 hdr;refine⟨{ σ4 with w:={ σ4.w with drawn:=σ4.w.drawn+1}},rfl,st4.step to5 ok5,e4, ?_,hd4',hy4,λh=>(by cases h),rR4.to to5.leaf⟩;rw[vl (λ_ _=>rfl)];exact rep4.to to5.leaf
  .rintro Y i o A w5 ho W hedge hcl ⟨G,rfl,z,Q,I,hd5,hy5,h15,rR5⟩;have J:i < 9:=by rw[<-qz];exact(yco.1 ho).1
   have ho':o=ba cn i:=by
    unfold ba;rw[ycu,ho];rfl
   have hg:∀i,i < 9->(ba cn i).guard=ad/\iV (ba cn i)=ae:=by
    have h:((yo 9).all λi=>(ba cn i).guard.isNone&&iV (ba cn i))=ae:=by kernel_rfl
    intro i hi;have:=yal.1 h i (ybr.2 hi);simpa using this
   have hX':∀j,bU o j=ae->Y j=ae:=by
    intro j Z;unfold bU at Z;obtain⟨x,x1,x2⟩:=Array.any_eq_true'.1 Z;simp only[yi,yT]at x2;rw[<-x2.1];exact hedge x x1 x2.2
   have ho'':=ho';subst ho'';refine⟨(hg i J).1,λK hK=> ?_⟩
   have hjs:∀i,i < 9->∀j,j∈lV i->j < 9/\bU (ba cn i) j=ae:=by
    have h:((yo 9).all λi=>(lV i).all λj=>ag (j < 9)&&bU (ba cn i) j)=ae:=by kernel_rfl
    intro i hi j Z;have:=yal.1 (yal.1 h i (ybr.2 hi)) j Z;simpa using this
   have eZ:∀i,i < 9->∀s,s∈lW i->∀j,j < 9->ca j≠ab s:=by
    have h:((yo 9).all λi=>(lW i).all λs=>(yo 9).all λj=> !(ca j==ab s))=ae:=by kernel_rfl
    intro i hi s hs j Z;have:=yal.1 (yal.1 (yal.1 h i (ybr.2 hi)) s hs) j (ybr.2 Z);simpa using this
   have hu9:∀i j,i < 9->j < 9->ca i≠ad->ca i=ca j->i=j:=by
    have:=ZKh;rw[qz]at this;exact this
   have hmsk:aD G (dw 25 ca (D k) (tsD k) (lV i) (lW i)) { A with defers:=[]}:=by
    have:=vx hu9 (λj Z=>⟨(hjs i J j Z).1,hX' j (hjs i J j Z).2⟩) (eZ i J) I;rw[T.io]at this;exact this
   have hput:∀(σ6:Sg)(v:yh),ck G σ6->yJ σ6 (D k i) v->aD σ6 (dR 9 ca (D k) (tsD k) (λj=>Y j || decide (j=i))) { A.put (ba cn i).dst v with defers:=[]}:=by
    intro σ6 v leaf hv;have h1:=kD (o:=ba cn i) (I.to leaf) hv;rw[RB]at h1;have h2:=vm (ts0:=tsD k) (D:=D k) hu9 J W (λj(_:j < 9)=>rfl:∀j,j < 9->(λj=>Y j || decide (j=i)) j=(Y j || decide (j=i)));have hd:(ba cn i).dst=ca i:=by simp[ca,aT,ho]
    rw[hd]at h1 ⊢;rw[h2]at h1;exact h1
   have hd0:∀i,i < 9->∀d,(ba cn i).dst=ab d->d≠0/\(d=15->i=0):=by
    have h:((yo 9).all λi=>match (ba cn i).dst with|some d=> !(d==0)&&(!(d==15) || decide (i=0))|none=>ae)=ae:=by kernel_rfl
    intro i hi d hd;have:=yal.1 h i (ybr.2 hi);rw[hd]at this;simp only[yi,Bool.not_eq_true',beq_eq_false_iff_ne,Bool.or_eq_true,yP]at this;exact⟨this.1,λe=>this.2.resolve_left (λh=>h e)⟩
   have hy6:∀v,(A.put (ba cn i).dst v).tmps[0]? =ab (.func (.yield l) #[] #[]):=by
    intro v;unfold Act.put
    cases hd:(ba cn i).dst with
    |none=>exact hy5
    |some d=>
     show(A.tmps.setIfInBounds d v)[0]? =_;rw[ycz,yX (hd0 i J d hd).1];exact hy5
   have h156:∀v,i≠0->Y 0=ae->(A.put (ba cn i).dst v).tmps[15]? =ab (.func (.yield l) #[] #[]):=by
    intro v jq hY0;unfold Act.put
    cases hd:(ba cn i).dst with
    |none=>exact h15 hY0
    |some d=>
     show(A.tmps.setIfInBounds d v)[15]? =_;rw[ycz,yX (λe=>jq ((hd0 i J d hd).2 e))];exact h15 hY0
   have h7:i < 7->Y 7=af:=by
    intro hi
    cases h:Y 7 with
    |false=>rfl
    |true=>
     exfalso
     suffices hh:af=ae by cases hh
     have u:∀a b,a < 9->bU (ba cn a) b=ae->Y a=ae->Y b=ae:=λa b ha he hx=>ZNg hcl (by rw[qz];exact ha) he hx;have y0:=u 7 0 (by decide) (by kernel_rfl) h;have y2:=u 7 2 (by decide) (by kernel_rfl) h;have y6:=u 7 6 (by decide) (by kernel_rfl) h;have y1:=u 2 1 (by decide) (by kernel_rfl) y2;have y3:=u 6 3 (by decide) (by kernel_rfl) y6;have y5:=u 6 5 (by decide) (by kernel_rfl) y6;have y4:=u 5 4 (by decide) (by kernel_rfl) y5;have:i=0\/i=1\/i=2\/i=3\/i=4\/i=5\/i=6:=by omega
     rcases this with rfl|rfl|rfl|rfl|rfl|rfl|rfl
     .exact W.symm.trans y0
     .exact W.symm.trans y1
     .exact W.symm.trans y2
     .exact W.symm.trans y3
     .exact W.symm.trans y4
     .exact W.symm.trans y5
     .exact W.symm.trans y6
   have off:∀{Y7:Bool},Y 7=Y7->i≠7->(Y 7 || decide (7=i))=Y7:=λh hi=>by rw[h,yZ (λe=>hi e.symm),ycj]
   by_cases jq:i=0
   .subst jq;have hY7:=h7 (by decide);rw[hY7]at z Q
    replace z:St M l D0 E G:=z
    replace Q:G.H=Hm k++[X k]:=Q
    have ho0:(ba cn 0).op=.move (.tmp 0):=by kernel_rfl
    have hds:(ba cn 0).dst=ab 15:=by kernel_rfl
    have zB:(execOp ({ A with defers:=[]}:Act).eval (ba cn 0)).run yb G.w=.ok (.value (.func (.yield l) #[] #[])) G.w:=by
     have he:({ A with defers:=[]}:Act).eval (.tmp 0)=.func (.yield l) #[] #[]:=by
      show A.tmps.getD 0 undef=_;rw[ycu,hy5];rfl
     simp[execOp,ho0,he]
    refine PZ (a0:={ A with defers:=[]}) (qy (hg 0 J).2) rfl ?_;unfold Oper.wp;rw[zB];have e:({ ({ A with defers:=[]}:Act).put (ba cn 0).dst (.func (.yield l) #[] #[]) with defers:=A.defers}:Act)=A.put (ba cn 0).dst (.func (.yield l) #[] #[]):=by unfold Act.put;cases (ba cn 0).dst <;> rfl
    refine⟨QR, ?_⟩;rw[e];have hD0:D k 0=.an:=T.d0 k;refine hK _ _ ⟨G,rfl, ?_, ?_,hput G _ (ck.refl G) (by rw[hD0];exact Yr),QR.trans hd5,hy6 _,λ_=> ?_,rR5⟩
    .dsimp only;rw[off hY7 (by decide)];exact z
    .dsimp only;rw[off hY7 (by decide)];exact Q
    .rw[hds];show(A.tmps.setIfInBounds 15 _)[15]? =_
     have hsz:A.tmps.size=25:=by
      have:=I.size;rw[XD,T.io]at this;exact this
     rw[ycz];simp[hsz]
   .by_cases tB:i < 7
    .have hY7:=h7 tB;rw[hY7]at z Q
     replace z:St M l D0 E G:=z
     replace Q:G.H=Hm k++[X k]:=Q
     obtain⟨C3,hs3,ev3,c3⟩:=T.e3 k hkn i tB;refine RA (qy (hg i J).2) (Ys (P:=yb) z.ok hmsk (by rw[Q];exact ev3) c3) λv σ6 e6 to6 ok6 hv6=> ?_;refine hK _ _ ⟨σ6,rfl, ?_, ?_,hput σ6 v to6.leaf hv6,QR.trans hd5,hy6 v,λh=>h156 v jq ?_,rR5.to to6.leaf⟩
     .dsimp only;rw[off hY7 (by omega)];exact z.step to6 ok6
     .dsimp only;rw[off hY7 (by omega)];exact e6
     .dsimp only at h;rw[yZ (λe=>jq e.symm),ycj]at h;exact h
    .have h78:i=7\/i=8:=by omega
     rcases h78 with rfl|rfl
     . 
      rw[W]at z Q
      replace z:St M l D0 E G:=z
      replace Q:G.H=Hm k++[X k]:=Q
      have y0:=hX' 0 (by kernel_rfl);have y2:=hX' 2 (by kernel_rfl);have y6:=hX' 6 (by kernel_rfl)
      have q17:yJ G (.p (ch k)) (A.tmps.getD 17 undef):=by
       have:=I.at_ 17 (.p (ch k)) (by rw[QZ (by rw[T.io];decide),VK hu9 (j:=2) (by decide) y2 (by kernel_rfl),T.d2]);exact this
      have q21:yJ G (.p (st k)) (A.tmps.getD 21 undef):=by
       have:=I.at_ 21 (.p (st k)) (by rw[QZ (by rw[T.io];decide),VK hu9 (j:=6) (by decide) y6 (by kernel_rfl),T.d6]);exact this
      have ho7:(ba cn 7).op=.call { callee:=.value (.tmp 15),args:= #[.tmp 17,.tmp 21],argTypes:= #[35,39]}:=by kernel_rfl
      have hfold:(E.params.zip #[A.tmps.getD 17 undef,A.tmps.getD 21 undef]).foldl (λtmps(x:Tmp×yh)=>tmps.setIfInBounds x.1 x.2) E.tmps=(E.tmps.setIfInBounds p1 (A.tmps.getD 17 undef)).setIfInBounds p2 (A.tmps.getD 21 undef):=by rw[hps];simp
      have hyl:=run_yield (P:=yb) (args:= #[A.tmps.getD 17 undef,A.tmps.getD 21 undef]) z.hl (by rw[hps];rfl)
      have c:A.eval (.tmp 15)=.func (.yield l) #[] #[]:=by
       show A.tmps.getD 15 undef=_;rw[ycu,h15 y0];rfl
      have f:A.eval (.tmp 17)=A.tmps.getD 17 undef:=rfl;have q:A.eval (.tmp 21)=A.tmps.getD 21 undef:=rfl
      have zB:(execOp A.eval (ba cn 7)).run yb G.w=.ok (.round l E.fn ((E.tmps.setIfInBounds p1 (A.tmps.getD 17 undef)).setIfInBounds p2 (A.tmps.getD 21 undef)) E.assign E.body) G.w:=by
       rw[<-hfold];simp only[execOp,ho7,resolve,c,Sem.run_bind,Sem.run_pure,Result.andThen_ok];simp[go_sem,c,f,q,invoke,Result.andThen];simpa using hyl
      unfold Oper.wpIn;refine⟨λ_ _=>trivial, ?_⟩;rw[Oper.semAt_plain _ _ _ (qy (hg 7 J).2),zB];refine⟨λhh=>by simp[Fence.wide]at hh, ?_⟩;refine ZHL z hrs Q (tsR:=(tsR.set p1 (.p (ch k))).set p2 (.p (st k))) (Zvu (Zvu rR5 q17) q21) ra rb ?_ _ λσ6 S leaf6 e6=> ?_
      .cases y k
       .exact .inr rfl
       .exact .inl rfl
      .show K (A.put (ba cn 7).dst _) σ6.w;have on:(Y 7 || decide (7=7))=ae:=by rw[yY rfl,Bool.or_true]
       have hb:ag ((if y k=ae then Ex.normal else Ex.ret)=Ex.normal)=y k:=by cases y k <;> rfl
       rw[hb];refine hK _ _ ⟨σ6,rfl, ?_, ?_,hput σ6 _ leaf6 (by rw[T.d7];exact Yk _),QR.trans hd5,hy6 _,λh=>h156 _ (by decide) ?_,rR5.to leaf6⟩
       .dsimp only;rw[on];show St M l D0 U σ6
        cases F:y k with
        |true=>
         simp only[F,if_true]at S;rw[hrc]at S;simp only[U,F,if_true]
         exact S
        |false=>
         simp only[F]at S;simp only[U,F];exact S
       .dsimp only;rw[on];exact e6
       .dsimp only at h;rw[yZ (by decide:¬(0=7)),ycj]at h;exact h
     .have y7:=hX' 7 (by kernel_rfl);rw[y7]at z Q
      replace z:St M l D0 U G:=z
      replace Q:G.H=H2:=Q
      refine RA (qy (hg 8 J).2) (Ys (P:=yb) z.ok hmsk (T.e8 k _) trivial) λv σ6 e6 to6 ok6 hv6=> ?_;refine hK _ _ ⟨σ6,rfl, ?_, ?_,hput σ6 v to6.leaf hv6,QR.trans hd5,hy6 v,λh=>h156 v (by decide) ?_,rR5.to to6.leaf⟩
      .dsimp only;rw[off y7 (by decide)];exact z.step to6 ok6
      .dsimp only;rw[off y7 (by decide)];exact e6.trans Q
      .dsimp only at h;rw[yZ (by decide:¬(0=8)),ycj]at h;exact h
  .rintro Y A w5 hY ⟨G,rfl,z,Q,I,hd5,hy5,h15,rR5⟩;rw[qz]at hY;rw[hY 7 (by decide)]at z Q
   replace z:St M l D0 U G:=z
   replace Q:G.H=H2:=Q
   have hu9:∀i j,i < 9->j < 9->ca i≠ad->ca i=ca j->i=j:=by
    have:=ZKh;rw[qz]at this;exact this
   have hmsk:=vx hu9 (js:=[8]) (is:=[1,2,9,10,11]) (λj Z=>by simp only[ybc]at Z;subst Z;exact⟨by decide,hY 8 (by decide)⟩) (by
    have h:(([1,2,9,10,11]:yL Nat).all λs=>(yo 9).all λj=> !(ca j==ab s))=ae:=by kernel_rfl
    intro s hs j Z;have:=yal.1 (yal.1 h s hs) j (ybr.2 Z);simpa using this) I
   rw[T.io]at hmsk;have hL:yo M.H.length++[]=yo N:=by rw[hN,ybf]
   have hin:aP G.H (yo M.H.length++[]) (yo M.H.length++[])=ab (if y k=ae then Hm (k+1) else HS k):=by rw[hL,Q];exact hdrop
   have ho:once (yo M.H.length++[])=ae:=by rw[ybf];exact ZAW _
   have S:=z.drop okb [] ho hin;have rep6:=vB (jJ hin) (by rw[hL];exact T.g k) hmsk;have rR6:=vB (jJ hin) (by rw[hL];exact lo.bC) rR5;have h23:=Yn (rep6.at_ 23 _ (T.g23 k))
   cases F:y k with
   |true=>
    rw[F]at h23;refine wpIn_cond_false h23 (wpIn_skip ?_);have hrc':U=E:=by simp only[U,F,if_true]
    rw[hrc']at S;obtain⟨ts4,C4,hs4,e4',c4,m4⟩:=T.e4 k hkn F
    have e6:(gC G (yo M.H.length++[]) (if y k=ae then Hm (k+1) else HS k)).H=Hm (k+1):=by
     show(if y k=ae then Hm (k+1) else HS k)=_
     rw[F,yW rfl]
    refine wpIn_region_list (uw [0] iY.toList (tsG k) (gC G (yo M.H.length++[]) (if y k=ae then Hm (k+1) else HS k)) A hs4 [] C4 (Hm (k+1)) S.ok rep6 (by rw[e6];exact e4') c4 nd.2.2.2 (nk _ (.inr (.inr (.inr rfl)))) λa7 σ7 hk7 e7 to7 ok7 rep7 hd7=> ?_)
    have rep7':aD σ7 (tsI (k+1)) { a7 with defers:=[]}:=by rw[<-m4];exact Vs _ rep7
    refine⟨⟨k+1,σ7,hkn,rfl,S.step to7 ok7,e7,rep7',hd7.trans hd5,(hk7 0 (by simp)).trans hy5,rR6.to to7.leaf,λj Z=> ?_⟩, ?_⟩
    .rcases Nat.lt_or_ge j k with h|h
     .exact zU j h
     .have:j=k:=by omega
      rw[this];exact F
    .have:=ZzZ (a:={ a7 with defers:=[]}) rep7' (T.ix (k+1));have h2:uz a7=k+1:=this;rw[h2,hik]
     omega
   |false=>
    rw[F]at h23;refine wpIn_cond_true h23 (wpIn_ret ?_)
    have e6:(gC G (yo M.H.length++[]) (if y k=ae then Hm (k+1) else HS k)).H=HS k:=by
     show(if y k=ae then Hm (k+1) else HS k)=_
     rw[F];rfl
    have st7:=S;simp only[U,F]at st7;exact(end_ A _ True hd5 λv=>hstop (gC G (yo M.H.length++[]) (if y k=ae then Hm (k+1) else HS k)) k hkn F zU (by simpa[F] using st7) e6 rR6 v).2
 . 
  have hkn':k=n:=by omega
  subst hkn';refine wpIn_seq (wpIn_cond_false (by rw[yZ hkn]at hc12;exact hc12) (wpIn_exit ?_));exact(end_ a3 _ True (hd3.trans hd) λv=>hdone σ3 zU st3 e3 rR3 v).1
theorem ZNh(y v1 v2:yh)(r:Array yh):(#[y,v1,v2]++r).getD 1 undef=v1/\(#[y,v1,v2]++r).getD 2 undef=v2:=by
 constructor
 .rw[ycu,Array.getElem?_append_left (by simp)];rfl
 .rw[ycu,Array.getElem?_append_left (by simp)];rfl
theorem Zz0{σ:Sg}{a:Act}{N n:Nat}{Hm HS:Nat->yL aq}{X:Nat->aq}{tsI tsC tsD tsG:Nat->yL Dv}{z:Nat->Bool}{D:Nat->Nat->Dv}{ch st:Nat->Pl}{I ts:yL Dv}{g p1 p2 i j:Nat}{assign body:Code}
 (it:It N n Hm HS X tsI tsC tsD tsG z D ch st I) (ok:Ok σ) (hN:(Hm 0).length=N) (hH:σ.H=Hm 0) (yM:aD σ ts { a with defers:=[]}) (hd:a.defers=[]) (hg:ts[g]? =ab (.fn 128 [.aj i 0 [],.aj j 0 []]))
 (Y:I=.an::.aj i 0 []::.aj j 0 []::yx 22 .an) (lo:∀l E,E.assign=assign->E.body=body->gq N n Hm HS X z ch st l E p1 p2 ts) (m:Nat) (Q:Exit->Act->yr->Prop)
 (hn:∀σ' S,(∀k,k < n->z k=ae)->S.tmps=a.tmps->To σ σ'->Ok σ'->σ'.H=Hm n->aD σ' ts { S with defers:=[]}->RG σ σ' S.defers->Q .normal S σ'.w)
 (hs:∀σ' S k,k < n->z k=af->(∀j,j < k->z j=ae)->S.tmps=a.tmps->To σ σ'->Ok σ'->σ'.H=HS k->aD σ' ts { S with defers:=[]}->RG σ σ' S.defers->Q .ret S σ'.w):
 (Code.rangeFunc (.tmp g) #[p1,p2] assign body).wpIn (Wd ad) m yb Q a σ.w:=by
 refine wpIn_rangeFunc ?_;intro fn _;obtain⟨cs,hv,T⟩:=SP (by decide:128 < big) (yM.at_ g _ hg);have hv:a.eval (.tmp g)=.func (.func 128) #[] cs:=hv;simp only[aH]at T;obtain⟨v1,r1,hcs1,q1,v2,r2,hcs2,q2,hcs3⟩:=T;have hcs4:cs.toList=[v1,v2]:=by rw[hcs1,hcs2,hcs3]
 have T:cs= #[v1,v2]:=Array.toList_inj.1 hcs4;subst T;obtain⟨E,f⟩:∃E:Loop,E={ state:=.ready,pending:=ad,fn,tmps:=a.tmps,params:= #[p1,p2],assign,body,defers:=σ.w.heap.size}:=⟨_,rfl⟩;obtain⟨W1,U⟩:∃W1,(σ.w.alloc (.deferred (ab []))).alloc (.loop E)=W1:=⟨_,rfl⟩
 have hgr:σ.w.grownBy W1 ad:=by
  rw[<-U];exact(World.grownBy_alloc σ.w _ ad).andThen (World.grownBy_alloc _ _ ad) (by intro j hj;cases hj)
 obtain⟨W,ok1⟩:=nC ok hgr
 have hl1:W1.heap[σ.w.heap.size+1]? =ab (.loop E):=by
  rw[<-U];have:=World.alloc_heap_new (σ.w.alloc (.deferred (ab []))) (.loop E)
  rwa [World.size_alloc]at this
 have hd1:W1.heap[σ.w.heap.size]? =ab (.deferred (ab [])):=by
  rw[<-U,heap_alloc_old _ _ (by simp)];exact World.alloc_heap_new σ.w _
 have st1:St σ (σ.w.heap.size+1) σ.w.heap.size E { σ with w:=W1}:=⟨W,ok1,by omega,ym _,by omega,λid h=>by have:=ok.lt id _ h;omega,λid h=>by have:=ok.lt id _ h;omega,hl1,hd1⟩;have Z:({ a with defers:=[{ target:=.collected σ.w.heap.size,args:= #[]}]++a.defers}:Act).defers=[{ target:=.collected σ.w.heap.size,args:= #[]}]:=by rw[hd];rfl
 obtain⟨fn',hf,hb,_,_⟩:=ZCW
 have hnm:fn'.name≠ "runtime.NumGoroutine" :=by
  have h:(yb.funcs[128]?).map (λfn=>(fn.name== "runtime.NumGoroutine"))=ab af:=by kernel_rfl
  rw[hf]at h;simpa using h
 have eg:∀J w,(callFunc 128 J).run yb w=.ok (.enter 128 J) w:=by
  intro J w;simp[callFunc,hf,hnm,hb,mark]
 refine⟨σ.w.heap.size+1,[{ target:=.collected σ.w.heap.size,args:= #[]}],W1,{ target:=.fn (.func 128) #[v1,v2],args:= #[.func (.yield (σ.w.heap.size+1)) #[] #[]]},W1,128,
  #[.func (.yield (σ.w.heap.size+1)) #[] #[],v1,v2],W1, ?_, ?_,λ_ _=>trivial, ?_,λhh=>by simp[Fence.wide]at hh, ?_⟩
 .rw[<-U,f];exact run_enterLoop_outer _ _ _ _ _
 .simp only[resolve,hv];simp[go_sem]
 .simp[invoke,go_sem,eg _ W1]
 .have hat:∀(k:Nat)d,I[k]? =ab d->yJ { σ with w:=W1} d ((#[Value.func (.yield (σ.w.heap.size+1)) #[] #[],v1,v2]++ycg 22 undef).getD k undef):=by
   intro k d G;rw[Y]at G
   match k,G with
   |0,G=>cases G;exact Yr
   |1,G=>
    cases G;rw[(ZNh _ _ _ _).1]
    exact Vo W.leaf q1
   |2,G=>
    cases G;rw[(ZNh _ _ _ _).2]
    exact Vo W.leaf q2
   |k+3,G=>
    have h9:(yx 22 Dv.an)[k]? =ab d:=G;have:d=.an:=List.eq_of_mem_replicate (ybk h9);rw[this];exact Yr
  refine ZHN it (lo _ E (by rw[f]) (by rw[f])) ok (by rw[hH];exact hN) (by rw[f]) (by rw[f]) (by rw[f]) st1 hH _ rfl rfl ⟨by rw[Y];simp,hat,rfl⟩ (by rw[f];exact yM.to W.leaf) _ _ (λσ' zU M e' R v=> ?_) (λσ' k G hgk zU M e' R v=> ?_)
  .have hp:E.pending=ad:=by rw[f]
   obtain⟨y,F⟩:=M.turn { E with state:=.exhausted,pending:=ad};refine⟨ad,_,by have:=run_endLoop (P:=yb) M.hl (by rw[f];simp);rw[hp]at this;exact this, ?_⟩;have A:=R.to F;rw[f]at A;refine hn { σ' with w:=σ'.w.putObj (σ.w.heap.size+1) (.loop { E with state:=.exhausted,pending:=ad})} { a with defers:=[{ target:=.collected σ.w.heap.size,args:= #[]}]++a.defers} zU rfl y.to y.ok e' (by rw[f];exact A) (.inr ⟨σ.w.heap.size,Z,ym _,y.nd,y.hd⟩)
  .obtain⟨y,F⟩:=M.turn { E with state:=.exhausted,pending:=ab .ret};refine⟨ab .ret,_,by have:=run_endLoop (P:=yb) M.hl (by simp);rw[this], ?_⟩;have A:=R.to F;rw[f]at A;exact wpIn_ret (hs { σ' with w:=σ'.w.putObj (σ.w.heap.size+1) (.loop { E with state:=.exhausted,pending:=ab .ret})} { a with defers:=[{ target:=.collected σ.w.heap.size,args:= #[]}]++a.defers} k G hgk zU rfl y.to y.ok e' (by rw[f];exact A) (.inr ⟨σ.w.heap.size,Z,ym _,y.nd,y.hd⟩))
end Go.Proofs.YtcbhhaigilifgaaGreat
end
section
set_option maxRecDepth 10000
namespace Go.Proofs.YtcbhhaigilifgaaGreat
open Go Go.Ev
noncomputable section
theorem Zvv{s:yG}{d:yL Int}{t:yG}(h:ZP yD s d=ab t):ce yb 15 [.p (Zb.enc s),.p (Ty.enc (.arr 2 (.int .i64)) d)] [] (.p (Zb.enc t)) []:=by
 obtain⟨j,R,H,f,l,m⟩:=Zii (s,d) t h;have g:Sh.fills [.v Zb,.v (.arr 2 (.int .i64))] (dD [Zb,(.arr 2 (.int .i64))] (s,d))=ab ([.p (.v Zb s),.p (.v (.arr 2 (.int .i64)) d)],[]):=by kernel_rfl
 have f:=g.symm.trans f;cases f;cases l;obtain⟨r,y,z⟩:=m _ _ ([.p (.v Zb t)],[]) ⟨rfl,rfl⟩ (by kernel_rfl);cases y;exact z
theorem ZEF{c:Chan}{s:yG}{b:Bool}(h:au yD c s=ab b):ce yb 20 [.p (Zi.enc c),.p (Zb.enc s)] [] (.p (.bool b)) []:=by
 obtain⟨j,R,H,f,l,m⟩:=Vb (c,s) b h;have g:Sh.fills [.v Zi,.v Zb] (dD [Zi,Zb] (c,s))=ab ([.p (.v Zi c),.p (.v Zb s)],[]):=by kernel_rfl
 have f:=g.symm.trans f;cases f;cases l;obtain⟨r,y,z⟩:=m _ _ ([.p (.v .bool b)],[]) ⟨rfl,rfl⟩ (by kernel_rfl);cases y;exact z
abbrev eN(v n:Nat):aq:=.var (.agg [.rv 1 v 60 0 n]) ae
abbrev eO(v n:Nat)(ls:yL Zs):aq:=.row v 60 ae 112 (.p (.arr n 60 (ls.map Zv.enc)))
theorem Ztq(v n:Nat)(ls:yL Zs)(s:yG):ce yb 71 [.aj 0 0 [],.p (Zb.enc s)] [eN v n,eO v n ls] (.fn 128 [.aj 2 0 [],.aj 3 0 []]) [eN v n,eO v n ls,.var (.aj 0 0 []) ae,.var (.p (Zb.enc s)) ae]:=
 ZKD [.raw,.raw,.raw,.raw] [2,3] [] (by kernel_rfl) trivial rfl rfl
section
variable(N:Nat)(v n:Nat)(s:yG)(L:Nat->Zs)(mv:Nat->yG)(rt:Nat->Bool)
abbrev kq(x:Zs):Pl:=Zv.enc x
noncomputable def RI(i j:Nat)(k:Nat):yL Dv:=[.an,.aj i 0 [],.aj j 0 [],.an,.an,.an,.an,.an,.an,.rv 1 v 60 0 n,.p (.int .i64 (n:Int)),.p (.int .i64 (k:Int)),.an,.an,.an,.an,.an,.an,.an,.an,.an,.an,.an,.an,.an]
noncomputable def uA(i j:Nat)(k:Nat):yL Dv:=(RI v n i j k).set 12 (.p (.bool (ag ((k:Int) < (n:Int)))))
noncomputable def itD(i j:Nat)(k:Nat):yL Dv:=(((uA v n i j k).set 13 (.aZ 1 v ((0+k)*60) [0+k])).set 14 (.p (kq (L k)))).set 5 (.aj N 0 [])
noncomputable def AQ(i j:Nat)(k:Nat):yL Dv:=[.an,.aj i 0 [],.aj j 0 [],.an,.an,.an,.an,.an,.an,.rv 1 v 60 0 n,.p (.int .i64 (n:Int)),.p (.int .i64 (k:Int)),.an,.an,.an,.an,.an,.an,.an,.an,.an,.an,.an,.p (.bool (!rt k)),.an]
noncomputable def itZ(i j:Nat):yL Dv:=[.an,.aj i 0 [],.aj j 0 [],.an,.an,.an,.aj 0 0 [],.aj 0 0 [],.aj 0 0 [0],.rv 1 v 60 0 n,.p (.int .i64 (n:Int)),.p (.int .i64 0),.an,.an,.an,.an,.an,.an,.an,.an,.an,.an,.an,.an,.an]
noncomputable def ZNi(k:Nat):Nat->Dv
 |1=>.aj N 0 [0]
 |2=>.p (Zi.enc (L k).1)
 |3=>.p (Zb.enc s)
 |4=>.aj N 57 [1]
 |5=>.p (Ty.enc (.arr 2 (.int .i64)) (L k).2.1)
 |6=>.p (Zb.enc (mv k))
 |7=>.p (.bool (rt k))
 |8=>.p (.bool (!rt k))
 |_=>.an
abbrev fA(k:Nat):aq:=.var (.p (kq (L k))) ae
end
theorem ZL5{α β:Type}(f:α->β)(l:yL α)(d:α){k:Nat}(h:k < l.length):(l.map f)[0+k]? =ab (f (l.getD k d)):=by
 grind
theorem ZCX{ls:yL Zs}{k:Nat}(h:k < ls.length):(ls.map Zv.enc)[0+k]? =ab (kq (ls.getD k default)):=ZL5 (α:=Zs) Zv.enc ls default h
theorem Zz1{P:yg}{ops:Array yj}{o:yj}{ts:yL Dv}{H:yL aq}{t x id v off i n s:Nat}{st:Bool}{e:TypeId}{xs:yL Pl}{y:Pl}{hs:yL ao}(g:o.guard=ad)(ho:o.op=.load t (.tmp x))(h:ts.getD x .an=.aZ id v off [i])(hH:H[id]? =ab (.row v s st e (.p (.arr n s xs))))
 (j:gi P t (.p y)=ae):dk P ops o ts H (.el y::hs)=ab ([xs[i]? =ab y,i*s+0=off],.p y,H,hs):=by
 have f:aF P ts 0 (.tmp x)=.aZ id v off [i]:=h
 have l:bj P o ts (.el y::hs)=ad:=by
  unfold bj;grind
 have m:bH P o ts H (.el y::hs)=ab ([xs[i]? =ab y,i*s+0=off],.p y,hs):=by
  unfold bH;rw[ho];dsimp only;rw[f];dsimp only;rw[hH];dsimp only[Yd,Option.map];rw[j];simp
 unfold dk;rw[g];dsimp only;unfold cD;rw[l];dsimp only;rw[m];rfl
theorem AR{P:yg}{ops:Array yj}{o:yj}{l:yL yj}{ts ts':yL Dv}{H H1 H':yL aq}{hs hs1 hs':yL ao}{C C':yL Prop}{d:Dv}(h:dk P ops o ts H hs=ab (C,d,H1,hs1))(k:cA P ops l (fS ts o.dst d) H1 hs1=ab (C',ts',H',hs')):
 cA P ops (o::l) ts H hs=ab (C++C',ts',H',hs'):=by
 simp only[cA,h,k]
noncomputable def ZNj:Array yj:=match ZX yb 27 with|.seq _ (.seq (.seq _ (.block _ (.rangeFunc _ _ (.seq (.region _ o _) _) _))) _)=>o|_=> #[]
noncomputable def ZNk:Array yj:=match ZX yb 27 with|.seq _ (.seq (.seq _ (.block _ (.rangeFunc _ _ (.seq _ (.region _ o _)) _))) _)=>o|_=> #[]
noncomputable def ZKi:Array yj:=match ZX yb 27 with|.seq _ (.seq (.seq _ (.block _ (.rangeFunc _ _ _ (.block _ (.seq (.region _ o _) _))))) _)=>o|_=> #[]
noncomputable def ZNl:Array yj:=match ZX yb 27 with|.seq _ (.seq (.seq _ (.block _ (.rangeFunc _ _ _ (.block _ (.seq _ (.cond _ (.seq (.region _ o _) _) _)))))) _)=>o|_=> #[]
noncomputable def ZKj:Array yj:=match ZX yb 27 with|.seq (.region _ o _) _=>o|_=> #[]
noncomputable def ZKk:Array yj:=match ZX yb 27 with|.seq _ (.seq (.seq (.region _ o _) _) _)=>o|_=> #[]
noncomputable def ZKl:Array yj:=match ZX yb 27 with|.seq _ (.seq _ (.seq (.region _ o _) _))=>o|_=> #[]
noncomputable def ZKm:Code:=.seq (.region 2 ZNj af) (.region 3 ZNk af)
noncomputable def ZKn:Code:=.block 1 (.seq (.region 4 ZKi af) (.cond (.tmp 15) (.seq (.region 5 ZNl af) .ret) .skip))
noncomputable def RJ:Code:=.seq (.region 0 ZKj af) (.seq (.seq (.region 1 ZKk af) (.block 0 (.rangeFunc (.tmp 9) #[10,11] ZKm ZKn))) (.seq (.region 6 ZKl af) .ret))
theorem ZHP:∃fn,yb.funcs[27]? =ab fn/\fn.body=ab RJ/\fn.ntmps=16/\fn.results= #[.cell 4 4]:=by
 have h:(yb.funcs[27]?).map (λfn=>(fn.body,fn.ntmps,fn.results))=ab (ab RJ,16, #[.cell 4 4]):=by kernel_rfl
 grind
section
variable(v n:Nat)(ls:yL Zs)(s:yG)(mv:Nat->yG)(rt:Nat->Bool)
abbrev iZ:yL aq:=[eN v n,eO v n ls,.var (.p (Zb.enc s)) ae,.var (.p (.bool af)) ae,.var (.aj 0 0 []) ae,.var (.p (Zb.enc s)) ae]
noncomputable def jw:yL Dv:=[.aj 0 0 [],.p (Zb.enc s),.an,.aj 2 0 [],.aj 3 0 [],.an,.an,.aj 0 0 [],.p (Zb.enc s),.fn 128 [.aj 4 0 [],.aj 5 0 []],.an,.an,.an,.an,.an,.an]
end
theorem ZL6{v:Nat}{ls:yL Zs}{s:yG}{mv:Nat->yG}{rt:Nat->Bool}(hl:ls.length<=1000)(hm:∀k,k < ls.length->ZP yD s (ls.getD k default).2.1=ab (mv k)):
 It 6 ls.length (λ_=>iZ v ls.length ls s) (λ_=>iZ v ls.length ls s) (fA λk=>ls.getD k default) (RI v ls.length 4 5) (uA v ls.length 4 5) (itD 6 v ls.length (λk=>ls.getD k default) 4 5) (AQ v ls.length rt 4 5) rt
  (ZNi 6 s (λk=>ls.getD k default) mv rt) (λk=>Zi.enc (ls.getD k default).1) (λk=>Zb.enc (mv k)) (.an::.aj 4 0 []::.aj 5 0 []::yx 22 .an) where
 e0:=⟨itZ v ls.length 4 5,[(0:Nat)=0,(0:Nat)=0],[.raw],by kernel_rfl,⟨rfl,rfl,aw⟩,by kernel_rfl⟩
 ix k:=by kernel_rfl
 e1 k hk:=⟨[],[],by kernel_rfl,aw⟩
 c1 k:=by
  have h:(uA v ls.length 4 5 k)[12]? =ab (.p (.bool (ag ((k:Int) < (ls.length:Int))))):=by kernel_rfl
  grind
 e2 k hk:=by
  refine⟨[0<=(k:Int),(k:Int) < (ls.length:Int)]++([(ls.map Zv.enc)[0+k]? =ab (kq (ls.getD k default)),(0+k)*60+0=(0+k)*60]++[(0:Nat)=0]),[.el (kq (ls.getD k default)),.raw,.raw], ?_,⟨by omega,by omega,ZCX hk,rfl,rfl,aw⟩⟩;have hl:dW.toList=[ba dW 0,ba dW 1,ba dW 2,ba dW 3]:=by kernel_rfl
  rw[hl];refine AR (H1:=iZ v ls.length ls s) (hs1:=[.el (kq (ls.getD k default)),.raw,.raw]) (d:=.aZ 1 v ((0+k)*60) [0+k]) (by kernel_rfl) (AR (d:=.p (kq (ls.getD k default))) (H1:=iZ v ls.length ls s) (hs1:=[.raw,.raw]) ?_ (by kernel_rfl));exact Zz1 (t:=112) (x:=13) (id:=1) (v:=v) (n:=ls.length) (st:=ae) (e:=112) (by kernel_rfl) (by kernel_rfl) (by kernel_rfl) rfl (by kernel_rfl)
 io k:=by kernel_rfl
 e3 k hk i hi:=by
  match i,hi with
  |0,_=>exact⟨[],[.raw],by kernel_rfl,aw⟩
  |1,_=>exact⟨[],[],by kernel_rfl,aw⟩
  |2,_=>exact⟨[(0:Nat)=0],[],by kernel_rfl,⟨rfl,aw⟩⟩
  |3,_=>exact⟨[(0:Nat)=0],[],by kernel_rfl,⟨rfl,aw⟩⟩
  |4,_=>exact⟨[],[],by kernel_rfl,aw⟩
  |5,_=>exact⟨[(57:Nat)=57],[],by kernel_rfl,⟨rfl,aw⟩⟩
  |6,_=>exact⟨[ce yb 15 [.p (Zb.enc s),.p (Ty.enc (.arr 2 (.int .i64)) (ls.getD k default).2.1)] [] (.p (Zb.enc (mv k))) []],[.call (.p (Zb.enc (mv k))) [] []],by kernel_rfl,⟨Zvv (hm k hk),aw⟩⟩
  |_+7,h=>exact absurd h (by omega)
 d0 k:=rfl
 d2 k:=rfl
 d6 k:=rfl
 d7 k:=rfl
 d8 k:=rfl
 e8 k H:=by kernel_rfl
 g k:=by kernel_rfl
 g23 k:=by kernel_rfl
 e4 k hk _:=⟨((AQ v ls.length rt 4 5 k).set 24 (.p (.int .i64 ((k:Int)+1)))).set 11 (.p (.int .i64 ((k:Int)+1))),[Wn .i64 ((k:Int)+1)],[.bare,.raw],by kernel_rfl,⟨by simp only[Wn,IntKind.min,IntKind.max,IntKind.signed,IntKind.bits];constructor <;> simp<;> omega,aw⟩,by kernel_rfl⟩
theorem ZL7{v:Nat}{ls:yL Zs}{s:yG}{mv:Nat->yG}{rt:Nat->Bool}(hr:∀k,k < ls.length->au yD (ls.getD k default).1 (mv k)=ab (rt k))(l:Nat)(rc:Loop)(h1:rc.assign=ZKm)(h2:rc.body=ZKn):
 gq 6 ls.length (λ_=>iZ v ls.length ls s) (λ_=>iZ v ls.length ls s) (fA λk=>ls.getD k default) rt (λk=>Zi.enc (ls.getD k default).1) (λk=>Zb.enc (mv k)) l rc 10 11 (jw s) where
 round k hk:=by
  rw[h1,h2];have hcon:=ZEF (hr k hk)
  refine⟨((((jw s).set 10 (.p (Zi.enc (ls.getD k default).1))).set 11 (.p (Zb.enc (mv k)))).set 5 (.aj 7 0 [])).set 6 (.aj 8 0 []),((((((((jw s).set 10 (.p (Zi.enc (ls.getD k default).1))).set 11 (.p (Zb.enc (mv k)))).set 5 (.aj 7 0 [])).set 6 (.aj 8 0 [])).set 12 (.p (Zi.enc (ls.getD k default).1))).set 13 (.p (Zb.enc (mv k)))).set 14 (.p (.bool (rt k)))).set 15 (.p (.bool (!rt k))),
   iZ v ls.length ls s++[fA (λk=>ls.getD k default) k,.var (.p (Zi.enc (ls.getD k default).1)) ae,.var (.p (Zb.enc (mv k))) ae],iZ v ls.length ls s++[fA (λk=>ls.getD k default) k,.var (.p (Zi.enc (ls.getD k default).1)) ae,.var (.p (Zb.enc (mv k))) ae], ?_, ?_, ?_⟩
  .exact iW (Y6 (hs:=[.raw,.raw]) (hs':=[]) (C:=[(0:Nat)=0]) (ts':=(((jw s).set 10 (.p (Zi.enc (ls.getD k default).1))).set 11 (.p (Zb.enc (mv k)))).set 5 (.aj 7 0 [])) (H':=iZ v ls.length ls s++[fA (λk=>ls.getD k default) k,.var (.p (Zi.enc (ls.getD k default).1)) ae]) (by kernel_rfl) ⟨rfl,aw⟩ (by kernel_rfl))
    (Y6 (hs:=[.raw,.raw]) (hs':=[]) (C:=[(0:Nat)=0]) (by kernel_rfl) ⟨rfl,aw⟩ (by kernel_rfl))
  .have rB:bD yb (ab l) (.region 4 ZKi af) (((((jw s).set 10 (.p (Zi.enc (ls.getD k default).1))).set 11 (.p (Zb.enc (mv k)))).set 5 (.aj 7 0 [])).set 6 (.aj 8 0 [])) (iZ v ls.length ls s++[fA (λk=>ls.getD k default) k,.var (.p (Zi.enc (ls.getD k default).1)) ae,.var (.p (Zb.enc (mv k))) ae]) .normal (((((((((jw s).set 10 (.p (Zi.enc (ls.getD k default).1))).set 11 (.p (Zb.enc (mv k)))).set 5 (.aj 7 0 [])).set 6 (.aj 8 0 [])).set 12 (.p (Zi.enc (ls.getD k default).1))).set 13 (.p (Zb.enc (mv k)))).set 14 (.p (.bool (rt k)))).set 15 (.p (.bool (!rt k)))) (iZ v ls.length ls s++[fA (λk=>ls.getD k default) k,.var (.p (Zi.enc (ls.getD k default).1)) ae,.var (.p (Zb.enc (mv k))) ae]):=
    Y6 (hs:=[.call (.p (.bool (rt k))) [] []]) (hs':=[]) (C:=[(0:Nat)=0,(0:Nat)=0,ce yb 20 [.p (Zi.enc (ls.getD k default).1),.p (Zb.enc (mv k))] [] (.p (.bool (rt k))) []]) (by kernel_rfl) ⟨rfl,rfl,hcon,aw⟩ (by kernel_rfl)
   refine RF (iW rB (ux (b:= !rt k) (by kernel_rfl) ?_)) ?_
   .cases rt k
    .exact iW (Y6 (hs:=[.raw]) (hs':=[]) (C:=[(0:Nat)=0]) (by kernel_rfl) ⟨rfl,aw⟩ (by kernel_rfl)) RE
    .exact RD
   grind
  .cases rt k <;> kernel_rfl
 bC:=by kernel_rfl
theorem ZJQ{v:Nat}{ls:yL Zs}{s:yG}{mv:Nat->yG}{rt:Nat->Bool}(hl:ls.length<=1000)(hm:∀k,k < ls.length->ZP yD s (ls.getD k default).2.1=ab (mv k))(hr:∀k,k < ls.length->au yD (ls.getD k default).1 (mv k)=ab (rt k)):
 ce yb 27 [.aj 0 0 [],.p (Zb.enc s)] [eN v ls.length,eO v ls.length ls] (.p (.bool ((yo ls.length).all rt))) [eN v ls.length,eO v ls.length ls]:=by
 obtain⟨fn,hf,Q,R,z⟩:=ZHP;refine Zvt hf Q ?_;intro m σ a ok hH yM hd;rw[R]at yM
 have hfin:∀(b:Bool)(ts:yL Dv),ts[4]? =ab (.aj 3 0 [])->fin yb fn ts [eN v ls.length,eO v ls.length ls,.var (.p (Zb.enc s)) ae,.var (.p (.bool b)) ae,.var (.aj 0 0 []) ae,.var (.p (Zb.enc s)) ae] 2 [] []=ab ([(0:Nat)=0],.p (.bool b),[eN v ls.length,eO v ls.length ls]):=by
  intro b ts h4;unfold fin;rw[z];have h5:ts.getD 4 .an=.aj 3 0 []:=by rw[ycx,h4];rfl
  have h6:gB yb ts [eN v ls.length,eO v ls.length ls,.var (.p (Zb.enc s)) ae,.var (.p (.bool b)) ae,.var (.aj 0 0 []) ae,.var (.p (Zb.enc s)) ae] [.cell 4 4] []=ab ([(0:Nat)=0],[.p (.bool b)]):=by
   unfold gB;rw[h5]
   kernel_rfl
  show(match gB yb ts _ [.cell 4 4] [] with|some (C,ds)=>_|none=>ad)=_
  rw[h6]
  kernel_rfl
 unfold RJ
 have r0:bD yb ad (.region 0 ZKj af) ([.aj 0 0 [],.p (Zb.enc s)]++yx 14 .an) [eN v ls.length,eO v ls.length ls] .normal ([.aj 0 0 [],.p (Zb.enc s),.an,.aj 2 0 [],.aj 3 0 []]++yx 11 .an)
  [eN v ls.length,eO v ls.length ls,.var (.p (Zb.enc s)) ae,.var (.p (.bool af)) ae]:=Y6 (hs:=[.raw,.raw]) (hs':=[]) (C:=[]) (by kernel_rfl) trivial (by kernel_rfl)
 have r1:bD yb ad (.region 1 ZKk af) ([.aj 0 0 [],.p (Zb.enc s),.an,.aj 2 0 [],.aj 3 0 []]++yx 11 .an) [eN v ls.length,eO v ls.length ls,.var (.p (Zb.enc s)) ae,.var (.p (.bool af)) ae] .normal (jw s) (iZ v ls.length ls s):=
  Y6 (hs:=[.raw,.call (.fn 128 [.aj 2 0 [],.aj 3 0 []]) [eN v ls.length,eO v ls.length ls,.var (.aj 0 0 []) ae,.var (.p (Zb.enc s)) ae] [0,1]]) (hs':=[])
   (C:=[(0:Nat)=0,ce yb 71 [.aj 0 0 [],.p (Zb.enc s)] [eN v ls.length,eO v ls.length ls] (.fn 128 [.aj 2 0 [],.aj 3 0 []]) [eN v ls.length,eO v ls.length ls,.var (.aj 0 0 []) ae,.var (.p (Zb.enc s)) ae]]) (by kernel_rfl) ⟨rfl,Ztq v ls.length ls s,aw⟩ (by kernel_rfl)
 refine wpIn_seq (wpIn_mono (r0 m σ a ok hH yM) ?_);rintro e a1 w1 ⟨rfl,S,σ1,rfl,e1,g,T,A⟩;refine wpIn_seq (wpIn_seq (wpIn_mono (r1 m σ1 a1 T e1 A) ?_));rintro e a2 w2 ⟨rfl,U,σ2,rfl,e2,h,W,E⟩;have F:a2.defers=[]:=U.trans (S.trans hd);have h4:(jw s)[4]? =ab (.aj 3 0 []):=by kernel_rfl
 refine wpIn_block (Zz0 (ZL6 hl hm) W rfl e2 E F (by kernel_rfl) rfl (ZL7 hr) m _ (λX a' zU ht to j Y f l=> ?_) (λX a' k hk hg zU ht to j Y f l=> ?_))
 .have r6:bD yb ad (.region 6 ZKl af) (jw s) (iZ v ls.length ls s) .normal (jw s) [eN v ls.length,eO v ls.length ls,.var (.p (Zb.enc s)) ae,.var (.p (.bool ae)) ae,.var (.aj 0 0 []) ae,.var (.p (Zb.enc s)) ae]:=
   Y6 (hs:=[.raw]) (hs':=[]) (C:=[(0:Nat)=0]) (by kernel_rfl) ⟨rfl,aw⟩ (by kernel_rfl)
  refine wpIn_seq (wpIn_mono (r6 m X a' j Y f) ?_);rintro e a3 w3 ⟨rfl,Z,σ3,rfl,e3,y,ok3,G⟩;have Q:(yo ls.length).all rt=ae:=yal.2 λx hx=>zU x (ybr.1 hx);refine wpIn_ret ⟨.inl rfl,σ3,jw s,_,[],[],[(0:Nat)=0],rfl,((g.trans h).trans to).trans y,ok3,e3,G, ?_,⟨rfl,aw⟩, ?_⟩
  .grind
  .rw[Z];rcases l with l|⟨D,m1,m2,J,M⟩
   .exact .inl l
   .have I:=oO M;exact .inr ⟨D,m1,ybt (ybt g.size h.size) m2,AP y I J,(y.block D I J).trans M⟩
 .have Q:(yo ls.length).all rt=af:=by
   grind
  refine⟨.inl rfl,X,jw s,_,[],[],[(0:Nat)=0],rfl,(g.trans h).trans to,j,Y,f, ?_,⟨rfl,aw⟩, ?_⟩
  .grind
  .rcases l with l|⟨D,m1,m2,J,M⟩
   .exact .inl l
   .exact .inr ⟨D,m1,ybt (ybt g.size h.size) m2,J,M⟩
theorem ZHQ{c:Chan}{s:yG}{i:Int}{p:yU}{m:WW}{e:Int}(h:WM yD c s i p=ab (m,e)):
 ce yb 72 [.p (Zi.enc c),.p (Zb.enc s),.p (.int .i64 i),.p (Ty.enc .u64 p)] [] (.bp [.p (ZF.enc m),.p (.int .i64 e)]) []:=by
 obtain⟨j,R,H,f,l,y⟩:=ZsO (c,s,i,p) (m,e) h;have g:Sh.fills [.v Zi,.v Zb,.v (.int .i64),.v .u64] (dD [Zi,Zb,(.int .i64),.u64] (c,s,i,p))=ab ([.p (.v Zi c),.p (.v Zb s),.p (.v (.int .i64) i),.p (.v .u64 p)],[]):=by kernel_rfl
 have f:=g.symm.trans f;cases f;cases l;obtain⟨r,z,A⟩:=y _ _ ([.bp [.p (.v ZF m),.p (.v (.int .i64) e)]],[]) ⟨rfl,rfl⟩ (by kernel_rfl);cases z;exact A
noncomputable def ZNm:Array yj:=match ZX yb 28 with|.seq _ (.seq _ (.seq (.seq _ (.block _ (.rangeFunc _ _ (.seq (.region _ o _) _) _))) _))=>o|_=> #[]
noncomputable def ZNn:Array yj:=match ZX yb 28 with|.seq _ (.seq _ (.seq (.seq _ (.block _ (.rangeFunc _ _ (.seq _ (.region _ o _)) _))) _))=>o|_=> #[]
noncomputable def ZKo:Array yj:=match ZX yb 28 with|.seq _ (.seq _ (.seq (.seq _ (.block _ (.rangeFunc _ _ _ (.block _ (.seq (.region _ o _) _))))) _))=>o|_=> #[]
noncomputable def ZKp:Array yj:=match ZX yb 28 with|.seq _ (.seq _ (.seq (.seq _ (.block _ (.rangeFunc _ _ _ (.block _ (.seq _ (.seq (.seq (.region _ o _) _) _)))))) _))=>o|_=> #[]
noncomputable def AS:Array yj:=match ZX yb 28 with|.seq _ (.seq _ (.seq (.seq _ (.block _ (.rangeFunc _ _ _ (.block _ (.seq _ (.seq (.seq _ (.cond _ (.seq (.region _ o _) _) _)) _)))))) _))=>o|_=> #[]
noncomputable def ng:Array yj:=match ZX yb 28 with|.seq _ (.seq _ (.seq (.seq _ (.block _ (.rangeFunc _ _ _ (.block _ (.seq _ (.seq _ (.region _ o _))))))) _))=>o|_=> #[]
noncomputable def ZKq:Array yj:=match ZX yb 28 with|.seq (.region _ o _) _=>o|_=> #[]
noncomputable def AT:Array yj:=match ZX yb 28 with|.seq _ (.seq (.seq (.region _ o _) _) _)=>o|_=> #[]
noncomputable def RK:Array yj:=match ZX yb 28 with|.seq _ (.seq (.seq _ (.cond _ (.seq (.region _ o _) _) _)) _)=>o|_=> #[]
noncomputable def ZKr:Array yj:=match ZX yb 28 with|.seq _ (.seq _ (.seq (.seq (.region _ o _) _) _))=>o|_=> #[]
noncomputable def ZHS:Array yj:=match ZX yb 28 with|.seq _ (.seq _ (.seq _ (.seq (.region _ o _) _)))=>o|_=> #[]
noncomputable def RL:Code:=.seq (.region 4 ZNm af) (.region 5 ZNn af)
noncomputable def ZKs:Code:=.block 1 (.seq (.region 6 ZKo af) (.seq (.seq (.region 7 ZKp af) (.cond (.tmp 32) (.seq (.region 8 AS af) .ret) .skip)) (.region 9 ng af)))
noncomputable def RM:Code:=.seq (.region 0 ZKq af) (.seq (.seq (.region 1 AT af) (.cond (.tmp 17) (.seq (.region 2 RK af) .ret) .skip)) (.seq (.seq (.region 3 ZKr af) (.block 0 (.rangeFunc (.tmp 20) #[21,22] RL ZKs))) (.seq (.region 10 ZHS af) .ret)))
theorem ZHV:∃fn,yb.funcs[28]? =ab fn/\fn.body=ab RM/\fn.ntmps=39/\fn.results= #[.cell 8 102,.cell 9 50]:=by
 have h:(yb.funcs[28]?).map (λfn=>(fn.body,fn.ntmps,fn.results))=ab (ab RM,39, #[.cell 8 102,.cell 9 50]):=by kernel_rfl
 grind
section
variable(v n:Nat)(ls:yL Zs)(s:yG)(i:Int)(p:yU)(c:Nat->WW)(er:Nat->Int)
noncomputable def eY:Nat->yL Pl
 |0=>[]
 |k+1=>eY k++[ZF.enc (c k)]
theorem ZHW(k:Nat):(eY c k).length=k:=by
 induction k with
 |zero=>rfl
 |succ k f=>rw[eY,yl,f];rfl
abbrev iq(o:Dv)(lg:yL Pl)(e:Int):yL aq:=[eN v n,eO v n ls,.var (.p (Zb.enc s)) ae,.var (.p (.int .i64 i)) ae,.var (.p (Ty.enc .u64 p)) ae,.var o ae,.log 4 115 lg,.var (.p (.int .i64 e)) ae]
abbrev gO(k:Nat):yL aq:=iq v n ls s i p (.own 6 ad 4 (eY c k)) (eY c k) 0++[.var (.aj 0 0 []) ae,.var (.p (Zb.enc s)) ae]
abbrev AU(k:Nat):yL aq:=iq v n ls s i p (.p (.sl (ab af) 4 [])) (eY c k) (er k)++[.var (.aj 0 0 []) ae,.var (.p (Zb.enc s)) ae]
noncomputable def AV:yL Dv:=[.aj 0 0 [],.p (Zb.enc s),.p (.int .i64 i),.p (Ty.enc .u64 p),.an,.aj 2 0 [],.aj 3 0 [],.aj 4 0 [],.aj 5 0 [],.aj 7 0 [],.an,.an,.an,.an]++yx 25 .an
noncomputable def uB(b:Bool):yL Dv:=[.aj 0 0 [],.p (Zb.enc s),.p (.int .i64 i),.p (Ty.enc .u64 p),.an,.aj 2 0 [],.aj 3 0 [],.aj 4 0 [],.aj 5 0 [],.aj 7 0 [],.an,.an,.an,.an,.aj 0 0 [],.p (Zb.enc s),.p (.bool b),.p (.bool (!b))]++yx 21 .an
noncomputable def kW:yL Dv:=[.aj 0 0 [],.p (Zb.enc s),.p (.int .i64 i),.p (Ty.enc .u64 p),.an,.aj 2 0 [],.aj 3 0 [],.aj 4 0 [],.aj 5 0 [],.aj 7 0 [],.an,.an,.an,.an,.aj 0 0 [],.p (Zb.enc s),.p (.bool ae),.p (.bool af),.aj 0 0 [],.p (Zb.enc s),.fn 128 [.aj 8 0 [],.aj 9 0 []]]++yx 18 .an
end
theorem ZL8{v:Nat}{ls:yL Zs}{s:yG}{i:Int}{p:yU}{c:Nat->WW}{er:Nat->Int}{mv:Nat->yG}{rt:Nat->Bool}(hl:ls.length<=1000)(hm:∀k,k < ls.length->ZP yD s (ls.getD k default).2.1=ab (mv k)):
 It 10 ls.length (gO v ls.length ls s i p c) (AU v ls.length ls s i p c er) (fA λk=>ls.getD k default) (RI v ls.length 8 9) (uA v ls.length 8 9) (itD 10 v ls.length (λk=>ls.getD k default) 8 9) (AQ v ls.length rt 8 9) rt
  (ZNi 10 s (λk=>ls.getD k default) mv rt) (λk=>Zi.enc (ls.getD k default).1) (λk=>Zb.enc (mv k)) (.an::.aj 8 0 []::.aj 9 0 []::yx 22 .an) where
 e0:=⟨itZ v ls.length 8 9,[(0:Nat)=0,(0:Nat)=0],[.raw],by kernel_rfl,⟨rfl,rfl,aw⟩,by kernel_rfl⟩
 ix k:=by kernel_rfl
 e1 k hk:=⟨[],[],by kernel_rfl,aw⟩
 c1 k:=by
  have h:(uA v ls.length 8 9 k)[12]? =ab (.p (.bool (ag ((k:Int) < (ls.length:Int))))):=by kernel_rfl
  grind
 e2 k hk:=by
  refine⟨[0<=(k:Int),(k:Int) < (ls.length:Int)]++([(ls.map Zv.enc)[0+k]? =ab (kq (ls.getD k default)),(0+k)*60+0=(0+k)*60]++[(0:Nat)=0]),[.el (kq (ls.getD k default)),.raw,.raw], ?_,⟨by omega,by omega,ZCX hk,rfl,rfl,aw⟩⟩;have hl:dW.toList=[ba dW 0,ba dW 1,ba dW 2,ba dW 3]:=by kernel_rfl
  rw[hl];refine AR (H1:=gO v ls.length ls s i p c k) (hs1:=[.el (kq (ls.getD k default)),.raw,.raw]) (d:=.aZ 1 v ((0+k)*60) [0+k]) (by kernel_rfl) (AR (d:=.p (kq (ls.getD k default))) (H1:=gO v ls.length ls s i p c k) (hs1:=[.raw,.raw]) ?_ (by kernel_rfl));exact Zz1 (t:=112) (x:=13) (id:=1) (v:=v) (n:=ls.length) (st:=ae) (e:=112) (by kernel_rfl) (by kernel_rfl) (by kernel_rfl) rfl (by kernel_rfl)
 io k:=by kernel_rfl
 e3 k hk i hi:=by
  match i,hi with
  |0,_=>exact⟨[],[.raw],by kernel_rfl,aw⟩
  |1,_=>exact⟨[],[],by kernel_rfl,aw⟩
  |2,_=>exact⟨[(0:Nat)=0],[],by kernel_rfl,⟨rfl,aw⟩⟩
  |3,_=>exact⟨[(0:Nat)=0],[],by kernel_rfl,⟨rfl,aw⟩⟩
  |4,_=>exact⟨[],[],by kernel_rfl,aw⟩
  |5,_=>exact⟨[(57:Nat)=57],[],by kernel_rfl,⟨rfl,aw⟩⟩
  |6,_=>exact⟨[ce yb 15 [.p (Zb.enc s),.p (Ty.enc (.arr 2 (.int .i64)) (ls.getD k default).2.1)] [] (.p (Zb.enc (mv k))) []],[.call (.p (Zb.enc (mv k))) [] []],by kernel_rfl,⟨Zvv (hm k hk),aw⟩⟩
  |_+7,h=>exact absurd h (by omega)
 d0 k:=rfl
 d2 k:=rfl
 d6 k:=rfl
 d7 k:=rfl
 d8 k:=rfl
 e8 k H:=by kernel_rfl
 g k:=by kernel_rfl
 g23 k:=by kernel_rfl
 e4 k hk _:=⟨((AQ v ls.length rt 8 9 k).set 24 (.p (.int .i64 ((k:Int)+1)))).set 11 (.p (.int .i64 ((k:Int)+1))),[Wn .i64 ((k:Int)+1)],[.bare,.raw],by kernel_rfl,⟨by simp only[Wn,IntKind.min,IntKind.max,IntKind.signed,IntKind.bits];constructor <;> simp<;> omega,aw⟩,by kernel_rfl⟩
section
variable(s:yG)(i:Int)(p:yU)(x:Zs)(t:yG)(c:WW)(e:Int)
noncomputable def RN:yL Dv:=((((kW s i p).set 21 (.p (Zi.enc x.1))).set 22 (.p (Zb.enc t))).set 10 (.aj 11 0 [])).set 11 (.aj 12 0 [])
noncomputable def lX:yL Dv:=((((((((((RN s i p x t).set 24 (.p (Zi.enc x.1))).set 25 (.p (Zb.enc t))).set 26 (.p (.int .i64 i))).set 27 (.p (Ty.enc .u64 p))).set 28 (.bp [.p (ZF.enc c),.p (.int .i64 e)])).set 23 (.bp [.p (ZF.enc c),.p (.int .i64 e)])).set 29 (.p (ZF.enc c))).set 30 (.p (.int .i64 e))).set 12 (.aj 13 0 [])).set 13 (.p (.int .i64 e))
end
theorem ZL9{v:Nat}{ls:yL Zs}{s:yG}{i:Int}{p:yU}{c:Nat->WW}{er:Nat->Int}{mv:Nat->yG}(hl:ls.length<=1000)
 (hk:∀k,k < ls.length->WM yD (ls.getD k default).1 (mv k) i p=ab (c k,er k)) (l:Nat) (rc:Loop) (h1:rc.assign=RL) (h2:rc.body=ZKs):
 gq 10 ls.length (gO v ls.length ls s i p c) (AU v ls.length ls s i p c er) (fA λk=>ls.getD k default) (λk=>ag (er k=0)) (λk=>Zi.enc (ls.getD k default).1) (λk=>Zb.enc (mv k)) l rc 21 22 (kW s i p) where
 round k hkn:=by
  rw[h1,h2];have hcon:=ZHQ (hk k hkn);obtain⟨X1,hX1⟩:∃X1,X1=[fA (λk=>ls.getD k default) k,aq.var (.p (Zi.enc (ls.getD k default).1)) ae,.var (.p (Zb.enc (mv k))) ae]:=⟨_,rfl⟩
  have rA:bD yb (ab l) RL (((kW s i p).set 21 (.p (Zi.enc (ls.getD k default).1))).set 22 (.p (Zb.enc (mv k)))) (gO v ls.length ls s i p c k++[fA (λk=>ls.getD k default) k]) .normal (RN s i p (ls.getD k default) (mv k)) (gO v ls.length ls s i p c k++[fA (λk=>ls.getD k default) k,.var (.p (Zi.enc (ls.getD k default).1)) ae,.var (.p (Zb.enc (mv k))) ae]):=
   iW (Y6 (hs:=[.raw,.raw]) (hs':=[]) (C:=[(0:Nat)=0]) (ts':=(((kW s i p).set 21 (.p (Zi.enc (ls.getD k default).1))).set 22 (.p (Zb.enc (mv k)))).set 10 (.aj 11 0 [])) (H':=gO v ls.length ls s i p c k++[fA (λk=>ls.getD k default) k,.var (.p (Zi.enc (ls.getD k default).1)) ae]) (by kernel_rfl) ⟨rfl,aw⟩ (by kernel_rfl))
    (Y6 (hs:=[.raw,.raw]) (hs':=[]) (C:=[(0:Nat)=0]) (by kernel_rfl) ⟨rfl,aw⟩ (by kernel_rfl))
  have rB:bD yb (ab l) (.region 6 ZKo af) (RN s i p (ls.getD k default) (mv k)) (gO v ls.length ls s i p c k++[fA (λk=>ls.getD k default) k,.var (.p (Zi.enc (ls.getD k default).1)) ae,.var (.p (Zb.enc (mv k))) ae]) .normal
   (lX s i p (ls.getD k default) (mv k) (c k) (er k)) (gO v ls.length ls s i p c k++[fA (λk=>ls.getD k default) k,.var (.p (Zi.enc (ls.getD k default).1)) ae,.var (.p (Zb.enc (mv k))) ae,.var (.p (ZF.enc (c k))) ae]):=
   Y6 (hs:=[.call (.bp [.p (ZF.enc (c k)),.p (.int .i64 (er k))]) [] [],.raw,.raw,.raw,.raw]) (hs':=[])
    (C:=[(0:Nat)=0,(0:Nat)=0,(0:Nat)=0,(0:Nat)=0,ce yb 72 [.p (Zi.enc (ls.getD k default).1),.p (Zb.enc (mv k)),.p (.int .i64 i),.p (Ty.enc .u64 p)] [] (.bp [.p (ZF.enc (c k)),.p (.int .i64 (er k))]) [],(0:Nat)=0]) (by kernel_rfl) ⟨rfl,rfl,rfl,rfl,hcon,rfl,aw⟩ (by kernel_rfl)
  have r7:bD yb (ab l) (.region 7 ZKp af) (lX s i p (ls.getD k default) (mv k) (c k) (er k)) (gO v ls.length ls s i p c k++[fA (λk=>ls.getD k default) k,.var (.p (Zi.enc (ls.getD k default).1)) ae,.var (.p (Zb.enc (mv k))) ae,.var (.p (ZF.enc (c k))) ae]) .normal
   (((lX s i p (ls.getD k default) (mv k) (c k) (er k)).set 31 (.p (.int .i64 (er k)))).set 32 (.p (.bool (er k !=0)))) (gO v ls.length ls s i p c k++[fA (λk=>ls.getD k default) k,.var (.p (Zi.enc (ls.getD k default).1)) ae,.var (.p (Zb.enc (mv k))) ae,.var (.p (ZF.enc (c k))) ae]):=
   Y6 (hs:=[.raw]) (hs':=[]) (C:=[]) (by kernel_rfl) trivial (by kernel_rfl)
  by_cases he:er k=0
  .have hb:(er k !=0)=af:=by rw[he];rfl
   have hC1:=ZHW c k
   have r9:bD yb (ab l) (.region 9 ng af) (((lX s i p (ls.getD k default) (mv k) (c k) (er k)).set 31 (.p (.int .i64 (er k)))).set 32 (.p (.bool (er k !=0)))) (gO v ls.length ls s i p c k++[fA (λk=>ls.getD k default) k,.var (.p (Zi.enc (ls.getD k default).1)) ae,.var (.p (Zb.enc (mv k))) ae,.var (.p (ZF.enc (c k))) ae]) .normal
    _ (gO v ls.length ls s i p c (k+1)++[fA (λk=>ls.getD k default) k,.var (.p (Zi.enc (ls.getD k default).1)) ae,.var (.p (Zb.enc (mv k))) ae,.var (.p (ZF.enc (c k))) ae]):=
    ZJN (l:=[ba ng 0,ba ng 1,ba ng 2,ba ng 3]) (o:=ba ng 4) (d:=.an) (hs:=[.iH])
     (ts1:=((((((lX s i p (ls.getD k default) (mv k) (c k) (er k)).set 31 (.p (.int .i64 (er k)))).set 32 (.p (.bool (er k !=0)))).set 34 (.own 6 ad 4 (eY c k))).set 35 (.p (ZF.enc (c k)))).set 36 (.p (.sl (ab ae) 4 [ZF.enc (c k)]))).set 37 (.own 6 ad 4 (eY c k++[ZF.enc (c k)])))
     (H1:=iq v ls.length ls s i p (.own 6 ad 4 (eY c k)) (eY c k++[ZF.enc (c k)]) 0++[.var (.aj 0 0 []) ae,.var (.p (Zb.enc s)) ae,fA (λk=>ls.getD k default) k,.var (.p (Zi.enc (ls.getD k default).1)) ae,.var (.p (Zb.enc (mv k))) ae,.var (.p (ZF.enc (c k))) ae])
     (C:=[(0:Nat)=0,(0:Nat)=0,eY c k=eY c k,((eY c k).length+1)*80<=Zt,(eY c k).length+1<=maxLen]) (by kernel_rfl) (by kernel_rfl) ⟨rfl,rfl,rfl,by rw[hC1];simp only[Zt];omega,by rw[hC1];simp only[maxLen];omega,aw⟩ (by kernel_rfl) (by kernel_rfl) (by kernel_rfl)
     (λσ a ok hH yM=>by
       have h:=vv (P:=yb) (o:=ba ng 4) (t:=102) (x:=.tmp 8) (y:=.tmp 37) (id:=5) (off:=0) (yQ:=[]) (dd:=.own 6 ad 4 (eY c k)) (sub:=.own 6 ad 4 (eY c k)) (new:=.own 6 ad 4 (eY c k++[ZF.enc (c k)])) (dd':=.own 6 ad 4 (eY c k++[ZF.enc (c k)])) (C1:=[]) (off':=0) (hs:=[]) (hs':=[]) ok yM
        (by kernel_rfl) (by kernel_rfl) (by rw[hH];kernel_rfl) (by kernel_rfl) trivial rfl (by kernel_rfl) (by kernel_rfl) (by kernel_rfl) (by kernel_rfl) (by kernel_rfl) (by kernel_rfl)
       rw[hH]at h;exact Vr h (Wk.refl _) (bZ.of_eq (by kernel_rfl)))
   have hgo:(λk=>ag (er k=0)) k=ae:=by simp[he]
   refine⟨_,((((((lX s i p (ls.getD k default) (mv k) (c k) (er k)).set 31 (.p (.int .i64 (er k)))).set 32 (.p (.bool (er k !=0)))).set 34 (.own 6 ad 4 (eY c k))).set 35 (.p (ZF.enc (c k)))).set 36 (.p (.sl (ab ae) 4 [ZF.enc (c k)]))).set 37 (.own 6 ad 4 (eY c k++[ZF.enc (c k)])),_,gO v ls.length ls s i p c (k+1)++[fA (λk=>ls.getD k default) k,.var (.p (Zi.enc (ls.getD k default).1)) ae,.var (.p (Zb.enc (mv k))) ae,.var (.p (ZF.enc (c k))) ae],rA, ?_, ?_⟩
   .rw[yW hgo];refine RF (iW rB (iW (iW r7 (ux (b:=er k !=0) (by kernel_rfl) ?_)) r9)) (λj h=>by cases h);rw[hb];exact RD
   .rw[yW hgo]
    kernel_rfl
  .have hb:(er k !=0)=ae:=by simpa using he
   have hgo:¬((λk=>ag (er k=0)) k=ae):=by simp[he]
   have r8:bD yb (ab l) (.region 8 AS af) (((lX s i p (ls.getD k default) (mv k) (c k) (er k)).set 31 (.p (.int .i64 (er k)))).set 32 (.p (.bool (er k !=0)))) (gO v ls.length ls s i p c k++[fA (λk=>ls.getD k default) k,.var (.p (Zi.enc (ls.getD k default).1)) ae,.var (.p (Zb.enc (mv k))) ae,.var (.p (ZF.enc (c k))) ae]) .normal
    ((((lX s i p (ls.getD k default) (mv k) (c k) (er k)).set 31 (.p (.int .i64 (er k)))).set 32 (.p (.bool (er k !=0)))).set 33 (.p (.int .i64 (er k)))) (AU v ls.length ls s i p c er k++[fA (λk=>ls.getD k default) k,.var (.p (Zi.enc (ls.getD k default).1)) ae,.var (.p (Zb.enc (mv k))) ae,.var (.p (ZF.enc (c k))) ae]):=
    Y6 (hs:=[.raw,.raw,.raw]) (hs':=[]) (C:=[(0:Nat)=0,(0:Nat)=0]) (by kernel_rfl) ⟨rfl,rfl,aw⟩ (by kernel_rfl)
   refine⟨_,(((lX s i p (ls.getD k default) (mv k) (c k) (er k)).set 31 (.p (.int .i64 (er k)))).set 32 (.p (.bool (er k !=0)))).set 33 (.p (.int .i64 (er k))),_,AU v ls.length ls s i p c er k++[fA (λk=>ls.getD k default) k,.var (.p (Zi.enc (ls.getD k default).1)) ae,.var (.p (Zb.enc (mv k))) ae,.var (.p (ZF.enc (c k))) ae],rA, ?_, ?_⟩
   .rw[yX hgo];refine RF (iW rB (ZJO (iW r7 (ux (b:=er k !=0) (by kernel_rfl) ?_)) (by decide))) (λj h=>by cases h);rw[show(if(er k !=0)=ae then Code.seq (.region 8 AS af) .ret else .skip)=Code.seq (.region 8 AS af) .ret from yW hb]
    exact iW r8 RE
   .rw[yX hgo]
    kernel_rfl
 bC:=by kernel_rfl
theorem RO{fn:Func}(f:fn.results= #[.cell 8 102,.cell 9 50]){v:Nat}{ls:yL Zs}{s:yG}{i:Int}{p:yU}{o:Pl}{lg:yL Pl}{e:Int}{E:yL aq}{ts:yL Dv}(ho:gi yb 102 (.p o)=ae)(g:ts[8]? =ab (.aj 5 0 []))(h:ts[9]? =ab (.aj 7 0 [])):
 fin yb fn ts (iq v ls.length ls s i p (.p o) lg e++E) 2 [] []=ab ([(0:Nat)=0,(0:Nat)=0],.bp [.p o,.p (.int .i64 e)],[eN v ls.length,eO v ls.length ls]):=by
 unfold fin;rw[f];have g:ts.getD 8 .an=.aj 5 0 []:=by rw[ycx,g];rfl
 have h:ts.getD 9 .an=.aj 7 0 []:=by rw[ycx,h];rfl
 have j:gB yb ts (iq v ls.length ls s i p (.p o) lg e++E) [.cell 8 102,.cell 9 50] []=ab ([(0:Nat)=0,(0:Nat)=0],[.p o,.p (.int .i64 e)]):=by
  unfold gB;rw[g];dsimp only;rw[show(iq v ls.length ls s i p (.p o) lg e++E)[5]? =ab (.var (.p o) ae) from by kernel_rfl]
  dsimp only[Yd];rw[yW ho];unfold gB;rw[h]
  kernel_rfl
 show(match gB yb ts _ [.cell 8 102,.cell 9 50] [] with|some (C,l)=>_|none=>ad)=_
 rw[j]
 kernel_rfl
theorem RP{v:Nat}{ls:yL Zs}{s:yG}{i:Int}{p:yU}{c:Nat->WW}{er:Nat->Int}{mv:Nat->yG}{rt:Nat->Bool}{res:Dv}(hl:ls.length<=1000)(hm:∀k,k < ls.length->ZP yD s (ls.getD k default).2.1=ab (mv k))
 (hr:∀k,k < ls.length->au yD (ls.getD k default).1 (mv k)=ab (rt k)) (Q:(yo ls.length).all rt=ae->∀k,k < ls.length->WM yD (ls.getD k default).1 (mv k) i p=ab (c k,er k))
 (q0:(yo ls.length).all rt=af->res=.bp [.p (.sl (ab af) 4 []),.p (.int .i64 14)])
 (q1:(yo ls.length).all rt=ae->(∀k,k < ls.length->er k=0)->res=.bp [.p (.sl ad 4 (eY c ls.length)),.p (.int .i64 0)])
 (q2:(yo ls.length).all rt=ae->∀k,k < ls.length->er k≠0->(∀j,j < k->er j=0)->res=.bp [.p (.sl (ab af) 4 []),.p (.int .i64 (er k))]):
 ce yb 28 [.aj 0 0 [],.p (Zb.enc s),.p (.int .i64 i),.p (Ty.enc .u64 p)] [eN v ls.length,eO v ls.length ls] res [eN v ls.length,eO v ls.length ls]:=by
 obtain⟨fn,hf,hb,hnt,g⟩:=ZHV;refine Zvt hf hb ?_;intro m σ a ok hH yM hd;rw[hnt]at yM;have y:=ZJQ (v:=v) hl hm hr;obtain⟨b,hbb⟩:∃b,(yo ls.length).all rt=b:=⟨_,rfl⟩;rw[hbb]at y Q q0 q1 q2;unfold RM
 have r0:bD yb ad (.region 0 ZKq af) ([.aj 0 0 [],.p (Zb.enc s),.p (.int .i64 i),.p (Ty.enc .u64 p)]++yx 35 .an) [eN v ls.length,eO v ls.length ls] .normal (AV s i p) (iq v ls.length ls s i p (.own 6 ad 4 []) [] 0):=
  Y6 (hs:=[.raw,.raw,.raw,.cq [] 4 115,.raw,.raw]) (hs':=[]) (C:=[]) (by kernel_rfl) trivial (by kernel_rfl)
 have r1:bD yb ad (.region 1 AT af) (AV s i p) (iq v ls.length ls s i p (.own 6 ad 4 []) [] 0) .normal (uB s i p b) (iq v ls.length ls s i p (.own 6 ad 4 []) [] 0):=
  Y6 (hs:=[.raw,.call (.p (.bool b)) [eN v ls.length,eO v ls.length ls] [0,1]]) (hs':=[]) (C:=[(0:Nat)=0,ce yb 27 [.aj 0 0 [],.p (Zb.enc s)] [eN v ls.length,eO v ls.length ls] (.p (.bool b)) [eN v ls.length,eO v ls.length ls]]) (by kernel_rfl) ⟨rfl,y,aw⟩ (by kernel_rfl)
 refine wpIn_seq (wpIn_mono (r0 m σ a ok hH yM) ?_);rintro e a1 w1 ⟨rfl,R,σ1,rfl,e1,S,T,z⟩
 cases b with
 |false=>
  have r2:bD yb ad (.seq (.region 1 AT af) (.cond (.tmp 17) (.seq (.region 2 RK af) .ret) .skip)) (AV s i p) (iq v ls.length ls s i p (.own 6 ad 4 []) [] 0) .ret (uB s i p af) (iq v ls.length ls s i p (.p (.sl (ab af) 4 [])) [] 14):=
   iW r1 (ux (b:=ae) (by kernel_rfl) (iW (Y6 (hs:=[.raw,.raw]) (hs':=[]) (C:=[(0:Nat)=0,(0:Nat)=0]) (by kernel_rfl) ⟨rfl,rfl,aw⟩ (by kernel_rfl)) RE))
  refine wpIn_seq (wpIn_mono (r2 m σ1 a1 T e1 z) ?_);rintro e a2 w2 ⟨rfl,A,σ2,rfl,e2,F,G,h⟩;refine⟨.inl rfl,σ2,_,_,[],[],[(0:Nat)=0,(0:Nat)=0],rfl,S.trans F,G,e2,h, ?_,⟨rfl,rfl,aw⟩,.inl (A.trans (R.trans hd))⟩;rw[q0 rfl];have:=RO (E:=[]) g (v:=v) (ls:=ls) (s:=s) (i:=i) (p:=p) (o:=.sl (ab af) 4 []) (lg:=[]) (e:=14) (ts:=uB s i p af) (by kernel_rfl) (by kernel_rfl) (by kernel_rfl)
  rwa [ybf]at this
 |true=>
  have r2:bD yb ad (.seq (.region 1 AT af) (.cond (.tmp 17) (.seq (.region 2 RK af) .ret) .skip)) (AV s i p) (iq v ls.length ls s i p (.own 6 ad 4 []) [] 0) .normal (uB s i p ae) (iq v ls.length ls s i p (.own 6 ad 4 []) [] 0):=
   iW r1 (ux (b:=af) (by kernel_rfl) RD)
  have r3:bD yb ad (.region 3 ZKr af) (uB s i p ae) (iq v ls.length ls s i p (.own 6 ad 4 []) [] 0) .normal (kW s i p) (gO v ls.length ls s i p c 0):=
   Y6 (hs:=[.raw,.call (.fn 128 [.aj 2 0 [],.aj 3 0 []]) [eN v ls.length,eO v ls.length ls,.var (.aj 0 0 []) ae,.var (.p (Zb.enc s)) ae] [0,1]]) (hs':=[])
    (C:=[(0:Nat)=0,ce yb 71 [.aj 0 0 [],.p (Zb.enc s)] [eN v ls.length,eO v ls.length ls] (.fn 128 [.aj 2 0 [],.aj 3 0 []]) [eN v ls.length,eO v ls.length ls,.var (.aj 0 0 []) ae,.var (.p (Zb.enc s)) ae]]) (by kernel_rfl) ⟨rfl,Ztq v ls.length ls s,aw⟩ (by kernel_rfl)
  have Q:=Q rfl;refine wpIn_seq (wpIn_mono (r2 m σ1 a1 T e1 z) ?_);rintro e a2 w2 ⟨rfl,A,σ2,rfl,e2,F,G,h⟩;refine wpIn_seq (wpIn_seq (wpIn_mono (r3 m σ2 a2 G e2 h) ?_));rintro e a3 w3 ⟨rfl,hd3,σ3,rfl,e3,to3,ok3,U⟩;have W:a3.defers=[]:=hd3.trans (A.trans (R.trans hd));have h8:(kW s i p)[8]? =ab (.aj 5 0 []):=by kernel_rfl
  have h9:(kW s i p)[9]? =ab (.aj 7 0 []):=by kernel_rfl
  have f:=(S.trans F).trans to3;refine wpIn_block (Zz0 (ZL8 (i:=i) (p:=p) (c:=c) (er:=er) (rt:=λk=>ag (er k=0)) hl hm) ok3 rfl e3 U W (by kernel_rfl) rfl (ZL9 hl Q) m _ (λσ' a' zU ht to I e' l J=> ?_) (λσ' a' k hkn hg zU ht to I e' l J=> ?_))
  .have r10:bD yb ad (.region 10 ZHS af) (kW s i p) (gO v ls.length ls s i p c ls.length) .normal ((kW s i p).set 38 (.own 6 ad 4 (eY c ls.length))) (iq v ls.length ls s i p (.p (.sl ad 4 (eY c ls.length))) (eY c ls.length) 0++[.var (.aj 0 0 []) ae,.var (.p (Zb.enc s)) ae]):=
    Y6 (hs:=[.raw,.raw]) (hs':=[]) (C:=[(0:Nat)=0,(0:Nat)=0,(0:Nat)=0]) (by kernel_rfl) ⟨rfl,rfl,rfl,aw⟩ (by kernel_rfl)
   refine wpIn_seq (wpIn_mono (r10 m σ' a' I e' l) ?_);rintro e a4 w4 ⟨rfl,hd4,σ4,rfl,e4,M,ok4,X⟩;refine wpIn_ret ⟨.inl rfl,σ4,_,_,[],[],[(0:Nat)=0,(0:Nat)=0],rfl,(f.trans to).trans M,ok4,e4,X, ?_,⟨rfl,rfl,aw⟩, ?_⟩
   .rw[q1 rfl λk Q=>by simpa using zU k Q];exact RO g (by kernel_rfl) (by kernel_rfl) (by kernel_rfl)
   .rw[hd4];rcases J with J|⟨D,m1,m2,Z,m4⟩
    .exact .inl J
    .have Y:=oO m4;exact .inr ⟨D,m1,ybt f.size m2,AP M Y Z,(M.block D Y Z).trans m4⟩
  .refine⟨.inl rfl,σ',kW s i p,_,[],[],[(0:Nat)=0,(0:Nat)=0],rfl,f.trans to,I,e',l, ?_,⟨rfl,rfl,aw⟩, ?_⟩
   .rw[q2 rfl k hkn (by simpa using hg) λj hj=>by simpa using zU j hj];exact RO g (by kernel_rfl) h8 h9
   .rcases J with J|⟨D,m1,m2,Z,m4⟩
    .exact .inl J
    .exact .inr ⟨D,m1,ybt f.size m2,Z,m4⟩
def AW(F:Nat)(s:yG)(ls:yL Zs):yO (yL Bool):=
 ls.foldr (λx o=>(ZP F s x.2.1).bind λt=>(au F x.1 t).bind λb=>o.bind λl=>ab (b::l)) (ab [])
theorem ZEG(F:Nat)(s:yG)(x:Zs)(r:yL Zs):AW F s (x::r)=(ZP F s x.2.1).bind λt=>(au F x.1 t).bind λb=>(AW F s r).bind λl=>ab (b::l):=rfl
def AX(F:Nat)(s:yG)(i:Int)(p:yU)(ls:yL Zs):yO (yL (WW×Int)):=
 ls.foldr (λx o=>(ZP F s x.2.1).bind λt=>(WM F x.1 t i p).bind λc=>o.bind λl=>ab (c::l)) (ab [])
theorem ZEH(F:Nat)(s:yG)(i:Int)(p:yU)(x:Zs)(r:yL Zs):AX F s i p (x::r)=(ZP F s x.2.1).bind λt=>(WM F x.1 t i p).bind λc=>(AX F s i p r).bind λl=>ab (c::l):=rfl
def QS(F:Nat)(s:yG)(i:Int)(p:yU)(w:yL (Ty.aO []))(ls:yL Zs):yO (yL WW×Int×yL (Ty.aO [])×yL Zs):=
 if ls.length<=1000 then(AW F s ls).bind λl=>if l.all id=ae then(AX F s i p ls).bind λm=>(match m.find? λq=>q.2 !=0 with|some q=>ab ([],q.2,w,ls)|none=>ab (m.map λq=>q.1,0,w,ls)) else ab ([],14,w,ls) else ad
theorem Zvw{F:Nat}{s:yG}:∀{ls:yL Zs}{l:yL Bool},AW F s ls=ab l->l.length=ls.length/\∀k,k < ls.length->∃t,ZP F s (ls.getD k default).2.1=ab t/\au F (ls.getD k default).1 t=ab (l.getD k af)
 |[],l,h=>by cases (show ab []=ab l from h);exact⟨rfl,λk f=>absurd f (Nat.not_lt_zero _)⟩
 |x::r,l,h=>by
  rw[ZEG]at h;obtain⟨t,j,h⟩:=yf.1 h;obtain⟨b,m,h⟩:=yf.1 h;obtain⟨y,g,h⟩:=yf.1 h;cases h;obtain⟨e,z⟩:=Zvw g;grind
theorem Zvx{F:Nat}{s:yG}{i:Int}{p:yU}:∀{ls:yL Zs}{l:yL (WW×Int)},AX F s i p ls=ab l->l.length=ls.length/\∀k,k < ls.length->∃t,ZP F s (ls.getD k default).2.1=ab t/\WM F (ls.getD k default).1 t i p=ab (l.getD k default)
 |[],l,h=>by cases (show ab []=ab l from h);exact⟨rfl,λk f=>absurd f (Nat.not_lt_zero _)⟩
 |x::r,l,h=>by
  rw[ZEH]at h;obtain⟨t,j,h⟩:=yf.1 h;obtain⟨b,m,h⟩:=yf.1 h;obtain⟨y,g,h⟩:=yf.1 h;cases h;obtain⟨e,z⟩:=Zvx g;grind
theorem Zz3:∀(l:yL Bool),(yo l.length).all (λk=>l.getD k af)=l.all id
 |[]=>rfl
 |b::l=>by
  rw[yaf,List.range_succ_eq_map,List.all_cons,List.all_map,List.all_cons];exact congrArg (b&& ·) (Zz3 l)
theorem RQ{α:Type}{p:α->Bool}{d:α}:∀(l:yL α)(k:Nat),k < l.length->p (l.getD k d)=ae->(∀j,j < k->p (l.getD j d)=af)->l.find? p=ab (l.getD k d)
 |[],k,h,_,_=>absurd h (Nat.not_lt_zero _)
 |x::l,0,_,h,_=>by
  grind
 |x::l,k+1,g,h,f=>by
  have m:p x=af:=f 0 (Nat.succ_pos _);rw[List.find?_cons,m];exact RQ l k (by simpa using g) h λj y=>f (j+1) (by omega)
theorem Zvy{l:yL (WW×Int)}:∀(k:Nat),k<=l.length->eY (λk=>(l.getD k default).1) k=(l.map λq=>ZF.enc q.1).take k
 |0,_=>rfl
 |k+1,h=>by
  have f:k < l.length:=h;rw[eY,Zvy k (by omega),List.take_add_one,List.getElem?_map,yab f];grind
theorem ZMa{a f b:Pl}(h:bJ a f):Wk (.bp [.p a,.p b]) (.bp [.p f,.p b]):=⟨rfl,rfl,λσ vs r=>by
 simp only[yH,aH]at r ⊢;obtain⟨g,rfl,v,j,l,m,y⟩:=r;exact⟨g,rfl,v,j,l,(Wk.p h).dv m,y⟩⟩
abbrev RR:yL bG:=[.var (.agg [.rw 1]) ae,.row Zv ae 112]
theorem ZNo(w:yL (Ty.aO []))(ls:yL Zs):aJ [.var (.agg [.rw 1]) ae,.aY Zv w ae 112 ls]=[eN w.length ls.length,eO w.length ls.length ls]:=by
 have f:=(pE (L:=lk [.var (.agg [.rw 1]) ae,.aY Zv w ae 112 ls]) (id:=1) (v:=w) (s:=60) (N:=ls.length) (by kernel_rfl)).1;show[aq.var (.agg [(TD.rw 1).er (lk [.var (.agg [.rw 1]) ae,.aY Zv w ae 112 ls])]) ae,aq.row w.length Zv.size ae 112 (.p (.arr ls.length Zv.size (ls.map Zv.enc)))]=_;rw[f];rfl
def VI(F:Nat):Fs yb:=⟨28,[.aj 0 [],.v Zb,.v (.int .i64),.v .u64],RR,[Zb,(.int .i64),.u64,aMW,(.sl Zv)],[⟨.ret,[(0,.bp [.v (.sl ZF),.v (.int .i64)])],RR,[(.sl ZF),(.int .i64),aMW,(.sl Zv)]⟩],
 λx=>QS F x.1 x.2.1 x.2.2.1 x.2.2.2.1 x.2.2.2.2⟩
def ZiS:Fs yb:=VI yD
theorem Zib:ZiS.Ok:=by
 rintro⟨(s:yG),(i:Int),(p:yU),(w:yL (Ty.aO [])),(ls:yL Zs)⟩ o h
 replace h:QS yD s i p w ls=ab o:=h
 unfold QS at h;split at h
 .rename_i W;obtain⟨l,h1,J⟩:=yf.1 h;obtain⟨e,k0⟩:=Zvw h1
  have ho:∃m e,o=(m,e,w,ls):=by
   split at J
   .obtain⟨m,_,M⟩:=yf.1 J;split at M <;> cases M <;> exact⟨_,_,rfl⟩
   .cases J;exact⟨_,_,rfl⟩
  obtain⟨R,S,rfl⟩:=ho;refine⟨[.aj 0 [],.p (.v Zb s),.p (.v (.int .i64) i),.p (.v .u64 p)],[⟨.sl (.st []),w⟩,⟨.sl Zv,ls⟩],[.var (.agg [.rw 1]) ae,.aY Zv w ae 112 ls],by kernel_rfl,by kernel_rfl,λx vs s' hs hf=> ?_⟩;obtain⟨rfl,rfl⟩:=hs
  have hs':s'=([.bp [.p (.v (.sl ZF) R),.p (.v (.int .i64) S)]],[.var (.agg [.rw 1]) ae,.aY Zv w ae 112 ls]):=by
   have M:V6 1 [(0,.bp [.v (.sl ZF),.v (.int .i64)])] RR (dD [(.sl ZF),(.int .i64),aMW,(.sl Zv)] (R,S,w,ls))=ab ([.bp [.p (.v (.sl ZF) R),.p (.v (.int .i64) S)]],[.var (.agg [.rw 1]) ae,.aY Zv w ae 112 ls]):=by kernel_rfl
   exact(ybl (M.symm.trans hf)).symm
  subst hs';refine⟨_,rfl, ?_⟩;show ce yb 28 (TD.aG (lk [.var (.agg [.rw 1]) ae,.aY Zv w ae 112 ls]) [.aj 0 [],.p (.v Zb s),.p (.v (.int .i64) i),.p (.v .u64 p)]) (aJ [.var (.agg [.rw 1]) ae,.aY Zv w ae 112 ls]) ((TD.bp [.p (.v (.sl ZF) R),.p (.v (.int .i64) S)]).er (lk [.var (.agg [.rw 1]) ae,.aY Zv w ae 112 ls])) (aJ [.var (.agg [.rw 1]) ae,.aY Zv w ae 112 ls]);rw[ZNo];show ce yb 28 [.aj 0 0 [],.p (Zb.enc s),.p (.int .i64 i),.p (Ty.enc .u64 p)] [eN w.length ls.length,eO w.length ls.length ls] (.bp [.p (.sl ad 4 (R.map ZF.enc)),.p (.int .i64 S)]) [eN w.length ls.length,eO w.length ls.length ls]
  have X:∀k,k < ls.length->ZP yD s (List.getD (α:=Zs) ls k default).2.1=ab ((ZP yD s (List.getD (α:=Zs) ls k default).2.1).getD default):=λk F=>by
   grind
  have Y:∀k,k < ls.length->au yD (List.getD (α:=Zs) ls k default).1 ((ZP yD s (List.getD (α:=Zs) ls k default).2.1).getD default)=ab (l.getD k af):=λk F=>by
   obtain⟨t,t1,t2⟩:=k0 k F;rw[t1];exact t2
  have Q:=Zz3 l;rw[e]at Q;have E:∀(e:Int),Wk (.bp [.p (.sl (ab af) 4 []),.p (.int .i64 e)]) (.bp [.p (.sl ad 4 ([]:yL Pl)),.p (.int .i64 e)]):=λe=>ZMa (bJ.jG bm.nil);split at J
  .rename_i A;obtain⟨m,M,U⟩:=yf.1 J;obtain⟨em,km⟩:=Zvx M
   have F:∀k,k < ls.length->WM yD (List.getD (α:=Zs) ls k default).1 ((ZP yD s (List.getD (α:=Zs) ls k default).2.1).getD default) i p=ab ((m.getD k default).1,(m.getD k default).2):=λk F=>by
    obtain⟨t,t1,t2⟩:=km k F;rw[t1];exact t2
   have hp:∀k,(m.getD k default).2≠0->((m.getD k default).2 !=0)=ae:=λk h=>by simpa using h
   cases y:m.find? (λq=>q.2 !=0) with
   |some q=>
    rw[y]at U;cases U;refine vC (RP (c:=λk=>(m.getD k default).1) (er:=λk=>(m.getD k default).2) (res:=.bp [.p (.sl (ab af) 4 []),.p (.int .i64 q.2)]) W X Y (λ_=>F) (λh=> ?_) (λ_ h=> ?_) (λ_ k Z G T=> ?_)) (E q.2) (bZ.refl _)
    .rw[Q,A]at h;cases h
    .have h5:=List.find?_some y;have h6:=List.mem_of_find?_eq_some y;obtain⟨j,T,hq⟩:=ybg h6;have:=h j (by omega);rw[ycx,yab T,Option.getD_some,hq]at this;rw[this]at h5;simp at h5
    .have:=RQ (p:=λq:WW×Int=>q.2 !=0) m k (by omega) (hp k G) (λj I=>by simpa using T j I);rw[y]at this;cases this
     rfl
   |none=>
    rw[y]at U;cases U;refine vC (RP (c:=λk=>(m.getD k default).1) (er:=λk=>(m.getD k default).2) (res:=.bp [.p (.sl ad 4 (eY (λk=>(m.getD k default).1) ls.length)),.p (.int .i64 0)]) W X Y (λ_=>F) (λh=> ?_) (λ_ _=>rfl) (λ_ k Z G T=> ?_)) (Wk.of_eq ?_) (bZ.refl _)
    .rw[Q,A]at h;cases h
    .have:=RQ (p:=λq:WW×Int=>q.2 !=0) m k (by omega) (hp k G) (λj I=>by simpa using T j I);rw[y]at this;cases this
    .rw[<-em,Zvy m.length (ym _),List.take_of_length_le (by simp)];have hmm:=(List.map_map (l:=m) (f:=λq:WW×Int=>q.1) (g:=λc:WW=>ZF.enc c)).symm;exact congrArg (λl=>Dv.bp [.p (.sl ad 4 l),.p (.int .i64 0)]) hmm
  .rename_i A;cases J;have z:l.all id=af:=by simpa using A
   exact vC (RP (c:=λ_=>default) (er:=λ_=>0) (res:=.bp [.p (.sl (ab af) 4 []),.p (.int .i64 14)]) W X Y (λh=>by rw[Q,z]at h;cases h) (λ_=>rfl) (λh=>by rw[Q,z]at h;cases h) (λh=>by rw[Q,z]at h;cases h)) (E 14) (bZ.refl _)
 .cases h
theorem ZHY{a:Chan}{s:yG}{w:yL ai}{q:Chan×yG×Tx×Int}(h:WL yD a s w=ab q):ce yb 10 [.p (Zi.enc a),.p (Zb.enc s),.p (Ty.enc aMS w)] [] (.bp [.p (Zi.enc q.1),.p (Zb.enc q.2.1),.p (bu.enc q.2.2.1),.p (.int .i64 q.2.2.2)]) []:=by
 obtain⟨g,R,H,f,j,l⟩:=MG (a,s,w) q h;have f:=(show Sh.fills [.v Zi,.v Zb,.v aMS] (dD [Zi,Zb,aMS] (a,s,w))=ab ([.p (.v Zi a),.p (.v Zb s),.p (.v aMS w)],[]) by kernel_rfl).symm.trans f;cases f;cases j;obtain⟨r,m,y⟩:=l _ _ ([.bp [.p (.v Zi q.1),.p (.v Zb q.2.1),.p (.v bu q.2.2.1),.p (.v (.int .i64) q.2.2.2)]],[]) ⟨rfl,rfl⟩ (by kernel_rfl);cases m;exact y
theorem ZHZ{P:yg}{o:yj}{ts:yL Dv}{H:yL aq}{t x id v off i j n s:Nat}{st:Bool}{e:TypeId}{xs ys:yL Pl}{y:Pl}{hs:yL ao}(ho:o.op=.load t (.tmp x))(g:ts.getD x .an=.aZ id v off [i,j])(hH:H[id]? =ab (.row v s st e (.p (.arr n s xs))))
 (h:ys[j]? =ab y) (l:gi P t (.p y)=ae):cD P o ts H (.el (.agg ys)::hs)=ab ([xs[i]? =ab (.agg ys),i*s+(Pl.sizes (ys.take j)+0)=off],.p y,H,hs):=by
 have f:aF P ts 0 (.tmp x)=.aZ id v off [i,j]:=g
 have m:bj P o ts (.el (.agg ys)::hs)=ad:=by
  unfold bj;grind
 have z:bH P o ts H (.el (.agg ys)::hs)=ab ([xs[i]? =ab (.agg ys),i*s+(Pl.sizes (ys.take j)+0)=off],.p y,hs):=by
  unfold bH;rw[ho];dsimp only;rw[f];dsimp only;rw[hH];dsimp only[Yd,Option.map];grind
 unfold cD;grind
noncomputable def RT:Array yj:=match iz (ZX yb 25) 4 with|.region _ ops _=>ops|_=> #[]
noncomputable def ZN5:Nat:=match iz (ZX yb 25) 4 with|.region id _ _=>id|_=>0
theorem ZJU:iz (ZX yb 25) 4=.region ZN5 RT ae:=by kernel_rfl
theorem RU:RT.size=22:=by kernel_rfl
section
variable(x:Zs)(r:yL Zs)(v:Nat)(s:yG)(w:yL ai)(q:Chan×yG×Tx×Int)(e4:aq)
noncomputable def adD:Nat->Dv
 |0=>.aj 1 0 []
 |1=>.aj 1 0 []
 |2=>.aj 1 0 [0]
 |3=>.rv 0 v 60 0 (r.length+1)
 |4=>.aZ 0 v ((0+0)*60) [0+0]
 |5=>.aZ 0 v ((0+0)*60+0) [0+0,0]
 |6=>.p (Zi.enc x.1)
 |7=>.p (Zb.enc s)
 |8=>.p (Ty.enc aMS w)
 |9=>.bp [.p (Zi.enc q.1),.p (Zb.enc q.2.1),.p (bu.enc q.2.2.1),.p (.int .i64 q.2.2.2)]
 |10=>.bp [.p (Zi.enc q.1),.p (Zb.enc q.2.1),.p (bu.enc q.2.2.1),.p (.int .i64 q.2.2.2)]
 |11=>.p (Zi.enc q.1)
 |12=>.p (Zb.enc q.2.1)
 |13=>.p (bu.enc q.2.2.1)
 |14=>.p (.int .i64 q.2.2.2)
 |15=>.aj 5 0 []
 |16=>.aj 6 0 []
 |17=>.aj 7 0 []
 |18=>.an
 |19=>.an
 |20=>.an
 |21=>.p (.int .i64 q.2.2.2)
 |_=>.an
noncomputable def RV:yL NV:=[⟨15,18,35,Zi.enc q.1,.tmp 8,.tmp 32⟩,⟨16,19,39,Zb.enc q.2.1,.tmp 9,.tmp 33⟩,⟨17,20,49,bu.enc q.2.2.1,.tmp 10,.tmp 34⟩]
noncomputable def adH:yL aq:=[aq.row v 60 ae 112 (.p (.arr (r.length+1) 60 ((x::r).map Zv.enc))),aq.var (.agg [.rv 0 v 60 0 (r.length+1)]) ae,aq.var (.p (Zb.enc s)) ae,aq.var (.p (Ty.enc aMS w)) ae,e4]
noncomputable def AY:yL Dv:=(yo 64).map λs=>match s with|0=>.aj 1 0 []|4=>.aj 2 0 []|5=>.aj 3 0 []|6=>.aj 4 0 []|_=>Dv.an
end
noncomputable def adS:Nat->yL Nat×yL Nat
 |0=>([],[0])
 |1=>([0],[])
 |2=>([1],[])
 |3=>([2],[])
 |4=>([3],[])
 |5=>([4],[])
 |6=>([5],[])
 |7=>([],[4])
 |8=>([],[5])
 |9=>([6,7,8],[])
 |10=>([9],[])
 |11=>([10],[])
 |12=>([10],[])
 |13=>([10],[])
 |14=>([10],[])
 |18=>([15,11],[])
 |19=>([16,12],[])
 |20=>([17,13],[])
 |21=>([14],[])
 |_=>([],[])
abbrev ZNp(x:Zs)(r:yL Zs)(v:Nat)(s:yG)(w:yL ai)(q:Chan×yG×Tx×Int)(e4:aq):yL Dv:=dw (AY).length (aT RT.toList) (adD x r v s w q) (AY) [15,16,17,21] [0,5,6]
theorem ZJV(x:Zs)(r:yL Zs)(v:Nat)(s:yG)(w:yL ai)(q:Chan×yG×Tx×Int)(e4:aq)(g:WL yD x.1 s w=ab q):Xv yb (iz (ZX yb 25) 4) (AY) (adH x r v s w e4) .normal (ZNp x r v s w q e4) (adH x r v s w e4++(RV q).map λv=>.var (.p v.p) ae):=by
 rw[ZJU];refine ZDs (by kernel_rfl) (adD x r v s w q) (RV q) adS (by rw[RU];kernel_rfl) (by kernel_rfl) (by rw[RU];kernel_rfl) [15,16,17,21] [0,5,6] (by kernel_rfl) (by kernel_rfl) (by kernel_rfl) (λi f l Z=> ?_) (λk v m=> ?_)
 .rw[RU]at f
  match i,f,l with
  |0,_,_=>exact⟨[.raw],[],by kernel_rfl,aw⟩
  |1,_,_=>exact⟨[],[],by kernel_rfl,aw⟩
  |2,_,_=>exact⟨[],[],by kernel_rfl,aw⟩
  |3,_,_=>exact⟨[],[(0:Nat)=0],by kernel_rfl,by omega,aw⟩
  |4,_,_=>exact⟨[],[(0:Int)<=0,(0:Int) < ((r.length+1:Nat):Int)],by kernel_rfl,by omega,by omega,aw⟩
  |5,_,_=>exact⟨[],[],by kernel_rfl,aw⟩
  |6,_,_=>exact⟨[.el (Zv.enc x)],[((x::r).map Zv.enc)[0+0]? =ab (Zv.enc x),(0+0)*60+(0+0)=(0+0)*60+0],ZHZ (t:=35) (x:=27) (id:=0) (v:=v) (n:=r.length+1) (s:=60) (st:=ae) (e:=112) (xs:=(x::r).map Zv.enc) (i:=0+0) (j:=0) (by kernel_rfl) (by kernel_rfl) (by kernel_rfl) (by kernel_rfl) (by kernel_rfl),rfl,rfl,aw⟩
  |7,_,_=>exact⟨[],[(0:Nat)=0],by kernel_rfl,by omega,aw⟩
  |8,_,_=>exact⟨[],[(0:Nat)=0],by kernel_rfl,by omega,aw⟩
  |9,_,_=>exact⟨[.call (.bp [.p (Zi.enc q.1),.p (Zb.enc q.2.1),.p (bu.enc q.2.2.1),.p (.int .i64 q.2.2.2)]) [] []],[ce yb 10 [.p (Zi.enc x.1),.p (Zb.enc s),.p (Ty.enc aMS w)] [] (.bp [.p (Zi.enc q.1),.p (Zb.enc q.2.1),.p (bu.enc q.2.2.1),.p (.int .i64 q.2.2.2)]) []],by kernel_rfl,ZHY g,aw⟩
  |10,_,_=>exact⟨[.raw],[],by kernel_rfl,aw⟩
  |11,_,_=>exact⟨[],[],by kernel_rfl,aw⟩
  |12,_,_=>exact⟨[],[],by kernel_rfl,aw⟩
  |13,_,_=>exact⟨[],[],by kernel_rfl,aw⟩
  |14,_,_=>exact⟨[],[],by kernel_rfl,aw⟩
  |15,_,h=>exact absurd (show ae=af from h) (by decide)
  |16,_,h=>exact absurd (show ae=af from h) (by decide)
  |17,_,h=>exact absurd (show ae=af from h) (by decide)
  |18,_,h=>exact absurd (show ae=af from h) (by decide)
  |19,_,h=>exact absurd (show ae=af from h) (by decide)
  |20,_,h=>exact absurd (show ae=af from h) (by decide)
  |21,_,_=>exact⟨[.raw],[],by kernel_rfl,aw⟩
  |_+22,h,_=>exact absurd h (by omega)
 .match k,m with
  |0,rfl=>exact⟨by kernel_rfl,by kernel_rfl,by kernel_rfl,by kernel_rfl,by kernel_rfl,by kernel_rfl,by kernel_rfl,by kernel_rfl,by kernel_rfl,by kernel_rfl,by kernel_rfl,by kernel_rfl,by kernel_rfl⟩
  |1,rfl=>exact⟨by kernel_rfl,by kernel_rfl,by kernel_rfl,by kernel_rfl,by kernel_rfl,by kernel_rfl,by kernel_rfl,by kernel_rfl,by kernel_rfl,by kernel_rfl,by kernel_rfl,by kernel_rfl,by kernel_rfl⟩
  |2,rfl=>exact⟨by kernel_rfl,by kernel_rfl,by kernel_rfl,by kernel_rfl,by kernel_rfl,by kernel_rfl,by kernel_rfl,by kernel_rfl,by kernel_rfl,by kernel_rfl,by kernel_rfl,by kernel_rfl,by kernel_rfl⟩
  |_+3,h=>cases h
abbrev ZN6:Type:=yL (Ty.aO [])×yL Zs×yG×yL ai×Tx
abbrev ZN7:Type:=Int×yL (Ty.aO [])×yL Zs×yG×yL ai×Tx×Chan×yG×Tx
noncomputable def ZkW(F:Nat)(a:ZN6):yO ZN7:=
 match a.2.1 with
 |[]=>ad
 |x::r=>(WL F x.1 a.2.2.1 a.2.2.2.1).bind λq=>ab (q.2.2.2,a.1,x::r,a.2.2.1,a.2.2.2.1,a.2.2.2.2,q.1,q.2.1,q.2.2.1)
noncomputable def RW(F:Nat):Lp:=⟨[(0,.aj 1 []),(4,.aj 2 []),(5,.aj 3 []),(6,.aj 4 [])],[.row Zv ae 112,.var (.agg [.rw 0]) ae,.var (.v Zb) ae,.var (.v aMS) ae,.var (.v bu) ae],[aMW,(.sl Zv),Zb,aMS,bu],[⟨.normal,[(0,.aj 1 []),(5,.aj 3 []),(6,.aj 4 []),(8,.aj 5 []),(9,.aj 6 []),(10,.aj 7 []),(11,.v (.int .i64))],[.row Zv ae 112,.var (.agg [.rw 0]) ae,.var (.v Zb) ae,.var (.v aMS) ae,.var (.v bu) ae,.var (.v Zi) ae,.var (.v Zb) ae,.var (.v bu) ae],[.int .i64,aMW,(.sl Zv),Zb,aMS,bu,Zi,Zb,bu]⟩],ZkW F⟩
noncomputable def Zmd:Lp:=RW yD
section
variable(x:Zs)(r:yL Zs)(z0:yL (Ty.aO []))(z2:yG)(z3:yL ai)(z4:Tx)(q:Chan×yG×Tx×Int)
noncomputable def RX:yL TD:=((yo 64).map λs=>match s with|0=>.aj 1 []|4=>.aj 2 []|5=>.aj 3 []|6=>.aj 4 []|_=>TD.an)
noncomputable def RY:yL TD:=((yo 64).map λs=>match s with|0=>.aj 1 []|5=>.aj 3 []|6=>.aj 4 []|8=>.aj 5 []|9=>.aj 6 []|10=>.aj 7 []|11=>.p (.v (.int .i64) q.2.2.2)|_=>TD.an)
noncomputable def nh:yL ah:=[.aY Zv z0 ae 112 (x::r),.var (.agg [.rw 0]) ae,.var (.p (.v Zb z2)) ae,.var (.p (.v aMS z3)) ae,.var (.p (.v bu z4)) ae]
noncomputable def oP:yL ah:=nh x r z0 z2 z3 z4++[.var (.p (.v Zi q.1)) ae,.var (.p (.v Zb q.2.1)) ae,.var (.p (.v bu q.2.2.1)) ae]
noncomputable def adG(v:Nat)(s:yG)(w:yL ai)(e4:aq)(d:Dv):yL aq:=[aq.row v 60 ae 112 (.p (.arr (r.length+1) 60 ((x::r).map Zv.enc))),aq.var (.agg [d]) ae,aq.var (.p (Zb.enc s)) ae,aq.var (.p (Ty.enc aMS w)) ae,e4]
end
theorem ZJW:iA yb 25=64:=by kernel_rfl
theorem ZiT:Zmd.Is yb (iA yb 25) (iz (ZX yb 25) 4):=by
 rw[ZJW];intro v o g s hs e vs F f hs';obtain⟨z0,l,z2,z3,z4⟩:=v
 cases l with
 |nil=>cases g
 |cons x r=>
  obtain⟨q,m,y⟩:=yf.1 (show(WL yD x.1 z2 z3).bind _=ab o from g)
  cases y;obtain⟨rfl,rfl⟩:=f;have z:=ZJV x r z0.length z2 z3 q (.var (.p (bu.enc z4)) ae) m;obtain rfl:=ybl ((show _=ab (RX,nh x r z0 z2 z3 z4) by kernel_rfl).symm.trans hs);obtain rfl:=ybl ((show _=ab (RY q,oP x r z0 z2 z3 z4 q) by kernel_rfl).symm.trans hs');have A:=(pE (L:=lk (nh x r z0 z2 z3 z4)) (id:=0) (v:=z0) (s:=60) (N:=r.length+1) (by kernel_rfl)).1;have E:=(pE (L:=lk (oP x r z0 z2 z3 z4 q)) (id:=0) (v:=z0) (s:=60) (N:=r.length+1) (by kernel_rfl)).1;have h:aJ (nh x r z0 z2 z3 z4)=adG x r z0.length z2 z3 (.var (.p (bu.enc z4)) ae) ((TD.rw 0).er (lk (nh x r z0 z2 z3 z4))):=by kernel_rfl
  have j:aJ (oP x r z0 z2 z3 z4 q)=adG x r z0.length z2 z3 (.var (.p (bu.enc z4)) ae) ((TD.rw 0).er (lk (oP x r z0 z2 z3 z4 q)))++(RV q).map λv=>.var (.p v.p) ae:=by kernel_rfl
  rw[A]at h;rw[E]at j;show Xv yb _ (TD.aG (lk (nh x r z0 z2 z3 z4)) RX) (aJ (nh x r z0 z2 z3 z4)) .normal (TD.aG (lk (oP x r z0 z2 z3 z4 q)) (RY q)) (aJ (oP x r z0 z2 z3 z4 q));rw[show TD.aG (lk (nh x r z0 z2 z3 z4)) RX=AY by kernel_rfl,show TD.aG (lk (oP x r z0 z2 z3 z4 q)) (RY q)=ZNp x r z0.length z2 z3 q (.var (.p (bu.enc z4)) ae) by kernel_rfl,h,j];exact z
end
end Go.Proofs.YtcbhhaigilifgaaGreat
end
