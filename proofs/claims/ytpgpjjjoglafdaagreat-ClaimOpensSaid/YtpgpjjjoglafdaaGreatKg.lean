/- Parts of the proof, in one file. -/
import Derived.Test.YtpgpjjjoglafdaaGreatKf
open BitVec renaming ofInt → ycb
open Int renaming toNat_natCast → yay
open List renaming length_append → yo, getElem?_eq_some_iff → yq, range → yr, nil_append → yx, length_map → yy, getElem?_eq_getElem → yz, append_assoc → yac, map_cons → yad, length_take → yae, length_cons → yah, map_append → yai, take_length → yak, mem_cons_self → yam, getElem?_append_right → yan, mem_singleton → yao, mem_cons_of_mem → yap, append_nil → yar, map_map → yas, getElem?_cons_succ → yav, mem_cons → yax, getElem?_cons_zero → ybd, eq_nil_of_length_eq_zero → ybe, take_append_drop → ybj, mem_map → ybl, mem_append → ybo, getElem_of_mem → ybt, mem_of_mem_take → ybv, not_mem_nil → ycj, take_of_length_le → ycq, mem_of_mem_drop → ycv
open Nat renaming le_refl → ym, mod_eq_of_lt → yaq, mod_lt → ybn, le_trans → ybz
open Option renaming bind_some → ya
open UInt64 renaming ofNat → yaf, toNat_ofNat' → ybb, toNat_lt → ybx, toNat_inj → ycl, le_iff_toNat_le → ycs, lt_iff_toNat_lt → ycu
open UInt8 renaming ofNat → yaz
set_option linter.unusedVariables false
set_option linter.unusedSimpArgs false
section
set_option maxRecDepth 4000
namespace Go.Proofs.YtpgpjjjoglafdaaGreat
open Go Go.Ev
theorem ZFB{m:Nat}(hm:0 < m):∀(f a n o:Nat),o < m->pwm m f a n o < m
 |0,_,_,o,h=>h
 |f+1,a,n,o,h=>by
  rw[pwm];split
  ·exact h
  ·refine ZFB hm f _ _ _ ?_;split
   ·exact ybn _ hm
   ·exact h
theorem ZFC{m:Nat}(hm:1 < m)(k a n:Nat)(h:n < 2 ^ k):pwm m k a n 1=a ^ n % m:=by
 rw[<-yaq (ZFB (by omega) k a n 1 hm),Zvs k a n 1 h,Nat.one_mul]
instance(a:Nat):Decidable (IsPt a):=by unfold IsPt;infer_instance
theorem ZJW{z:Nat}(h:z < mdl):z < 18446744073709551616:=Nat.lt_trans h (by decide)
theorem Zrw{z:Nat}(h:z < mdl):(yaf z).toNat=z:=by
 rw[ybb,yaq (ZJW h)]
theorem Ziv(z:Nat):z % mdl < mdl:=ybn _ (by decide)
theorem Zrx(a n:yU):VM yD a n=some (yaf (a.toNat ^ n.toNat % mdl)):=by
 unfold VM;rw[ZFC (by decide) 64 a.toNat n.toNat (ybx n)];rfl
theorem ZC4{a n:yU}(h:a.toNat < mdl):V1 yD a n=some (yaf (a.toNat ^ n.toNat % mdl)):=by
 unfold V1;rw[yW (yY (show a.toNat < 4611686018427377339 from h)),ZFC (by decide) 64 a.toNat n.toNat (ybx n)]
 rfl
theorem ZFD{z:Nat}(h:z < mdl):(yaf z==1)=decide (z=1):=by
 rw[Bool.eq_iff_iff,yT,yN, <-ycl,Zrw h];rfl
theorem XQ(p:yU):Ys yD p=some (decide (IsPt p.toNat)):=by
 unfold Ys;by_cases h1:0 < p.toNat
 ·rw[yW (yY (show p > 0 from ycu.2 h1))]
  by_cases h2:p.toNat < mdl
  ·rw[yW (yY (show p < 4611686018427377339 from ycu.2 h2)),Zrx,ya,ZFD (Ziv _)]
   congr 1;rw[decide_eq_decide];exact⟨λh=>⟨h1,h2,h⟩,λh=>h.2.2⟩
  ·rw[yX (by rw[yN];exact λh=>h2 (ycu.1 h)),yZ (λh=>h2 h.2.1)]
 ·rw[yX (by rw[yN];exact λh=>h1 (ycu.1 h)),yZ (λh=>h1 h.1)]
theorem ZtQ(p:yU):Wi yD p=some (decide (IsPt p.toNat)):=by
 unfold Wi;by_cases h1:0 < p.toNat
 ·rw[yW (yY (show p >= 1 from ycs.2 h1))]
  by_cases h2:p.toNat < mdl
  ·rw[yW (yY (show p < 4611686018427377339 from ycu.2 h2)),ZC4 h2,ya,ZFD (Ziv _)]
   congr 1;rw[decide_eq_decide];exact⟨λh=>⟨h1,h2,h⟩,λh=>h.2.2⟩
  ·rw[yX (by rw[yN];exact λh=>h2 (ycu.1 h)),yZ (λh=>h2 h.2.1)]
 ·rw[yX (by rw[yN];exact λh=>h1 (ycs.1 h)),yZ (λh=>h1 h.1)]
def tk(p:yU):yU:=if IsPt p.toNat then p else 1
theorem Zyi(p:yU):IsPt (tk p).toNat:=by
 unfold tk;split
 ·assumption
 ·exact ZAb
theorem Zob{p:yU}(h:IsPt p.toNat):tk p=p:=yW h
theorem Zry(p:yU):VN yD p=some (tk p):=by
 unfold VN tk;rw[XQ,ya];by_cases h:IsPt p.toNat
 ·rw[yW (yY h),yW h]
 ·rw[yX (by rw[yN];exact h),yX h]
def sc(p:yU)(n:Nat):yU:=yaf ((tk p).toNat ^ n % mdl)
theorem ZvZ(p:yU)(n:Nat):(sc p n).toNat=(tk p).toNat ^ n % mdl:=Zrw (Ziv _)
theorem ZKS(p:yU)(n:Nat):IsPt (sc p n).toNat:=by
 rw[ZvZ];exact ZJI (Zyi p) n
theorem ZFE(p:yU)(n:Nat):sc p (n % ord)=sc p n:=by
 unfold sc;rw[ZHB (Zyi p)]
theorem ZtR(k:yU):(k % 2305843009213688669).toNat=k.toNat % ord:=by
 rw[UInt64.toNat_mod];rfl
theorem ZhW(p k:yU):WN yD p k=some (sc p k.toNat):=by
 unfold WN;rw[Zry,ya,Zrx,ya,ZtR, <-ZFE];rfl
def B(n:Nat):yU:=sc 4 n
theorem tk4:tk 4=4:=Zob ZFl
theorem ZhX(n:Nat):(B n).toNat=4 ^ n % mdl:=by
 unfold B;rw[ZvZ,tk4];rfl
theorem Zv0(n:Nat):IsPt (B n).toNat:=ZKS 4 n
theorem ZFF(n:Nat):B (n % ord)=B n:=ZFE 4 n
theorem ZLn{n:Nat}(h0:0 < n)(h1:n < ord):B n≠1:=λe=>ZJJ h0 h1 (by rw[<-ZhX,e];rfl)
theorem Wj(k:yU):ZL yD k=some (B k.toNat):=by
 unfold ZL;rw[ZhW,ya];rfl
def ad(p q:yU):yU:=yaf ((tk p).toNat*(tk q).toNat % mdl)
theorem ZAm(p q:yU):(ad p q).toNat=(tk p).toNat*(tk q).toNat % mdl:=Zrw (Ziv _)
theorem ZIu(p q:yU):IsPt (ad p q).toNat:=by
 rw[ZAm];exact ZJH (Zyi p) (Zyi q)
theorem ZFG(a b:yU):Z5 yD a b=some (yaf (a.toNat*b.toNat % mdl)):=ZxQ a b
def ZiM:yL yU->Nat->Nat
 |[],o=>o
 |p::r,o=>ZiM r (o*(tk p).toNat % mdl)
theorem ZBR:∀(l:yL yU)(o:Nat),o < mdl->ZiM l o < mdl
 |[],o,h=>h
 |p::r,o,h=>ZBR r _ (Ziv _)
theorem ZAn{l:yL yU}(hl:l.length<=1000):Zc5 yD l=some (yaf (ZiM l 1)):=by
 have key:∀(k:Nat),k<=l.length->ZiM (l.take k) 1 < mdl:=λk _=>ZBR _ _ (by decide)
 have app:∀(l:yL yU)(p:yU)(o:Nat),ZiM (l++[p]) o=ZiM l o*(tk p).toNat % mdl:=by
  intro l
  induction l with
  |nil=>intro p o;rfl
  |cons q r ih=>intro p o;exact ih p _
 unfold Zc5
 rw[show((1:yU),l,(l.length:Int),(0:Int))=(λk:Nat=>(yaf (ZiM (l.take k) 1),l,(l.length:Int),(k:Int))) 0 from rfl,
  Zs (x:=yaf (ZiM l 1)) l.length (λk:Nat=>(yaf (ZiM (l.take k) 1),l,(l.length:Int),(k:Int))) ?_ ?_ (by omega),ya]
 ·intro k hk;obtain⟨e,he,_⟩:=Zg hk;unfold Za8;dsimp only;rw[yW (ZG hk),Zl he,ya,Zry,ya,ZFG,ya,Zp (by omega),Vl he,app,Zrw (key k (by omega))]
 ·unfold Za8;dsimp only;rw[yX (by rw[Zz];decide),yak]
theorem ZAo(p q:yU):ZaQ yD p q=some (ad p q):=by
 unfold ZaQ;rw[ZAn (by simp),ya];unfold ad ZiM ZiM ZiM;rw[Nat.one_mul,yaq (Zyi p).2.1]
theorem ZFH(p:yU):Zf2 yD p=some (sc p (ord - 1)):=by
 unfold Zf2;rw[Zry,ya,Zrx,ya];rfl
theorem Zrz{z:Nat}:(yaf (z % ord)).toNat=z % ord:=by
 rw[ybb,yaq (Nat.lt_trans (ybn _ (by decide)) (by decide))]
theorem Znf{z:Nat}:z % ord < ord:=ybn _ (by decide)
theorem ZBS(a b:yU):Zdo yD a b=some (yaf ((a.toNat+b.toNat) % ord)):=by
 unfold Zdo ZaV ZbM;rw[ya,ya,ya];congr 1;have ha:a.toNat % ord < ord:=Znf;have hb:b.toNat % ord < ord:=Znf;rw[<-ycl,ZtR,UInt64.toNat_add,ZtR,ZtR,Zrz,yaq (a:=a.toNat % ord+b.toNat % ord) (by unfold ord at*;omega), <-Nat.add_mod]
theorem ZHK(a b:yU):ZfR yD a b=some (yaf (a.toNat*b.toNat % ord)):=by
 unfold ZfR ZaV ZaX Zbq;rw[ya,ya,ya];dsimp only;unfold Xx;rw[yW (by decide),ya,ya,ybb,ybb,ZtR,ZtR];have h:a.toNat % ord*(b.toNat % ord) < 18446744073709551616*18446744073709551616:=Nat.mul_lt_mul'' (Nat.lt_trans Znf (by decide)) (Nat.lt_trans Znf (by decide));have hz:a.toNat % ord*(b.toNat % ord) % ord=a.toNat*b.toNat % ord:=(Nat.mul_mod ..).symm;generalize a.toNat % ord*(b.toNat % ord)=z at*;have h2:z / 18446744073709551616 < 18446744073709551616:=(Nat.div_lt_iff_lt_mul (by decide)).2 h;rw[show(2305843009213688669:yU).toNat=ord from rfl]
 have e:z / 18446744073709551616 % 2 ^ 64*18446744073709551616+z % 18446744073709551616 % 2 ^ 64=z:=by omega
 rw[e,hz]
theorem Zfd(a:yU):Xr yD a=some (decide (a.toNat < ord)):=by
 unfold Xr;congr 1
def Key(k:yU):Prop:=0 < k.toNat/\k.toNat < ord
theorem Zv1{h:yL yB}(hl:h.length=32):∃k,Xz yD h=some k/\Key k:=by
 unfold Xz
 obtain⟨x,h1,h2⟩:=WW (step:=YK yD) 32 (λk s=>∃n:yU,s=(n,h,(k:Int),h)/\n.toNat < 2305843009213688668) (λx=>x.1.toNat < 2305843009213688668) (i:=((0:yU),h,(0:Int),h)) ⟨0,rfl,by decide⟩ (by omega) (by
  rintro k _ hk ⟨n,rfl,hn⟩;left;obtain⟨e,he,_⟩:=Zg (l:=h) (k:=k) (by omega);unfold YK;dsimp only;rw[yW (yY (by omega)),Zl he,ya];unfold Xx;rw[yW (by decide),ya,Zp (by omega)];refine⟨_,rfl,_,rfl, ?_⟩;rw[show(2305843009213688668:yU).toNat=2305843009213688668 from rfl,ybb,yaq]
  ·exact ybn _ (by decide)
  ·exact Nat.lt_trans (ybn _ (by decide)) (by decide)) (by
  rintro _ ⟨n,rfl,hn⟩;unfold YK;dsimp only;rw[yX (ynd (by omega))];exact⟨_,rfl,hn⟩)
 rw[h1,ya];have e:(x.1+1).toNat=x.1.toNat+1:=by rw[UInt64.toNat_add,yaq (by show x.1.toNat+1 < _;omega)];rfl
 exact⟨_,rfl,by rw[e];omega,by rw[e];unfold ord;omega⟩
theorem Zyj{n:Nat}{b:yL yB}(h:b.length<=1000000):∃o,XA yD (n:Int) b=some o/\o.length=b.length+8:=
 ⟨_,Zo0 (by omega),by rw[yo];rfl⟩
theorem ZHL{l:yL yB}(h:l.length<=900000):∃o,Zcu yD l=some o/\o.length=32:=⟨_,ZBM (by omega),Sha.ZK2 l⟩
theorem ZBT{s:ByteArray}{ls:yL (yL yB)}(h1:s.size<=100)(h2:ls.length<=10)(h3:∀l,l∈ls->l.length<=60000):∃o,XX yD s ls=some o/\o.length=32:=by
 unfold XX;obtain⟨o,p1,p2⟩:=Zyj (n:=s.size) (b:=[]) (by simp)
 have hsl:(ZdB s).length=s.size:=by
  unfold ZdB;rw[Array.length_toList];rfl
 rw[p1,ya,yW (ZX (by rw[hsl,p2];simp;omega) (by rw[hsl,p2];simp;omega))];refine Exists.elim (XV (step:=X6 yD) (λx=>x.1=ls/\x.2.1=(ls.length:Int)/\0<=x.2.2.1/\x.2.2.1<=(ls.length:Int)/\x.2.2.2.2.length<=200+60100*x.2.2.1.toNat) (λx=>((ls.length:Int) - x.2.2.1).toNat) (λx=>x.2.length<=700000) ?_ (ls,(ls.length:Int),(0:Int),yzz,o++ZdB s) ⟨rfl,rfl,Int.le_refl _,by dsimp only;omega,by dsimp only;rw[yo,p2,hsl];simp;omega⟩ (by dsimp only;omega)) ?_
 rotate_left
 ·rintro q ⟨q1,q2⟩;rw[q1,ya];obtain⟨r,r1,r2⟩:=ZHL (l:=q.2) (by omega);rw[r1,ya];exact⟨_,rfl,r2⟩
 ·rintro⟨a,n,i,c,d⟩ ⟨k1,k2,k3,k4,k5⟩;dsimp only at k1 k2 k3 k4 k5;subst k1;subst k2;unfold X6;dsimp only;by_cases hi:i < (a.length:Int)
  ·left;obtain⟨e,he⟩:=Zaa (l:=a) (i:=i.toNat) (by omega);have hel:=h3 e (List.mem_of_getElem? he);obtain⟨x,x1,x2⟩:=Zyj (n:=e.length) (b:=d) (by omega);rw[yW (yY hi),Zil k3 he,ya,x1,ya,yW (ZX (by omega) (by omega)),ZP (z:=i+1) (by omega) (by omega)];exact⟨_,rfl,⟨rfl,rfl,by dsimp only;omega,by dsimp only;omega,by dsimp only;rw[yo];omega⟩,by dsimp only;omega⟩
  ·right;rw[yX (by simpa using hi)];exact⟨_,rfl,by dsimp only;omega⟩
theorem ZLo(m n:Nat):ad (B m) (B n)=B (m+n):=by
 rw[<-ycl,ZAm,Zob (Zv0 m),Zob (Zv0 n),ZhX,ZhX,ZhX,Nat.pow_add, <-Nat.mul_mod]
theorem ZLp(m n:Nat):sc (B m) n=B (m*n):=by
 rw[<-ycl,ZvZ,Zob (Zv0 m),ZhX,ZhX,Nat.pow_mul, <-Nat.pow_mod]
theorem ZIv(z:Nat):B (yaf (z % ord)).toNat=B z:=by rw[Zrz,ZFF]
theorem ZtS{ls:yL (yL yB)}(h:ls.flatten.length<=1000000000)(hn:ls.length<=1000):Yn yD ls=some ls.flatten:=by
 unfold Yn
 rw[show(ls,(0:Int),ls,(ls.length:Int),(0:Int))=(λk:Nat=>(ls,((ls.take k).flatten.length:Int),ls,(ls.length:Int),(k:Int))) 0 from rfl,
  Zs (x:=(ls,(ls.flatten.length:Int))) ls.length (λk:Nat=>(ls,((ls.take k).flatten.length:Int),ls,(ls.length:Int),(k:Int))) ?_ ?_ (by omega),ya]
 ·have hg:Zqf (ls.flatten.length:Int)=some []:=by
   unfold Zqf;rw[yW];rw[Bool.and_eq_true];exact⟨yY (by omega),yY (by unfold Zk;omega)⟩
  dsimp only
  rw[hg,ya,show(ls,(ls.length:Int),(0:Int),([]:yL yB))=(λk:Nat=>(ls,(ls.length:Int),(k:Int),(ls.take k).flatten)) 0 from rfl,
   Zs (x:=ls.flatten) ls.length (λk:Nat=>(ls,(ls.length:Int),(k:Int),(ls.take k).flatten)) ?_ ?_ (by omega),ya]
  ·intro k hk;obtain⟨e,he,_⟩:=Zg hk;have hf:=ZtP he;have hl:=ZBQ ls (k+1);rw[hf,yo] at hl;unfold YF;dsimp only;rw[yW (ZG hk),Zl he,ya,yW (ZX (by omega) (by omega)),Zp (by omega),hf]
  ·unfold YF;dsimp only;rw[yX (by rw[Zz];decide),yak]
 ·intro k hk;obtain⟨e,he,_⟩:=Zg hk;have hf:=ZtP he;have hl:=ZBQ ls (k+1);rw[hf,yo] at hl;unfold YE;dsimp only;rw[yW (ZG hk),Zl he,ya,ZP (z:=((ls.take k).flatten.length:Int)+(e.length:Int)) (by omega) (by omega),yX (ynd (by omega)),Zp (by omega),hf,yo];rfl
 ·unfold YE;dsimp only;rw[yX (by rw[Zz];decide),yak]
theorem Zv2{a b:yL yB}(h:a.length+b.length<=1000000000):Qz yD a b=some (a++b):=by
 unfold Qz;rw[ZtS (by simp;omega) (by simp),ya];simp
def Xl(n:Nat):yL yB:=if h:n < 128 then[yaz n] else yaz (n % 128+128)::Xl (n / 128)
termination_by n
decreasing_by omega
theorem Zdu{n:Nat}(h:n < 128):Xl n=[yaz n]:=by rw[Xl,dif_pos h]
theorem ZrA{n:Nat}(h:¬n < 128):Xl n=yaz (n % 128+128)::Xl (n / 128):=by rw[Xl,dif_neg h]
theorem ZBU:∀(j n:Nat),n < 128 ^ (j+1)->(Xl n).length<=j+1
 |0,n,h=>by rw[Zdu (by omega)];exact ym _
 |j+1,n,h=>by
  by_cases h0:n < 128
  ·rw[Zdu h0,List.length_singleton];omega
  ·rw[ZrA h0];have:=ZBU j (n / 128) (by rw[Nat.pow_succ] at h;omega);simp only[yah];omega
theorem ZS{n:Nat}(h:n<=9223372036854775807):(Xl n).length<=9:=ZBU 8 n (by omega)
theorem ZFI{n:Nat}(h:n<=9223372036854775807):Ze2 yD (n:Int)=some (Xl n):=by
 unfold Ze2;refine Exists.elim (XV (step:=Zcj yD) (λs=>∃m:Nat,s.1=(m:Int)/\m<=n/\s.2++Xl m=Xl n) (λs=>s.1.toNat) (λx=>∃m:Nat,x.1=(m:Int)/\m < 128/\x.2++Xl m=Xl n) ?_ ((n:Int),([]:yL yB)) ⟨n,rfl,ym _,rfl⟩ (by dsimp only;omega)) ?_
 ·rintro⟨_,o⟩ ⟨m,rfl,hm,ho⟩;unfold Zcj;dsimp only at ho ⊢;have hr:=congrArg List.length ho;have hl:=ZS h;rw[yo] at hr;by_cases h1:m < 128
  ·right;rw[yX (ynd (by omega))];exact⟨_,rfl,m,rfl,h1,ho⟩
  ·left;rw[yW (yY (by omega)),yW (ZX (by omega) (by omega))];have e1:Int.tmod (m:Int) 128=((m % 128:Nat):Int):=rfl;have e2:Int.tdiv (m:Int) 128=((m / 128:Nat):Int):=rfl;rw[e1,e2,ZP (z:=((m % 128:Nat):Int)+128) (by omega) (by omega),ZP (z:=((m / 128:Nat):Int)) (by omega) (by omega)];refine⟨_,rfl,⟨m / 128,rfl,by omega, ?_⟩,by dsimp only;omega⟩;dsimp only;rw[<-ho,ZrA h1,yac];congr 1;rw[List.singleton_append];congr 1;unfold w8;congr 1;omega
 ·rintro⟨_,o⟩ ⟨h1,m,rfl,h2,h3⟩;dsimp only at h3 ⊢;have hr:=congrArg List.length h3;have hl:=ZS h;rw[yo] at hr;rw[h1,ya];dsimp only;rw[yW (ZX (by omega) (by omega)), <-h3,Zdu h2];congr 3;unfold w8;congr 1;omega
theorem Zf3{b:yL yB}{z:Int}(h0:0<=z)(h:z<=9223372036854775807)(hb:b.length<=1000000):XZ yD b z=some (b++Xl z.toNat):=by
 obtain⟨n,rfl⟩:=Int.eq_ofNat_of_zero_le h0;have:=ZS (n:=n) (by omega);unfold XZ;rw[yX (ynd (by omega)),ZFI (by omega),ya,Zv2 (by omega),ya,yay]
theorem ZAp{b h:yL yB}(hb:b.length<=1000000)(hh:h.length<=1000000):Zbe yD b h=some (b++h):=by
 unfold Zbe;rw[Zv2 (by omega),ya]
theorem Zyk{b c:yL yB}(hb:b.length<=1000000)(hc:c.length<=1000000):Zam yD b c=some (b++(Xl c.length++c)):=by
 have:=ZS (n:=c.length) (by omega);unfold Zam;rw[ZFI (by omega),ya,ZtS (by simp;omega) (by simp),ya];simp
def ZjD(l:yL yB)(n k:Nat):yL yB:=l.take k++List.replicate (n - k) 0
theorem ZtT{l:yL yB}{n k:Nat}(h:k < l.length)(h2:l.length<=n):(ZjD l n k)[k]? =some 0:=by
 unfold ZjD;have h3:(l.take k).length=k:=by simp;omega
 rw[yan (by omega),h3,List.getElem?_replicate];simp;omega
theorem ZtU{l:yL yB}{n k:Nat}{d:yB}(hx:l[k]? =some d)(h2:l.length<=n):(ZjD l n k).set k d=ZjD l n (k+1):=by
 have h:k < l.length:=(yq.1 hx).1;have h3:(l.take k).length=k:=by simp;omega
 unfold ZjD;rw[Vl hx,List.set_append_right _ _ (by omega),h3,Nat.sub_self];have e:n - k=(n - (k+1))+1:=by omega
 rw[e,List.replicate_succ];simp
theorem ZtV{l:yL yB}{n:Nat}(h:l.length=n):ZjD l n n=l:=by
 unfold ZjD;rw[<-h];simp
def Zl2(n:Nat):yL yB:=(yr 8).map λi=>yaz (n / 2 ^ (56 - 8*i))
theorem Zfe(n:Nat):(Zl2 n).length=8:=by simp[Zl2]
theorem Zyl(n:Nat){k:Nat}(hk:k < 8):(Zl2 n)[k]? =some (yaz (n / 2 ^ (56 - 8*k))):=by simp[Zl2,hk]
theorem Zym(x:yU){m:Nat}:w8 ((Zv x m).toNat:Int)=yaz (x.toNat / 2 ^ m):=by
 unfold w8 Zv;have h:x.toNat / 2 ^ m < 18446744073709551616:=Nat.lt_of_le_of_lt (Nat.div_le_self ..) (ybx _);rw[ybb,yaq h];apply UInt8.toNat_inj.1;rw[UInt8.toNat_ofNat',UInt8.toNat_ofNat'];omega
theorem ZtW{b:yL yB}(x:yU)(hb:b.length<=1000000):Zaj yD b x=some (b++Zl2 x.toNat):=by
 unfold Zaj
 rw[show(b,x,(0:Int),([0,0,0,0,0,0,0,0]:yL yB))=(λk:Nat=>(b,x,(k:Int),ZjD (Zl2 x.toNat) 8 k)) 0 from rfl,
  Zs (x:=(b,Zl2 x.toNat)) 8 (λk:Nat=>(b,x,(k:Int),ZjD (Zl2 x.toNat) 8 k)) ?_ ?_ (by omega),ya]
 ·dsimp only;rw[Zv2 (by rw[Zfe];omega),ya]
 ·intro k hk;unfold Qn;dsimp only;have hl:=Zfe x.toNat
  rw[yW (yY (by omega)),ZP (z:=8*(k:Int)) (by omega) (by omega),ZP (z:=56 - 8*(k:Int)) (by omega) (by omega),yW (yY (by omega)),yW (ZZ (by omega) (by omega)),
   yay,ZtT (by omega) (by omega),ya,Zp (by omega)]
  have e:min (56 - 8*(k:Int)).toNat 64=56 - 8*k:=by omega
  rw[e,Zym,ZtU (Zyl _ hk) (by omega)]
 ·unfold Qn;dsimp only;rw[yX (by simp),ZtV (Zfe _)]
def Zv3(b:Branch):Prop:=b.1.length<=12/\0<=b.2.1/\b.2.1<=1048576/\0<=b.2.2.1/\b.2.2.1<=1048576
def Zv4(b:Branch):Prop:=(∀p,p∈b.1->IsPt p.toNat)/\(b.2.2.2≠0->IsPt b.2.2.2.toNat)
def Xm(l:Z3):Prop:=0 < l.length/\l.length<=4/\∀b,b∈l->Zv3 b
def Wx(l:Z3):Prop:=∀b,b∈l->Zv4 b
theorem ZAq(p:yU):W7 yD p=some (!decide (IsPt p.toNat)):=by
 unfold W7;rw[XQ,ya]
theorem ZFJ{p:yU}(h:IsPt p.toNat):W7 yD p=some false:=by rw[ZAq,yY h];rfl
theorem ZKT{l:yL yU}(hl:l.length<=12)(h:∀p,p∈l->IsPt p.toNat):Xg yD l=some false:=by
 unfold Xg Vj
 rw[show(l,(l.length:Int),(0:Int))=(λk:Nat=>(l,(l.length:Int),(k:Int))) 0 from rfl,
  Zs (x:=.inr ()) l.length (λk:Nat=>(l,(l.length:Int),(k:Int))) ?_ ?_ (by omega),ya]
 ·rfl
 ·intro k hk;obtain⟨e,he,hm⟩:=Zg hk;unfold Yd;dsimp only;rw[yW (ZG hk),Zl he,ya,ZFJ (h e hm),ya,Zp (by omega)];rfl
 ·unfold Yd;dsimp only;rw[yX (by rw[Zz];decide)]
theorem ZtX{z:Int}(h0:0<=z)(h1:z<=1048576):WS yD z=some true:=by
 unfold WS;rw[yW (yY h0),yY h1]
theorem Zdv{l:Z3}(h:Xm l)(hp:Wx l):Xc yD l=some true:=by
 unfold Xc;obtain⟨h0,h1,h2⟩:=h
 rw[show(l,(l.length:Int),(0:Int),l)=(λk:Nat=>(l,(l.length:Int),(k:Int),l)) 0 from rfl,
  Zs (x:=.inr l) l.length (λk:Nat=>(l,(l.length:Int),(k:Int),l)) ?_ ?_ (by omega),ya]
 ·dsimp only;rw[yW (yY (by omega)),yY (by omega)]
 ·intro k hk;obtain⟨e,he,hm⟩:=Zg hk;obtain⟨e1,e2,e3,e4,e5⟩:=h2 e hm;obtain⟨p1,p2⟩:=hp e hm;unfold XO;dsimp only;rw[yW (ZG hk),Zl he,ya,yX (ynd (by omega)),ZKT e1 p1,ya,ZtX e2 e3,ya,ZtX e4 e5,ya,Zp (by omega),yX (by decide),yX (by decide),yX (by decide)];by_cases hz:e.2.2.2=0
  ·rw[yX (by simp[hz])]
  ·rw[yW (by simp[hz]),ZFJ (p2 hz),ya,yX (by decide)]
 ·unfold XO;dsimp only;rw[yX (by rw[Zz];decide)]
def ZFK(t:Tx):Prop:=(∀x,x∈t.1->x.1.1.length=32)/\t.2.2<=9223372036854775807
def ZJX(x:In):Prop:=0<=x.1.2/\x.1.2 < 64/\0<=x.2.1/\x.2.1 < 4/\x.2.2.1.length<=12
def OutOk(o:Out):Prop:=0<=o.1/\o.1<=1125899906842624/\Xm o.2/\Wx o.2
def ZC5(t:Tx):Prop:=0 < t.1.length/\t.1.length<=64/\t.2.1.length<=64/\0<=t.2.2/\(∀x,x∈t.1->ZJX x)/\∀o,o∈t.2.1->OutOk o
def cat{α:Type}(f:α->yL yB)(l:yL α):yL yB:=(l.map f).flatten
theorem Qg{α:Type}{f:α->yL yB}{l:yL α}{k:Nat}{e:α}(h:l[k]? =some e):cat f (l.take (k+1))=cat f (l.take k)++f e:=by
 unfold cat
 rw[Vl h,yai,List.flatten_append];simp
theorem ZFL{α:Type}{f:α->yL yB}{l:yL α}{e:α}:cat f (e::l)=f e++cat f l:=rfl
theorem ZBV{α:Type}{f:α->yL yB}{c:Nat}:∀{l:yL α},(∀x,x∈l->(f x).length<=c)->(cat f l).length<=l.length*c
 |[],_=>by simp[cat]
 |e::l,h=>by
  have h1:=h e (yam ..);have h2:=ZBV (l:=l) λx hx=>h x (yap _ hx);rw[ZFL,yo,yah,Nat.succ_mul];omega
theorem Zau{α:Type}{f:α->yL yB}{c n:Nat}{l:yL α}(h:∀x,x∈l->(f x).length<=c)(hn:l.length<=n)(k:Nat):(cat f (l.take k)).length<=n*c:=by
 refine ybz (ZBV λx hx=>h x (ybv hx)) (Nat.mul_le_mul_right c ?_);rw[yae];omega
def Zv5(p:yU):yL yB:=Zl2 p.toNat
def brF(b:Branch):yL yB:=Xl b.1.length++(cat Zv5 b.1++(Xl b.2.1.toNat++(Xl b.2.2.1.toNat++Zl2 b.2.2.2.toNat)))
def ZhY(l:Z3):yL yB:=Xl l.length++cat brF l
theorem ZhZ{l:yL yU}(h:l.length<=12)(k:Nat):(cat Zv5 (l.take k)).length<=96:=Zau (c:=8) (λx _=>Nat.le_of_eq (Zfe _)) h k
theorem Zv6{b:Branch}(h:b.1.length<=12/\0<=b.2.1/\b.2.1<=1048576/\0<=b.2.2.1/\b.2.2.1<=1048576):(brF b).length<=131:=by
 have h1:=ZhZ h.1 b.1.length;rw[yak] at h1;have h2:=ZS (n:=b.1.length) (by omega);have h3:=ZS (n:=b.2.1.toNat) (by omega);have h4:=ZS (n:=b.2.2.1.toNat) (by omega);have h5:=Zfe b.2.2.2.toNat
 unfold brF;simp only[yo];omega
theorem Ziw{l:Z3}(h:Xm l):(ZhY l).length<=533:=by
 have h1:=Zau (f:=brF) (c:=131) (λx hx=>Zv6 (h.2.2 x hx)) h.2.1 l.length;rw[yak] at h1;have h2:=ZS (n:=l.length) (by have:=h.2.1;omega);unfold ZhY;rw[yo];omega
theorem ZC6{c:yL yB}(hc:c.length<=100000){bs:yL Branch}{n i:Int}{ks:yL yU}{l:Z3}{e:Branch}(hk:ks.length<=12):
 Zc (VC yD) yD (c,bs,n,i,ks,(ks.length:Int),(0:Int),l,e)=some (c++cat Zv5 ks,bs,n,i,l,e):=by
 rw[show(c,bs,n,i,ks,(ks.length:Int),(0:Int),l,e)=(λk:Nat=>(c++cat Zv5 (ks.take k),bs,n,i,ks,(ks.length:Int),(k:Int),l,e)) 0 by simp[cat]];refine Zs ks.length (λk:Nat=>(c++cat Zv5 (ks.take k),bs,n,i,ks,(ks.length:Int),(k:Int),l,e)) ?_ ?_ (by omega)
 ·intro k hk2;obtain⟨e,he,_⟩:=Zg hk2;have hl:=ZhZ hk k;unfold VC;dsimp only;rw[yW (ZG hk2),Zl he,ya,ZtW _ (by rw[yo];omega),ya,Zp (by omega),Qg he,yac];rfl
 ·unfold VC;dsimp only;rw[yX (by rw[Zz];decide),yak]
theorem ZrB{l:Z3}(h:Xm l)(hp:Wx l):Zbw yD l=some (ZhY l):=by
 unfold Zbw;have h0:=h.2.1;have h9:=ZS (n:=l.length) (by omega);rw[Zdv h hp,ya,yX (by decide),Zf3 (by omega) (by omega) (by simp),ya,yx,yay]
 rw[show(Xl l.length,l,(l.length:Int),(0:Int),l)=(λk:Nat=>(Xl l.length++cat brF (l.take k),l,(l.length:Int),(k:Int),l)) 0 by simp[cat],
  Zs (x:=(ZhY l,l)) l.length (λk:Nat=>(Xl l.length++cat brF (l.take k),l,(l.length:Int),(k:Int),l)) ?_ ?_ (by omega),ya]
 ·intro k hk;obtain⟨e,he,hm⟩:=Zg hk;obtain⟨e1,e2,e3,e4,e5⟩:=h.2.2 e hm;have hl:=Zau (f:=brF) (c:=131) (λx hx=>Zv6 (h.2.2 x hx)) h.2.1 k;have hr:=ZS (n:=e.1.length) (by omega);have hr2:=ZS (n:=e.2.1.toNat) (by omega);have hr3:=ZS (n:=e.2.2.1.toNat) (by omega);have hk8:=ZhZ e1 e.1.length;rw[yak] at hk8;unfold Zak;dsimp only
  rw[yW (ZG hk),Zl he,ya,Zf3 (by omega) (by omega) (by rw[yo];omega),ya,yay,
   ZC6 (by simp only[yo];omega) e1,ya]
  dsimp only
  rw[Zf3 e2 (by omega) (by simp only[yo];omega),ya,Zf3 e4 (by omega) (by simp only[yo];omega),ya,
   ZtW _ (by simp only[yo];omega),ya,Zp (by omega),Qg he]
  unfold brF;simp only[yac]
 ·unfold Zak;dsimp only;rw[yX (by rw[Zz];decide),yak];rfl
def inF(x:In):yL yB:=x.1.1++Xl x.1.2.toNat
def Zng(o:Out):yL yB:=Xl o.1.toNat++(Xl (ZhY o.2).length++ZhY o.2)
def ZbP(t:Tx):yL yB:=Xl t.1.length++(cat inF t.1++(Xl t.2.1.length++(cat Zng t.2.1++Xl t.2.2.toNat)))
theorem ZBW{x:In}(h:x.1.1.length=32)(k:ZJX x):(inF x).length<=41:=by
 have:=ZS (n:=x.1.2.toNat) (by have:=k.2.1;omega);unfold inF;rw[yo];omega
theorem Zyn{o:Out}(k:OutOk o):(Zng o).length<=551:=by
 have h1:=Ziw k.2.2.1;have h2:=ZS (n:=o.1.toNat) (by have:=k.2.1;omega);have h3:=ZS (n:=(ZhY o.2).length) (by omega);unfold Zng;simp only[yo];omega
theorem Zyo{t:Tx}(hw:ZFK t)(h:ZC5 t):Zit yD t=some (ZbP t)/\(ZbP t).length<=40000:=by
 obtain⟨ins,outs,note⟩:=t;obtain⟨w2,w3⟩:=hw;obtain⟨h1,h2,h3,h4,h5,h6⟩:=h;dsimp only at w2 w3 h1 h2 h3 h4 h5 h6;have li:=λk=>Zau (f:=inF) (c:=41) (λx hx=>ZBW (w2 x hx) (h5 x hx)) h2 k;have lo:=λk=>Zau (f:=Zng) (c:=551) (λx hx=>Zyn (h6 x hx)) h3 k;have li1:=li ins.length;have lo1:=lo outs.length;rw[yak] at li1 lo1;have r1:=ZS (n:=ins.length) (by omega);have r2:=ZS (n:=outs.length) (by omega);have r3:=ZS (n:=note.toNat) (by omega);refine⟨?_,by unfold ZbP;simp only[yo];omega⟩;unfold Zit;dsimp only;rw[Zf3 (by omega) (by omega) (by simp),ya,yx,yay]
 rw[show(Xl ins.length,ins,(ins.length:Int),(0:Int),(ins,outs,note))=(λk:Nat=>(Xl ins.length++cat inF (ins.take k),ins,(ins.length:Int),(k:Int),(ins,outs,note))) 0 by simp[cat],
  Zs (x:=(Xl ins.length++cat inF ins,(ins,outs,note))) ins.length (λk:Nat=>(Xl ins.length++cat inF (ins.take k),ins,(ins.length:Int),(k:Int),(ins,outs,note))) ?_ ?_ (by omega),ya]
 ·dsimp only;rw[Zf3 (by omega) (by omega) (by rw[yo];omega),ya,yay];generalize hp:Xl ins.length++cat inF ins++Xl outs.length=pre;have hpl:pre.length<=3000:=by rw[<-hp];simp only[yo];omega
  rw[show(pre,outs,(outs.length:Int),(0:Int),(ins,outs,note))=(λk:Nat=>(pre++cat Zng (outs.take k),outs,(outs.length:Int),(k:Int),(ins,outs,note))) 0 by simp[cat],
   Zs (x:=(pre++cat Zng outs,(ins,outs,note))) outs.length (λk:Nat=>(pre++cat Zng (outs.take k),outs,(outs.length:Int),(k:Int),(ins,outs,note))) ?_ ?_ (by omega),ya]
  ·dsimp only;rw[Zf3 h4 w3 (by rw[yo];omega),ya, <-hp];unfold ZbP;simp only[yac]
  ·intro k hk;obtain⟨e,he,hm⟩:=Zg hk;have hlk:=lo k;have hok:=h6 e hm;have hlo:=hok.2.2.1;have hll:=Ziw hlo;have hrl:=ZS (n:=e.1.toNat) (by have:=hok.2.1;omega);unfold Zcl;dsimp only
   rw[yW (ZG hk),Zl he,ya,Zf3 hok.1 (by have:=hok.2.1;omega) (by rw[yo];omega),ya,ZrB hok.2.2.1 hok.2.2.2,ya,
    Zyk (by simp only[yo];omega) (by omega),ya,Zp (by omega),Qg he]
   unfold Zng;simp only[yac]
  ·unfold Zcl;dsimp only;rw[yX (by rw[Zz];decide),yak]
 ·intro k hk;obtain⟨e,he,hm⟩:=Zg hk;have hlk:=li k;have h32:=w2 e hm;have hok:=h5 e hm;unfold Zck;dsimp only
  rw[yW (ZG hk),Zl he,ya,ZAp (by rw[yo];omega) (by omega),ya,Zf3 hok.1 (by have:=hok.2.1;omega) (by simp only[yo];omega),ya,
   Zp (by omega),Qg he]
  unfold inF;simp only[yac]
 ·unfold Zck;dsimp only;rw[yX (by rw[Zz];decide),yak]
def amts(l:yL Out):Int:=(l.map (·.1)).sum
theorem QQ{l:yL Out}{k:Nat}{e:Out}(h:l[k]? =some e):amts (l.take (k+1))=amts (l.take k)+e.1:=by
 unfold amts;rw[Vl h,yai,List.sum_append];simp
theorem ZAr:∀{l:yL Int},(∀x,x∈l->0<=x)->0<=l.sum
 |[],_=>by simp
 |x::r,h=>by
  have:=ZAr (l:=r) λy hy=>h y (yap _ hy);have:=h x (yam ..);rw[List.sum_cons];omega
theorem ZBX{l:yL Out}(h:∀o,o∈l->OutOk o)(k:Nat):0<=amts (l.take k)/\amts (l.take k)<=amts l:=by
 have h1:∀(l:yL Out),(∀o,o∈l->OutOk o)->0<=amts l:=λl h=>ZAr λx hx=>by
  obtain⟨o,ho,rfl⟩:=ybl.1 hx;exact(h o ho).1
 refine⟨h1 _ λo ho=>h o (ybv ho), ?_⟩;have:=h1 (l.drop k) λo ho=>h o (ycv ho)
 have e:amts l=amts (l.take k)+amts (l.drop k):=by
  unfold amts;rw[<-List.sum_append, <-yai,ybj]
 omega
theorem Zyp{z:Int}(h0:0<=z)(h1:z<=1125899906842624):Qx yD z=some true:=by
 unfold Qx;rw[yW (yY h0),yY h1]
theorem ZHM{a b:Int}(h0:0<=a)(h1:0<=b)(h2:a+b<=1125899906842624):Vt yD a b=some (a+b,true):=by
 unfold Vt;rw[Zyp h0 (by omega),ya,yX (by decide),Zyp h1 (by omega),ya,yX (by decide),ZP (z:=1125899906842624 - b) (by omega) (by omega),ZP (z:=a+b) (by omega) (by omega),yX (ynd (by omega))]
theorem ZAs{x:In}(h:ZJX x):WE yD x.2=some true:=by
 obtain⟨_,_,h1,h2,h3⟩:=h;unfold WE;rw[yW (yY h1),yW (yY h2),yY (by omega)]
theorem ZFM{x:In}{outs:yL Out}{note:Int}(h:ZC5 ([x],outs,note))(hs:amts outs<=1125899906842624):Y4 yD ([x],outs,note)=some true:=by
 obtain⟨h1,h2,h3,h4,h5,h6⟩:=h;dsimp only at h3 h4 h5 h6;have hx:=h5 x (yao.2 rfl);unfold Y4;dsimp only;rw[yX (by simp),yX (by simp),yX (ynd (by omega)),yX (ynd (by omega))]
 obtain⟨y,g1,m,rfl⟩:=WW (step:=Xq yD) 1 (λk s=>∃m,s=([x],(1:Int),(k:Int),([x],outs,note),m)/\(k=0->m=[])) (λy=>∃m,y=.inr (([x],outs,note),m)) (i:=([x],(([x]:yL In).length:Int),(0:Int),([x],outs,note),([]:yL (ZI×Bool)))) ⟨_,rfl,λ_=>rfl⟩ (by omega) (by
  rintro k _ hk ⟨m,rfl,hm⟩;left;have e:k=0:=by omega
  subst e;rw[hm rfl];unfold Xq;dsimp only;have e1:Zb3 ([]:yL (ZI×Bool)) x.1=none:=rfl;rw[yW (yY (by omega)),Zl (show([x]:yL In)[0]? =some x from rfl),ya,e1]
  unfold ZnB;dsimp only;rw[yX (by rw[yN];have:=hx.1;omega),yX (by rw[yN];have:=hx.2.1;omega),ZAs hx,ya,yX (by decide)];exact⟨_,rfl,_,rfl,λh=>by omega⟩) (by
  rintro _ ⟨m,rfl,hm⟩;unfold Xq;dsimp only;rw[yX (ynd (by omega))];exact⟨_,rfl,_,rfl⟩)
 rw[g1,ya];dsimp only
 rw[show((0:Int),outs,(outs.length:Int),(0:Int),([x],outs,note),m)=(λk:Nat=>(amts (outs.take k),outs,(outs.length:Int),(k:Int),([x],outs,note),m)) 0 from rfl,
  Zs (x:=.inr (([x],outs,note),m)) outs.length (λk:Nat=>(amts (outs.take k),outs,(outs.length:Int),(k:Int),([x],outs,note),m)) ?_ ?_ (by omega),ya]
 ·intro k hk;obtain⟨e,he,hm⟩:=Zg hk;obtain⟨o1,o2,o3,o4⟩:=h6 e hm;have hk1:=ZBX h6 k;have hk2:=ZBX h6 (k+1);rw[QQ he] at hk2;unfold X8;dsimp only;rw[yW (ZG hk),Zl he,ya,ZHM hk1.1 o1 (by omega),ya,Zdv o3 o4,ya,Zp (by omega),QQ he];rfl
 ·unfold X8;dsimp only;rw[yX (by rw[Zz];decide)]
def z32:yL yB:=yzz
theorem ZKU{k:yU}(h:Key k):B k.toNat≠1:=ZLn h.1 h.2
def Ahd(a b:Cond):Prop:=a.1 < b.1\/a.1=b.1/\a.2.1 < b.2.1
instance(a b:Cond):Decidable (Ahd a b):=by unfold Ahd;infer_instance
def frG(h:yL yB):Nat->Nat
 |0=>0
 |k+1=>(256*frG h k+(h.getD k 0).toNat) % 2305843009213688668
theorem ZJY(h:yL yB)(k:Nat):frG h k < 2305843009213688668:=by
 cases k with
 |zero=>exact(by decide:(0:Nat) < 2305843009213688668)
 |succ k=>exact ybn _ (by decide)
def frF(h:yL yB):yU:=yaf (frG h 32)+1
theorem ZFN{z:Nat}(h:z < 2305843009213688668):(yaf z).toNat=z:=by
 rw[ybb,yaq (by omega)]
theorem ZJZ(x:yU)(n:Nat):(Vq x n).toNat=x.toNat*2 ^ n % 18446744073709551616:=ybb ..
theorem ZHN(n:Nat)(b:yB)(hn:n < 2305843009213688668):((Vq (yaf n) 8)|||(yaf b.toNat)).toNat=n*256 % 18446744073709551616+b.toNat:=by
 have hb:b.toNat < 256:=b.toNat_lt;rw[UInt64.toNat_or,ZJZ,ZFN hn,ybb,yaq (a:=b.toNat) (by omega)];have h2:n*2 ^ 8 % 2 ^ 64=(n % 2 ^ 56)*2 ^ 8:=by omega
 rw[show n*2 ^ 8 % 18446744073709551616=(n % 2 ^ 56)*2 ^ 8 from h2,Nat.mul_comm, <-Nat.two_pow_add_eq_or_of_lt (by omega:b.toNat < 2 ^ 8)]
theorem ZHO{h:yL yB}(hl:h.length=32):Xz yD h=some (frF h):=by
 unfold Xz
 have e:=Zs (step:=YK yD) 32 (λk:Nat=>(yaf (frG h k),h,(k:Int),h)) (x:=(yaf (frG h 32),h)) (by
  intro k hk;obtain⟨e,he,_⟩:=Zg (l:=h) (k:=k) (by omega);unfold YK;dsimp only;rw[yW (yY (by omega)),Zl he,ya];unfold Xx;rw[yW (by decide),ya,Zp (by omega)];have hn:=ZJY h k;have hb:e.toNat < 256:=e.toNat_lt;have hd:h.getD k 0=e:=by simp[List.getD,he]
  rw[show(2305843009213688668:yU).toNat=2305843009213688668 from rfl,ZHN _ _ hn,VX,ZFN hn]
  have h2:frG h k / 2 ^ 56*18446744073709551616+(frG h k*256 % 18446744073709551616+e.toNat)=256*frG h k+e.toNat:=by omega
  rw[h2,show frG h (k+1)=(256*frG h k+(h.getD k 0).toNat) % 2305843009213688668 from rfl,hd]) (by
  unfold YK;dsimp only;rw[yX (ynd (by omega))]) (by omega)
 have e:Zc (YK yD) yD ((0:yU),h,(0:Int),h)=_:=e;rw[e,ya];rfl
theorem Wb(n:Nat):(Wd n).length=8:=rfl
theorem ZFO(n:yU):QB yD n=some (Wd n.toNat):=by
 unfold QB
 have e:=Zs (step:=YY yD) 8 (λk:Nat=>(n,56 - 8*(k:Int),(Wd n.toNat).take k)) (x:=Wd n.toNat) (by
  intro k hk;have hb:(Wd n.toNat)[k]? =_:=ZAl n hk;have hl:((Wd n.toNat).take k).length<=8:=by rw[yae];exact ybz (Nat.min_le_right _ _) (ym _)
  unfold YY;dsimp only;have q1:min (56 - 8*(k:Int)).toNat 64=56 - 8*k:=by omega
  rw[yW (yY (by omega)),yW (yY (by omega)),yW (ZX (by omega) (by omega)),ZP (z:=56 - 8*(k:Int) - 8) (by omega) (by omega),q1,show 56 - 8*(k:Int) - 8=56 - 8*((k+1:Nat):Int) by omega,List.take_add_one,hb];rfl) (by
  unfold YY;dsimp only;rw[yX (ynd (by omega))];rfl) (by omega)
 have e:Zc (YY yD) yD (n,(56:Int),([]:yL yB))=_:=e;rw[e,ya]
theorem ZC7(n:yU):Vb yD n=some (Wd n.toNat):=by
 unfold Vb
 have e:=Zs (step:=Yo yD) 8 (λk:Nat=>(n,56 - 8*(k:Int),([]:yL yB),(Wd n.toNat).take k)) (x:=(([]:yL yB),Wd n.toNat)) (by
  intro k hk;have hb:(Wd n.toNat)[k]? =_:=ZAl n hk;have hl:((Wd n.toNat).take k).length<=8:=by rw[yae];exact ybz (Nat.min_le_right _ _) (ym _)
  unfold Yo;dsimp only;have q1:min (56 - 8*(k:Int)).toNat 64=56 - 8*k:=by omega
  rw[yW (yY (by omega)),yW (yY (by omega)),yW (ZX (by omega) (by omega)),ZP (z:=56 - 8*(k:Int) - 8) (by omega) (by omega),q1,show 56 - 8*(k:Int) - 8=56 - 8*((k+1:Nat):Int) by omega,List.take_add_one,hb];rfl) (by
  unfold Yo;dsimp only;rw[yX (ynd (by omega))];rfl) (by omega)
 have e:Zc (Yo yD) yD (n,(56:Int),([]:yL yB),([]:yL yB))=_:=e;rw[e,ya]
def tgF(l:yL yB):yL yB:=Wd l.length++l
def ZrC(s:ByteArray)(ls:yL (yL yB)):yL yB:=Wd s.size++ZdB s++cat tgF ls
theorem Zyq(s:ByteArray):(ZdB s).length=s.size:=by
 unfold ZdB;rw[Array.length_toList];rfl
theorem Zo2{ls:yL (yL yB)}(h2:ls.length<=10)(h3:∀l,l∈ls->l.length<=60000)(k:Nat):(cat tgF (ls.take k)).length<=10*60008:=
 Zau (c:=60008) (λl hl=>by have:=h3 l hl;unfold tgF;rw[yo,Wb];omega) h2 k
theorem Zv7{s:ByteArray}{ls:yL (yL yB)}(h1:s.size<=100)(h2:ls.length<=10)(h3:∀l,l∈ls->l.length<=60000):XX yD s ls=some (Sha.sha (ZrC s ls)):=by
 unfold XX;have hs:=Zyq s;have p1:XA yD (s.size:Int) []=some (Wd s.size):=Zo0 (b:=[]) (by simp);rw[p1,ya,yW (ZX (by rw[hs,Wb];omega) (by rw[hs,Wb];omega))]
 have e:=Zs (step:=X6 yD) ls.length (λk:Nat=>(ls,(ls.length:Int),(k:Int),z32,Wd s.size++ZdB s++cat tgF (ls.take k))) (x:=(z32,ZrC s ls)) (by
  intro k hk;obtain⟨e,he,hm⟩:=Zg hk;have:=h3 e hm;have hc:=Zo2 h2 h3 k;unfold X6;dsimp only;rw[yW (yY (by omega)),Zl he,ya,Zo0 (by simp only[yo,Wb,hs];omega),ya,yW (ZX (by simp only[yo,Wb,hs];omega) (by simp only[yo,Wb,hs];omega)),Zp (by omega),Qg he];simp only[tgF,yac]) (by
  unfold X6;dsimp only;rw[yX (by rw[Zz];decide),yak];rfl) (by omega)
 rw[show cat tgF (ls.take 0)=[] from rfl,yar] at e
 have e:Zc (X6 yD) yD (ls,(ls.length:Int),(0:Int),yzz,Wd s.size++ZdB s)=_:=e;have hc:=Zo2 h2 h3 ls.length;rw[yak] at hc;rw[e,ya,ZBM (by show(ZrC s ls).length<=_;unfold ZrC;simp only[yo,Wb,hs];omega),ya]
theorem ZHP{s:ByteArray}{ls:yL (yL yB)}(h1:s.size<=100)(h2:ls.length<=10)(h3:∀l,l∈ls->l.length<=60000):Zar yD s ls=some (Sha.sha (ZrC s ls)):=by
 unfold Zar;have hs:=Zyq s
 have w:∀n:Nat,n<=1000000->(w64 (n:Int)).toNat=n:=λn hn=>by
  unfold w64;rw[ybb];omega
 have hs':s.data.toList.length=s.size:=hs;rw[ZC7,ya,w _ (by omega),yW (yY (by unfold maxLen;omega)),yW (ZX (by rw[hs',Wb];omega) (by rw[hs',Wb];omega))]
 have e:=Zs (step:=YB yD) ls.length (λk:Nat=>(ls,(k:Int),z32,Wd s.size++ZdB s++cat tgF (ls.take k))) (x:=(z32,ZrC s ls)) (by
  intro k hk;obtain⟨e,he,hm⟩:=Zg hk;have:=h3 e hm;have hc:=Zo2 h2 h3 k;unfold YB;dsimp only;rw[yW (ZG hk),Zl he,ya,ZFO,ya,w _ (by omega),yW (ZX (by simp only[yo,Wb,hs];omega) (by simp only[yo,Wb,hs];omega)),ya,yW (ZX (by simp only[yo,Wb,hs];omega) (by simp only[yo,Wb,hs];omega)),Zp (by omega),Qg he];simp only[tgF,yac]) (by
  unfold YB;dsimp only;rw[yX (by rw[Zz];decide),yak];rfl) (by omega)
 rw[show cat tgF (ls.take 0)=[] from rfl,yar] at e
 have e:Zc (YB yD) yD (ls,(0:Int),z32,Wd s.size++s.data.toList)=_:=e;have hc:=Zo2 h2 h3 ls.length;rw[yak] at hc;show(Option.bind (Zc (YB yD) yD (ls,(0:Int),z32,Wd s.size++s.data.toList)) λo85=>(Zaq yD o85.2).bind λo86=>some o86)=_;rw[e,ya,ZFA (by show(ZrC s ls).length<=_;unfold ZrC;simp only[yo,Wb,hs];omega),ya]
theorem Zv8{n:Nat}(h:n < 256):w8 (n:Int)=yaz n:=by
 unfold w8;congr 1;omega
theorem ZJ0:∀(k n:Nat),n < 128 ^ (k+1)->n<=9223372036854775807->Vm yD (k+1) (n:Int)=some (Xl n):=by
 intro k
 induction k with
 |zero=>
  intro n h h2;have h:n < 128:=by simpa using h
  show X9 yD (Vm yD 0) (n:Int)=_;unfold X9
  rw[yW (yY (by omega)),Zdu h,Zv8 (by omega)]
 |succ k ih=>
  intro n h h2;show X9 yD (Vm yD (k+1)) (n:Int)=_;unfold X9;by_cases h0:n < 128
  ·rw[yW (yY (by omega)),Zdu h0,Zv8 (by omega)]
  ·have hd:n / 128 < 128 ^ (k+1):=by
    rw[Nat.div_lt_iff_lt_mul (by decide)];rw[Nat.pow_succ] at h;exact h
   have e1:wi (Int.tdiv (n:Int) 128)=((n / 128:Nat):Int):=by
    rw[show Int.tdiv (n:Int) 128=((n / 128:Nat):Int) from rfl,ZP (by omega) (by omega)]
   have hl:=ZS (n:=n / 128) (by omega);rw[yX (ynd (by omega)),e1,ih _ hd (by omega),ya,yW (ZX (by omega) (by omega)),ZrA h0]
   have e2:w8 (Int.tmod (n:Int) 128)+128=yaz (n % 128+128):=by
    rw[show Int.tmod (n:Int) 128=((n % 128:Nat):Int) from rfl,Zv8 (by omega), <-UInt8.toNat_inj,UInt8.toNat_add,UInt8.toNat_ofNat',UInt8.toNat_ofNat']
    show(n % 128 % 256+128) % 256=_;omega
   rw[e2];rfl
theorem ZHQ{n:Nat}(h:n<=9223372036854775807):Zas yD (n:Int)=some (Xl n):=ZJ0 11 n (by omega) h
theorem Zbg{b:yL yB}{z:Int}(h0:0<=z)(h:z<=9223372036854775807)(hb:b.length<=1000000):ZR yD b z=some (b++Xl z.toNat):=by
 obtain⟨n,rfl⟩:=Int.eq_ofNat_of_zero_le h0;have hl:=ZS (n:=n) (by omega);unfold ZR;rw[yW (ZX (by omega) (by omega)),yW (yY (by omega)),ZHQ (by omega),ya,yW (ZX (by omega) (by omega)),yay]
theorem ZFP{b:yL yB}{z:Int}(h0:0<=z)(h:z<=9223372036854775807)(hb:b.length<=1000000):Zby yD b z=some (b++Xl z.toNat):=Zbg h0 h hb
theorem ZrD{b:yL yB}(x:yU)(hb:b.length<=1000000):Wa yD b x=some (b++Zl2 x.toNat):=by
 unfold Wa;rw[yW (ZX (by omega) (by omega))]
 have e:=Zs (step:=YC yD) 8 (λk:Nat=>(x,7 - (k:Int),b++(Zl2 x.toNat).take k)) (x:=b++Zl2 x.toNat) (by
  intro k hk;have hl:((Zl2 x.toNat).take k).length<=8:=by rw[yae];omega
  unfold YC;dsimp only
  have q1:(min ((w64 (wi (8*(7 - (k:Int))))).toNat:Int).toNat 64)=56 - 8*k:=by
   rw[ZP (z:=8*(7 - (k:Int))) (by omega) (by omega)]
   have:(w64 (8*(7 - (k:Int)))).toNat=56 - 8*k:=by
    unfold w64;rw[ybb];omega
   omega
  rw[yW (yY (by omega)),yW (ZX (by rw[yo];omega) (by rw[yo];omega)),ZP (z:=7 - (k:Int) - 1) (by omega) (by omega),q1,Zym,show 7 - (k:Int) - 1=7 - ((k+1:Nat):Int) by omega,List.take_add_one,Zyl _ hk,yac];rfl) (by
  unfold YC;dsimp only;rw[yX (ynd (by omega)),ycq (by rw[Zfe];exact ym _)]) (by omega)
 have e:Zc (YC yD) yD (x,(7:Int),b++[])=_:=e;rw[yar] at e;rw[e,ya]
theorem Zyr{b h:yL yB}(hb:b.length<=1000000)(hh:h.length=32):Vc yD b h=some (b++h):=by
 unfold Vc;rw[yW (ZX (by omega) (by omega))]
 have e:=Zs (step:=Yp yD) 32 (λk:Nat=>((k:Int),h,b++h.take k)) (x:=(h,b++h)) (by
  intro k hk;obtain⟨e,he,_⟩:=Zg (l:=h) (k:=k) (by omega);have hl:(h.take k).length<=32:=by rw[yae];omega
  unfold Yp;dsimp only;rw[yW (yY (by omega)),yW (ZZ (by omega) (by omega)),yay,he,ya,yW (ZX (by rw[yo];omega) (by rw[yo];omega)),Zp (by omega),List.take_add_one,he,yac];rfl) (by
  unfold Yp;dsimp only;rw[yX (ynd (by omega)),ycq (by omega)]) (by omega)
 have e:Zc (Yp yD) yD ((0:Int),h,b++[])=_:=e;rw[yar] at e;rw[e,ya]
theorem Zv9{b c:yL yB}(hb:b.length<=1000000)(hc:c.length<=1000000):WX yD b c=some (b++(Xl c.length++c)):=by
 unfold WX;have hl:=ZS (n:=c.length) (by omega);rw[ZFP (by omega) (by omega) hb,ya,yay,yW (ZX (by rw[yo];omega) (by rw[yo];omega)),yac]
theorem ZC8{lo hi:Int}{l:yL Int}(hl:l.length<=100)(h:∀x,x∈l->lo<=x/\x<=hi):ZT yD lo hi l=some true:=by
 unfold ZT Yt YX;rw[show(l,(l.length:Int),(0:Int),lo,hi)=(λk:Nat=>(l,(l.length:Int),(k:Int),lo,hi)) 0 from rfl,Zs (x:=.inr (lo,hi)) l.length (λk:Nat=>(l,(l.length:Int),(k:Int),lo,hi)) ?_ ?_ (by omega),ya]
 ·rfl
 ·intro k hk;obtain⟨e,he,hm⟩:=Zg hk;have:=h e hm;unfold ZH Ql;dsimp only;rw[yW (ZG hk),Zl he,ya,yX (ynd (by omega)),ya,yZ (by omega),yX (by simp),Zp (by omega)]
 ·unfold ZH;dsimp only;rw[yX (by rw[Zz];decide)]
theorem w1{lo hi z:Int}(h1:lo<=z)(h2:z<=hi):ZT yD lo hi [z]=some true:=ZC8 (by simp) λx hx=>by rw[yao.1 hx];exact⟨h1,h2⟩
theorem ZaZ(a b:Int):Yg yD a b=some (if a < b then-1 else if a > b then 1 else 0):=by
 unfold Yg Zad;rw[ya,ya];have e:∀z:Int,(z !=z)=false:=λz=>by simp
 rw[e,e,yX (by decide),yX (by decide)];by_cases h1:a < b
 ·rw[yW (yY h1),yW h1]
 ·rw[yX (by rw[yN];exact h1),yX h1];by_cases h2:a > b
  ·rw[yW (yY h2),yW h2]
  ·rw[yX (by rw[yN];exact h2),yX h2]
def orL:yL Int->Int
 |[]=>0
 |z::r=>if z≠0 then z else orL r
theorem ZIw{l:yL Int}(hl:l.length<=100):Zbr yD l=some (orL l):=by
 have key:∀(d k f:Nat),k+d=l.length->d < f->∃x,Zc (Wp yD) f ((0:Int),l,(l.length:Int),(k:Int))=some x/\(x=.inl (orL (l.drop k))\/x=.inr 0/\orL (l.drop k)=0):=by
  intro d
  induction d with
  |zero=>
   intro k f h hf;obtain⟨f,rfl⟩:=Nat.exists_eq_succ_of_ne_zero (n:=f) (by omega);have:k=l.length:=by omega
   subst this;unfold Zc Wp;dsimp only;rw[yX (by rw[Zz];decide),ya]
   exact⟨_,rfl,.inr ⟨rfl,by rw[List.drop_length];rfl⟩⟩
  |succ d ih=>
   intro k f h hf;obtain⟨f,rfl⟩:=Nat.exists_eq_succ_of_ne_zero (n:=f) (by omega);have hk:k < l.length:=by omega
   obtain⟨e,he,hm⟩:=Zg hk
   have hd:l.drop k=e::l.drop (k+1):=by
    rw[List.drop_eq_getElem_cons hk];rw[yz hk] at he;cases he;rfl
   rw[hd];unfold Zc Wp;dsimp only;rw[yW (ZG hk),Zl he,ya];by_cases h0:e=0
   ·subst h0;rw[yX (by decide),ya,Zp (by omega)];exact ih (k+1) f (by omega) (by omega)
   ·rw[yW (bne_iff_ne.2 h0),ya];exact⟨_,rfl,.inl (by unfold orL;rw[yW h0])⟩
 unfold Zbr;obtain⟨x,h1,h2⟩:=key l.length 0 yD (by omega) (by rw[Zfy];omega);rw[List.drop_zero] at h2;show Option.bind (Zc (Wp yD) yD ((0:Int),l,(l.length:Int),((0:Nat):Int))) _=_;rw[h1,ya];rcases h2 with rfl|⟨rfl,h2⟩
 ·rfl
 ·rw[h2]
theorem Zl3(p q:Prop)[Decidable p][Decidable q]{b:Bool}(h:b=decide (p/\q)):(if decide p=true then some (decide q) else some false)=some b:=by
 subst h;by_cases h1:p
 ·rw[yW (yY h1)];by_cases h2:q
  ·rw[yY h2,yY ⟨h1,h2⟩]
  ·rw[yZ h2,yZ λh=>h2 h.2]
 ·rw[yX (by rw[yN];exact h1),yZ λh=>h1 h.1]
theorem ZJ1(z a b:Int):Xa yD z a b=some (decide (a<=z/\z<=b)):=Zl3 _ _ rfl
def TermOk(t:Terms):Prop:=(0<=t.1/\t.1<=65536)/\(1<=t.2.2.1/\t.2.2.1<=4096)/\(0<=t.2.2.2.1/\t.2.2.2.1<=16)/\(t.1<=t.2.1/\t.2.1<=1125899906842624)/\(1<=t.2.2.2.2.1/\t.2.2.2.2.1<=1125899906842624)/\(0<=t.2.2.2.2.2/\t.2.2.2.2.2<=1125899906842624)
instance(t:Terms):Decidable (TermOk t):=by unfold TermOk;infer_instance
theorem Zav{p q:Prop}[Decidable p][Decidable q][Decidable (p/\q)]{x:yO Bool}(h:x=some (decide q)):(if decide p=true then x else some false)=some (decide (p/\q)):=by
 rw[h];exact Zl3 p q (by congr)
theorem ZFQ(t:Terms):Zca yD t=some (decide (TermOk t)):=by
 unfold Zca;simp only[ZJ1,ya];exact Zav (Zav (Zav (Zav (Zav rfl))))
def pts(b:Basics):yL yU:=[b.1,b.2.1,b.2.2.1,b.2.2.2.1,b.2.2.2.2]
def Zl4(p:yU):Prop:=IsPt p.toNat/\p≠1
instance(p:yU):Decidable (Zl4 p):=by unfold Zl4;infer_instance
def QR(b:Basics):Prop:=∀p,p∈pts b->Zl4 p
instance(b:Basics):Decidable (QR b):=by unfold QR;infer_instance
theorem ZFR(p:yU):Qk yD p=some (!decide (Zl4 p)):=by
 unfold Qk;rw[XQ,ya];by_cases h:p=1
 ·rw[yW (beq_iff_eq.2 h),yZ (p:=Zl4 p) λk=>k.2 h];rfl
 ·rw[yX (by rw[yT];exact h)];by_cases k:IsPt p.toNat
  ·rw[yY k,yY (p:=Zl4 p) ⟨k,h⟩]
  ·rw[yZ k,yZ (p:=Zl4 p) λq=>k q.1]
theorem ZC9(b:Basics):Za5 yD b=some (decide (QR b)):=by
 unfold Za5 ZcZ ZcY
 obtain⟨x,h1,h2⟩:=WW (step:=X5 yD) 5 (λk s=>s=(pts b,(5:Int),(k:Int))/\∀j p,j < k->(pts b)[j]? =some p->Zl4 p) (λx=>(∃j:Nat,x=.inl (j:Int)/\¬QR b)\/x=.inr ()/\QR b) (i:=(pts b,((pts b).length:Int),(0:Int))) ⟨rfl,λj p hj=>by omega⟩ (by omega) (by
  rintro k _ hk ⟨rfl,hj⟩;obtain⟨p,hp,hm⟩:=Zg (l:=pts b) (k:=k) hk;unfold X5;dsimp only;rw[yW (yY (by omega)),Zl hp,ya,ZFR,ya,Zp (by omega)];by_cases h:Zl4 p
  ·left;rw[yY h,yX (by decide)];refine⟨_,rfl,rfl,λj q hjk hq=> ?_⟩;by_cases e:j=k
   ·subst e;rw[hp] at hq;cases hq;exact h
   ·exact hj j q (by omega) hq
  ·right;rw[yZ h,yW (by decide)];exact⟨_,rfl,.inl ⟨k,rfl,λzU=>h (zU p hm)⟩⟩) (by
  rintro _ ⟨rfl,hj⟩;unfold X5;dsimp only;rw[yX (ynd (by omega))];refine⟨_,rfl,.inr ⟨rfl,λp hp=> ?_⟩⟩;obtain⟨j,hj1,hj2⟩:=ybt hp;exact hj j p hj1 (by rw[yz hj1,hj2]))
 rw[show([b.1,b.2.1,b.2.2.1,b.2.2.2.1,b.2.2.2.2]:yL yU)=pts b from rfl,h1,ya]
 rcases h2 with⟨j,rfl,h⟩|⟨rfl,h⟩
 ·dsimp only;rw[ya,ya,yY (show(j:Int) >= 0 by omega),yZ h];rfl
 ·dsimp only;rw[ya,ya,yY h];rfl
structure ChWf(ch:Chan):Prop where
 b:ch.2.2.1.length=2
 t:ch.2.2.2.1.length=2
 a0: -9223372036854775808<=ch.2.1
 a1:ch.2.1<=9223372036854775807
 n0: -9223372036854775808<=ch.1.2
 n1:ch.1.2<=9223372036854775807
 o0: -9223372036854775808<=ch.2.2.2.2
 o1:ch.2.2.2.2<=9223372036854775807
def SideOk(ch:Chan):Prop:=∀i:Nat,i < 2->∀t b,ch.2.2.2.1[i]? =some t->ch.2.2.1[i]? =some b->TermOk t/\QR b
open Classical in
theorem Zl5{α:Type}{l:yL α}(h:l.length=2):∃a b,l=[a,b]:=by
 match l,h with
 |[a,b],_=>exact⟨a,b,rfl⟩
theorem ZFS{a:ZI}{A:Int}{b0 b1:Basics}{t0 t1:Terms}{op:Int}:SideOk (a,A,[b0,b1],[t0,t1],op)↔(TermOk t0/\QR b0)/\TermOk t1/\QR b1:=by
 constructor
 ·intro h;exact⟨h 0 (by omega) t0 b0 rfl rfl,h 1 (by omega) t1 b1 rfl rfl⟩
 ·rintro⟨h0,h1⟩ i hi t b ht hb
  match i,hi with
  |0,_=>cases ht;cases hb;exact h0
  |1,_=>cases ht;cases hb;exact h1
theorem Zys(ch:Chan)(l:yL Terms){k:Nat}(hk:k < 2){t:Terms}{b:Basics}(ht:l[k]? =some t)(hb:ch.2.2.1[k]? =some b):
 W6 yD (l,(k:Int),ch)=some (if TermOk t/\QR b then .inl (l,((k+1:Nat):Int),ch) else .inr (.inl (1,ch))):=by
 unfold W6;dsimp only;rw[yW (yY (by omega)),Zl ht,ya,ZFQ,ya,yW (ZZ (by omega) (by omega)),yay,hb,ya,ZC9,ya,Zp (by omega)];by_cases h1:TermOk t
 ·rw[yY h1,yX (by decide)];by_cases h2:QR b
  ·rw[yY h2,yX (by decide),yW ⟨h1,h2⟩]
  ·rw[yZ h2,yW (by decide),yX λh=>h2 h.2]
 ·rw[yZ h1,yW (by decide),yX λh=>h1 h.1]
theorem ZFT(ch:Chan)(l:yL Terms){t0 t1:Terms}{b0 b1:Basics}(ht:l=[t0,t1])(hb:ch.2.2.1=[b0,b1]):
 Zc (W6 yD) yD (l,(0:Int),ch)=some (if(TermOk t0/\QR b0)/\TermOk t1/\QR b1 then .inr ch else .inl (1,ch)):=by
 subst ht;have s0:=Zys ch [t0,t1] (k:=0) (by omega) (t:=t0) (b:=b0) rfl (by rw[hb];rfl);have s1:=Zys ch [t0,t1] (k:=1) (by omega) (t:=t1) (b:=b1) rfl (by rw[hb];rfl);by_cases h0:TermOk t0/\QR b0
 ·rw[yW h0] at s0;by_cases h1:TermOk t1/\QR b1
  ·rw[yW h1] at s1;rw[yW ⟨h0,h1⟩];refine Zs 2 (λk:Nat=>([t0,t1],(k:Int),ch)) ?_ ?_ (by omega)
   ·intro k hk;rcases (show k=0\/k=1 by omega) with rfl|rfl
    ·exact s0
    ·exact s1
   ·unfold W6;rfl
  ·rw[yX h1] at s1;rw[yX λh=>h1 h.2];exact Zs 1 (λk:Nat=>([t0,t1],(k:Int),ch)) (λk hk=>by rw[show k=0 by omega];exact s0) s1 (by omega)
 ·rw[yX h0] at s0;rw[yX λh=>h0 h.1];exact Zs 0 (λk:Nat=>([t0,t1],(k:Int),ch)) (λk hk=>absurd hk (by omega)) s0 (by omega)
theorem Zyt(X:BitVec 64):(X&&& ~~~(1#64))=0#64↔X=0#64\/X=1#64:=by
 constructor
 ·intro h
  have hb:∀i:Nat,1<=i->X.getLsbD i=false:=by
   intro i hi;have:=congrArg (λy=>BitVec.getLsbD y i) h;simp only[BitVec.getLsbD_and,BitVec.getLsbD_not,BitVec.getLsbD_zero] at this;by_cases h64:i < 64
   ·have h1:(1#64).getLsbD i=false:=by
     rw[BitVec.getLsbD_one];simp;omega
    rw[h1] at this;simpa[h64] using this
   ·exact BitVec.getLsbD_of_ge X i (by omega)
  cases h0:X.getLsbD 0 with
  |false=>
   left;apply BitVec.eq_of_getLsbD_eq;intro i hi
   match i with
   |0=>rw[h0];simp
   |j+1=>rw[hb (j+1) (by omega)];simp
  |true=>
   right;apply BitVec.eq_of_getLsbD_eq;intro i hi
   match i with
   |0=>rw[h0];rfl
   |j+1=>
    rw[hb (j+1) (by omega),BitVec.getLsbD_one];simp
 ·rintro(rfl|rfl) <;> rfl
theorem Znh{op:Int}(o0: -9223372036854775808<=op)(o1:op<=9223372036854775807):((bits .andNot .i64 op 1)!=0)= !decide (0<=op/\op<=1):=by
 have e:bits .andNot .i64 op 1=IntKind.i64.wrap ((ycb 64 op&&& ~~~(1#64)).toNat:Int):=rfl;have hlt:=(ycb 64 op&&& ~~~(1#64)).isLt
 have hw:∀n:Nat,n < 18446744073709551616->(IntKind.i64.wrap (n:Int)=0↔n=0):=by
  intro n hn;have e2:IntKind.i64.wrap (n:Int)=if(decide ((n:Int) % 18446744073709551616 >= 9223372036854775808))=true then(n:Int) % 18446744073709551616 - 18446744073709551616 else(n:Int) % 18446744073709551616:=rfl
  rw[e2];by_cases hm:(n:Int) % 18446744073709551616 >= 9223372036854775808
  ·rw[yW (yY hm)];omega
  ·rw[yX (by rw[yN];exact hm)];omega
 have hx:(ycb 64 op&&& ~~~(1#64)).toNat=0↔0<=op/\op<=1:=by
  rw[show((ycb 64 op&&& ~~~(1#64)).toNat=0↔(ycb 64 op&&& ~~~(1#64))=0#64) from⟨λh=>BitVec.eq_of_toNat_eq h,λh=>by rw[h];rfl⟩,Zyt]
  have hn:(ycb 64 op).toNat=(op % 18446744073709551616).toNat:=by rw[BitVec.toNat_ofInt];rfl
  constructor
  ·rintro(h|h)
   ·have:=congrArg BitVec.toNat h;rw[hn] at this;simp at this;omega
   ·have:=congrArg BitVec.toNat h;rw[hn] at this;simp at this;omega
  ·rintro⟨h0,h1⟩;rcases (show op=0\/op=1 by omega) with rfl|rfl
   ·exact .inl rfl
   ·exact .inr rfl
 rw[e];by_cases h:0<=op/\op<=1
 ·rw[yY h,(hw _ hlt).2 (hx.2 h)];rfl
 ·rw[yZ h];exact bne_iff_ne.2 λk=>h (hx.1 ((hw _ hlt).1 k))
theorem ZJ2{ch:Chan}(w:ChWf ch):∃e:Int,ZfE yD ch=some e/\(e=0->(1<=ch.2.1/\ch.2.1<=1125899906842624)/\(0<=ch.1.2/\ch.1.2<=63)/\(ch.2.2.2.2=0\/ch.2.2.2.2=1)/\SideOk ch):=by
 obtain⟨b0,b1,hb⟩:=Zl5 w.b;obtain⟨t0,t1,ht⟩:=Zl5 w.t;have a0:=w.a0;have o0:=w.o0;have o1:=w.o1;obtain⟨⟨id,no⟩,A,bs,ts,op⟩:=ch;dsimp only at hb ht a0 o0 o1;subst hb;subst ht;have hop:=Znh o0 o1;unfold ZfE;dsimp only;by_cases h1:1<=A/\A<=1125899906842624
 ·rw[yX (show¬decide (A < 1)=true by rw[yN];omega),yX (show¬decide (A > 1125899906842624)=true by rw[yN];omega)];by_cases h2:0<=no/\no<=63
  ·rw[yX (show¬decide (no < 0)=true by rw[yN];omega),yX (show¬decide (no >= 64)=true by rw[yN];omega)];rw[hop];by_cases h3:0<=op/\op<=1
   ·rw[yY h3,yX (by decide),ZFT _ _ rfl rfl,ya];by_cases h4:(TermOk t0/\QR b0)/\TermOk t1/\QR b1
    ·rw[yW h4];dsimp only;obtain⟨_,_,_,q0,_⟩:=h4.1.1;obtain⟨p0,_⟩:=h4.1.1;obtain⟨_,_,_,q1,_⟩:=h4.2.1;obtain⟨p1,_⟩:=h4.2.1
     have n0:Vt yD t0.2.1 t1.2.1=if t0.2.1+t1.2.1<=1125899906842624 then some (t0.2.1+t1.2.1,true) else some (0,false):=by
      unfold Vt Qx;rw[yW (yY (show t0.2.1 >= 0 by omega)),yW (yY (show t1.2.1 >= 0 by omega)),ya,ya,yY (show t0.2.1<=1125899906842624 by omega),yY (show t1.2.1<=1125899906842624 by omega),yX (by decide),yX (by decide),ZP (z:=1125899906842624 - t1.2.1) (by omega) (by omega),ZP (z:=t0.2.1+t1.2.1) (by omega) (by omega)];by_cases h:t0.2.1+t1.2.1<=1125899906842624
      ·rw[yX (ynd (by omega)),yW h]
      ·rw[yW (yY (by omega)),yX h]
     rw[ybd,yav,ybd,ya,ya,n0];refine⟨if t0.2.1+t1.2.1 > A then 10 else 0, ?_,λ_=>⟨h1,h2,by omega,ZFS.2 h4⟩⟩
     ·by_cases h5:t0.2.1+t1.2.1<=1125899906842624
      ·rw[yW h5,ya,yX (show¬(!true)=true by decide)];by_cases h6:t0.2.1+t1.2.1 > A
       ·rw[yW (yY h6),yW h6]
       ·rw[yX (by rw[yN];exact h6),yX h6]
      ·rw[yX h5,ya,yW (show(!false)=true by decide),yW (by omega)]
    ·rw[yX h4];exact⟨1,rfl,λh=>absurd h (by decide)⟩
   ·rw[yZ h3,yW (by decide)];exact⟨1,rfl,λh=>absurd h (by decide)⟩
  ·refine⟨1, ?_,λh=>absurd h (by decide)⟩;by_cases h:no < 0
   ·rw[yW (yY h)]
   ·rw[yX (by rw[yN];exact h),yW (yY (by omega))]
 ·refine⟨1, ?_,λh=>absurd h (by decide)⟩;by_cases h:A < 1
  ·rw[yW (yY h)]
  ·rw[yX (by rw[yN];exact h),yW (yY (by omega))]
theorem ZtY{lo hi:Int}{l:yL Int}(hl:l.length<=100):ZT yD lo hi l=some (decide (∀x,x∈l->lo<=x/\x<=hi)):=by
 unfold ZT Yt YX
 obtain⟨x,h1,h2⟩:=WW (step:=ZH yD) l.length (λk s=>s=(l,(l.length:Int),(k:Int),lo,hi)/\∀(j:Nat)z,j < k->l[j]? =some z->lo<=z/\z<=hi) (λx=>(∃j:Nat,x=.inl ((j:Int),lo,hi)/\¬∀z,z∈l->lo<=z/\z<=hi)\/x=.inr (lo,hi)/\∀z,z∈l->lo<=z/\z<=hi) (i:=(l,(l.length:Int),(0:Int),lo,hi)) ⟨rfl,λj z hj=>by omega⟩ (by omega) (by
  rintro k _ hk ⟨rfl,hj⟩;obtain⟨z,hz,hm⟩:=Zg hk;unfold ZH Ql;dsimp only;rw[yW (ZG hk),Zl hz,ya,Zp (by omega)];by_cases h:z < lo
  ·right;rw[yW (yY h),ya,yW rfl];exact⟨_,rfl,.inl ⟨k,rfl,λzU=>by have:=zU z hm;omega⟩⟩
  ·rw[yX (by rw[yN];exact h),ya];by_cases h':z > hi
   ·right;rw[yW (yY h')];exact⟨_,rfl,.inl ⟨k,rfl,λzU=>by have:=zU z hm;omega⟩⟩
   ·left;rw[yX (by rw[yN];exact h')];refine⟨_,rfl,rfl,λj q hjk hq=> ?_⟩;by_cases e:j=k
    ·subst e;rw[hz] at hq;cases hq;omega
    ·exact hj j q (by omega) hq) (by
  rintro _ ⟨rfl,hj⟩;unfold ZH;dsimp only;rw[yX (by rw[Zz];decide)];refine⟨_,rfl,.inr ⟨rfl,λp hp=> ?_⟩⟩;obtain⟨j,hj1,hj2⟩:=ybt hp;exact hj j p hj1 (by rw[yz hj1,hj2]))
 rw[h1,ya];rcases h2 with⟨j,rfl,h⟩|⟨rfl,h⟩
 ·dsimp only;rw[ya,ya,yY (show(j:Int) >= 0 by omega),yZ h];rfl
 ·dsimp only;rw[ya,ya,yY h];rfl
theorem Zwa(lo hi z:Int):ZT yD lo hi [z]=some (decide (lo<=z/\z<=hi)):=by
 rw[ZtY (by simp)];exact congrArg some (decide_eq_decide.2 (by simp))
theorem ZHR(lo hi y z:Int):ZT yD lo hi [y,z]=some (decide ((lo<=y/\y<=hi)/\lo<=z/\z<=hi)):=by
 rw[ZtY (by simp)];exact congrArg some (decide_eq_decide.2 (by simp))
def ZrE(c:Cond):Prop:=(0<=c.1/\c.1<=1)/\(1<=c.2.1/\c.2.1<=1048576)/\(1<=c.2.2.1/\c.2.2.1<=1125899906842624)/\(1<=c.2.2.2.2/\c.2.2.2.2<=1048576)/\Zl4 c.2.2.2.1
instance(c:Cond):Decidable (ZrE c):=by unfold ZrE;infer_instance
theorem ZHS(c:Cond):ZdW yD c=some (decide (ZrE c)):=by
 unfold ZdW;simp only[Zwa,ya,XQ];refine Zav (Zav (Zav (Zav ?_)));by_cases k:IsPt c.2.2.2.1.toNat
 ·rw[yY k,yW rfl];by_cases h:c.2.2.2.1=1
  ·rw[yZ (p:=Zl4 c.2.2.2.1) λq=>q.2 h,h];rfl
  ·rw[yY (p:=Zl4 c.2.2.2.1) ⟨k,h⟩];exact congrArg some (bne_iff_ne.2 h)
 ·rw[yZ k,yX (by decide),yZ (p:=Zl4 c.2.2.2.1) λq=>k q.1]
def ZtZ(a b:Cond):Prop:=a.1 < b.1\/a.1=b.1/\a.2.1 < b.2.1
instance(a b:Cond):Decidable (ZtZ a b):=by unfold ZtZ;infer_instance
theorem ZFU(a b:Cond):∃v,Zcd yD a b=some v/\(v >= 0↔¬ZtZ a b):=by
 unfold Zcd;rw[ZaZ,ZaZ,ya,ya,ZIw (by simp),ya];refine⟨_,rfl, ?_⟩;unfold ZtZ;by_cases h1:a.1 < b.1
 ·simp only[yW h1,orL];simp[h1]
 ·by_cases h2:a.1 > b.1
  ·simp only[yX h1,yW h2,orL];simp;omega
  ·simp only[yX h1,yX h2,orL];by_cases h3:a.2.1 < b.2.1
   ·simp only[yW h3];simp;omega
   ·by_cases h4:a.2.1 > b.2.1
    ·simp only[yX h3,yW h4];simp;omega
    ·simp only[yX h3,yX h4];simp;omega
def ZJ3(to:Int)(o:Int×Int)(c:Cond):Int×Int:=if c.1=wi (1 - to) then(wi (o.1+1),wi (o.2+c.2.2.1)) else o
def off(to:Int)(l:yL Cond):Int×Int:=l.foldl (ZJ3 to) (0,0)
theorem ZJ4{to:Int}{l:yL Cond}{k:Nat}{c:Cond}(h:l[k]? =some c):off to (l.take (k+1))=ZJ3 to (off to (l.take k)) c:=by
 rw[Vl h,off,List.foldl_append];rfl
theorem ZAt(s:yG)(to:Int)(hl:s.2.2.1.length<=1000):Zaf yD s to=some (off to s.2.2.1):=by
 unfold Zaf;rw[show((to,(0:Int),(0:Int),s.2.2.1,(s.2.2.1.length:Int),(0:Int),s):Int×Int×Int×yL Cond×Int×Int×yG)=(λk:Nat=>(to,(off to (s.2.2.1.take k)).1,(off to (s.2.2.1.take k)).2,s.2.2.1,(s.2.2.1.length:Int),(k:Int),s)) 0 from rfl]
 rw[Zs (x:=((off to s.2.2.1).1,(off to s.2.2.1).2,s)) s.2.2.1.length (λk:Nat=>(to,(off to (s.2.2.1.take k)).1,(off to (s.2.2.1.take k)).2,s.2.2.1,(s.2.2.1.length:Int),(k:Int),s)) ?_ ?_ (by omega),ya]
 ·intro k hk;obtain⟨c,hc,hm⟩:=Zg hk;unfold Vh;dsimp only;rw[yW (ZG hk),Zl hc,ya,Zp (by omega),ZJ4 hc];unfold ZJ3;by_cases h:c.1=wi (1 - to)
  ·rw[yW (beq_iff_eq.2 h),yW h]
  ·rw[yX (by rw[yT];exact h),yX h]
 ·unfold Vh;dsimp only;rw[yX (by rw[Zz];decide),yak]
def ZFV(o:Int)(c:Cond):Int:=wi (o+c.2.2.1)
def totF(z:Int)(l:yL Cond):Int:=l.foldl ZFV z
theorem ZJ5{z:Int}{l:yL Cond}{k:Nat}{c:Cond}(h:l[k]? =some c):totF z (l.take (k+1))=ZFV (totF z (l.take k)) c:=by
 rw[Vl h,totF,List.foldl_append];rfl
theorem ZFW(s:yG){a b:Int}(h2:s.2.1=[a,b])(hl:s.2.2.1.length<=1000):Zce yD s=some (totF (wi (a+b)) s.2.2.1):=by
 unfold Zce;rw[h2,ybd,yav,ybd,ya,ya];rw[show((wi (a+b),s.2.2.1,(s.2.2.1.length:Int),(0:Int),s):Int×yL Cond×Int×Int×yG)=(λk:Nat=>(totF (wi (a+b)) (s.2.2.1.take k),s.2.2.1,(s.2.2.1.length:Int),(k:Int),s)) 0 from rfl]
 rw[Zs (x:=(totF (wi (a+b)) s.2.2.1,s)) s.2.2.1.length (λk:Nat=>(totF (wi (a+b)) (s.2.2.1.take k),s.2.2.1,(s.2.2.1.length:Int),(k:Int),s)) ?_ ?_ (by omega),ya]
 ·intro k hk;obtain⟨c,hc,hm⟩:=Zg hk;unfold Qm;dsimp only;rw[yW (ZG hk),Zl hc,ya,Zp (by omega),ZJ5 hc];rfl
 ·unfold Qm;dsimp only;rw[yX (by rw[Zz];decide),yak]
def feeF(r n:Int):Int:=if 0<=r/\r<=1000 then if 0<=n/\n<=16 then r*(68+8*n) else 0 else 0
theorem ZDa{r n:Int}(h1:0<=r)(h2:r<=1000)(h3:0<=n)(h4:n<=16):wi (r*(68+8*n))=r*(68+8*n):=by
 have:=Int.mul_nonneg h1 (show 0<=68+8*n by omega);have:=Int.mul_le_mul h2 (show 68+8*n<=196 by omega) (by omega) (by omega);exact ZP (by omega) (by omega)
theorem ZFX(r n:Int):Zc2 yD r n=some (feeF r n):=by
 unfold Zc2 Zeo feeF;by_cases h1:r < 0
 ·rw[yW (yY h1),yX (show¬(0<=r/\r<=1000) by omega)]
 ·rw[yX (show¬decide (r < 0)=true by rw[yN];exact h1)];by_cases h2:r > 1000
  ·rw[yW (yY h2),yX (show¬(0<=r/\r<=1000) by omega)]
  ·rw[yX (show¬decide (r > 1000)=true by rw[yN];exact h2),yW (show 0<=r/\r<=1000 by omega)];by_cases h3:n < 0
   ·rw[yW (yY h3),yX (show¬(0<=n/\n<=16) by omega),ya,Int.mul_zero];rfl
   ·rw[yX (show¬decide (n < 0)=true by rw[yN];exact h3)];by_cases h4:n > 16
    ·rw[yW (yY h4),yX (show¬(0<=n/\n<=16) by omega),ya,Int.mul_zero];rfl
    ·rw[yX (show¬decide (n > 16)=true by rw[yN];exact h4),yW (show 0<=n/\n<=16 by omega),ya,ZP (z:=8*n) (by omega) (by omega),ZP (z:=68+8*n) (by omega) (by omega),ZDa (by omega) (by omega) (by omega) (by omega)]
theorem ZHT(ch:Chan)(s:yG):ZdX yD ch s=some (wi (feeF s.2.2.2 (s.2.2.1.length:Int)+660)):=by
 unfold ZdX;rw[ZFX,ya]
def W3(n:Nat)(ok:Nat->Prop):Prop:=∀k,k < n->ok k
open Classical in
theorem Zyu{I X:Type}{step:I->yO (I⊕X)}(n:Nat)(st:Nat->I)(ok:Nat->Prop)(good bad:X)
 (h1:∀k,k < n->ok k->step (st k)=some (.inl (st (k+1)))) (h2:∀k,k < n->¬ok k->step (st k)=some (.inr bad)) (he:step (st n)=some (.inr good)) (hn:n < 18446744073709551616):
 Zc step yD (st 0)=some (if W3 n ok then good else bad):=by
 obtain⟨x,e,rfl⟩:=WW (step:=step) n (λk s=>s=st k/\∀j,j < k->ok j) (λx=>x=if W3 n ok then good else bad) (i:=st 0) ⟨rfl,λj h=>by omega⟩ hn (by
  rintro k _ hk ⟨rfl,hj⟩;by_cases h:ok k
  ·left;refine⟨_,h1 k hk h,rfl,λj hjk=> ?_⟩;by_cases e:j=k
   ·rw[e];exact h
   ·exact hj j (by omega)
  ·right;exact⟨_,h2 k hk h,by rw[yX λq=>h (q k hk)]⟩) (by
  rintro _ ⟨rfl,hj⟩;exact⟨_,he,by rw[yW (show W3 n ok from hj)]⟩)
 exact e
def CondAt(ch:Chan)(l:yL Cond)(k:Nat):Prop:=∀c,l[k]? =some c->ZrE c/\(∀p,0 < k->l[k - 1]? =some p->ZtZ p c)/\∀t,ch.2.2.2.1[(1 - c.1).toNat]? =some t->t.2.2.2.2.1<=c.2.2.1
def SideAt(ch:Chan)(l:yL Cond)(k:Nat):Prop:=∀t,ch.2.2.2.1[k]? =some t->(off (k:Int) l).1<=t.2.2.2.1/\(off (k:Int) l).2<=t.2.2.2.2.2
theorem ZAu{ch:Chan}(w:ch.2.2.2.1.length=2){c:Cond}(h:0<=c.1/\c.1<=1):wi (1 - c.1)=1 - c.1/\inB (wi (1 - c.1)) 2=true/\∃t,ch.2.2.2.1[(wi (1 - c.1)).toNat]? =some t/\ch.2.2.2.1[(1 - c.1).toNat]? =some t:=by
 have e:wi (1 - c.1)=1 - c.1:=ZP (by omega) (by omega);rw[e];obtain⟨t,ht,_⟩:=Zg (l:=ch.2.2.2.1) (k:=(1 - c.1).toNat) (by omega);exact⟨rfl,ZZ (by omega) (by omega),t,ht,ht⟩
theorem ZrF{ch:Chan}(w:ch.2.2.2.1.length=2)(s:yG){k:Nat}(hk:k < s.2.2.1.length)(hl:s.2.2.1.length<=16):
 (CondAt ch s.2.2.1 k->Xk yD (s.2.2.1,(s.2.2.1.length:Int),(k:Int),ch,s)=some (.inl (s.2.2.1,(s.2.2.1.length:Int),((k+1:Nat):Int),ch,s)))/\
 (¬CondAt ch s.2.2.1 k->Xk yD (s.2.2.1,(s.2.2.1.length:Int),(k:Int),ch,s)=some (.inr (.inl (false,ch,s)))):=by
 obtain⟨c,hc,hm⟩:=Zg hk;unfold Xk;dsimp only;rw[yW (ZG hk)];simp only[Zl hc,ya,ZHS];rw[Zp (by omega)];by_cases hf:ZrE c
 ·rw[yY hf,yX (show¬(!true)=true by decide)];obtain⟨e,hb,t,ht,ht'⟩:=ZAu w hf.1;simp only[yW hb];rw[ht,ya];by_cases hk0:k=0
  ·subst hk0;rw[yX (show¬decide (((0:Nat):Int) > 0)=true by decide)];by_cases hd:c.2.2.1 < t.2.2.2.2.1
   ·have bad:¬CondAt ch s.2.2.1 0:=λq=>by
     have:=(q c hc).2.2 t ht';omega
    refine⟨λq=>absurd q bad,λ_=> ?_⟩;rw[yW (yY hd)]
   ·have good:CondAt ch s.2.2.1 0:=λc' hc'=>by
     rw[hc] at hc';cases hc';refine⟨hf,λp h0=>by omega,λt' h'=> ?_⟩;rw[ht'] at h';cases h';omega
    refine⟨λ_=> ?_,λq=>absurd good q⟩;rw[yX (show¬decide (c.2.2.1 < t.2.2.2.2.1)=true by rw[yN];exact hd)]
  ·obtain⟨p,hp,_⟩:=Zg (l:=s.2.2.1) (k:=k - 1) (by omega)
   have ek:wi ((k:Int) - 1)=((k - 1:Nat):Int):=by
    rw[ZP (by omega) (by omega)];omega
   rw[yW (show decide ((k:Int) > 0)=true from yY (by omega)),ek,Zl hp]
   simp only[ya];obtain⟨v,hv,hv2⟩:=ZFU p c;rw[hv];simp only[ya];by_cases ha:ZtZ p c
   ·by_cases hd:c.2.2.1 < t.2.2.2.2.1
    ·have bad:¬CondAt ch s.2.2.1 k:=λq=>by
      have:=(q c hc).2.2 t ht';omega
     refine⟨λq=>absurd q bad,λ_=> ?_⟩;rw[yW (yY hd)]
    ·have good:CondAt ch s.2.2.1 k:=λc' hc'=>by
      rw[hc] at hc';cases hc';refine⟨hf,λp' h0 hp'=> ?_,λt' h'=> ?_⟩
      ·rw[hp] at hp';cases hp';exact ha
      ·rw[ht'] at h';cases h';omega
     refine⟨λ_=> ?_,λq=>absurd good q⟩;rw[yX (show¬decide (c.2.2.1 < t.2.2.2.2.1)=true by rw[yN];exact hd),yX (show¬decide (v >= 0)=true by rw[yN];exact λq=>hv2.1 q ha)]
   ·have bad:¬CondAt ch s.2.2.1 k:=λq=>ha ((q c hc).2.1 p (by omega) hp);refine⟨λq=>absurd q bad,λ_=> ?_⟩;rw[yW (show decide (v >= 0)=true from yY (hv2.2 ha))]
    by_cases hd:c.2.2.1 < t.2.2.2.2.1
    ·rw[yW (yY hd)]
    ·rw[yX (show¬decide (c.2.2.1 < t.2.2.2.2.1)=true by rw[yN];exact hd)]
 ·have bad:¬CondAt ch s.2.2.1 k:=λq=>hf (q c hc).1;refine⟨λq=>absurd q bad,λ_=> ?_⟩;rw[yZ hf,yW (show(!false)=true by decide)]
open Classical in
theorem ZAv{ch:Chan}(w:ch.2.2.2.1.length=2)(s:yG)(hl:s.2.2.1.length<=16):
 Zc (Xk yD) yD (s.2.2.1,(s.2.2.1.length:Int),(0:Int),ch,s)=some (if W3 s.2.2.1.length (CondAt ch s.2.2.1) then .inr (ch,s) else .inl (false,ch,s)):=by
 ·refine Zyu s.2.2.1.length (λk:Nat=>(s.2.2.1,(s.2.2.1.length:Int),(k:Int),ch,s)) (CondAt ch s.2.2.1) _ _ (λk hk h=>((ZrF w s hk hl).1 h)) (λk hk h=>((ZrF w s hk hl).2 h)) ?_ (by omega);unfold Xk;dsimp only;rw[yX (by rw[Zz];decide)]
theorem ZrG{ch:Chan}(w:ch.2.2.2.1.length=2)(s:yG){k:Nat}(hk:k < 2)(hl:s.2.2.1.length<=16):
 (SideAt ch s.2.2.1 k->XW yD (ch.2.2.2.1,(k:Int),ch,s)=some (.inl (ch.2.2.2.1,((k+1:Nat):Int),ch,s)))/\
 (¬SideAt ch s.2.2.1 k->XW yD (ch.2.2.2.1,(k:Int),ch,s)=some (.inr (.inl (false,ch,s)))):=by
 obtain⟨t,ht,_⟩:=Zg (l:=ch.2.2.2.1) (k:=k) (by omega);unfold XW;dsimp only;rw[yW (show decide ((k:Int) < 2)=true from yY (by omega)),Zl ht,ya,ZAt s _ (by omega),ya,Zp (by omega)]
 by_cases h1:(off (k:Int) s.2.2.1).1 > t.2.2.2.1
 ·have bad:¬SideAt ch s.2.2.1 k:=λq=>by
   have:=(q t ht).1;omega
  refine⟨λq=>absurd q bad,λ_=> ?_⟩;rw[yW (yY h1)]
 ·rw[yX (show¬decide ((off (k:Int) s.2.2.1).1 > t.2.2.2.1)=true by rw[yN];exact h1)];by_cases h2:(off (k:Int) s.2.2.1).2 > t.2.2.2.2.2
  ·have bad:¬SideAt ch s.2.2.1 k:=λq=>by
    have:=(q t ht).2;omega
   refine⟨λq=>absurd q bad,λ_=> ?_⟩;rw[yW (yY h2)]
  ·have good:SideAt ch s.2.2.1 k:=λt' h'=>by
    rw[ht] at h';cases h';omega
   refine⟨λ_=> ?_,λq=>absurd good q⟩;rw[yX (show¬decide ((off (k:Int) s.2.2.1).2 > t.2.2.2.2.2)=true by rw[yN];exact h2)]
open Classical in
theorem ZAw{ch:Chan}(w:ch.2.2.2.1.length=2)(s:yG)(hl:s.2.2.1.length<=16):
 Zc (XW yD) yD (ch.2.2.2.1,(0:Int),ch,s)=some (if W3 2 (SideAt ch s.2.2.1) then .inr (ch,s) else .inl (false,ch,s)):=by
 ·exact Zyu 2 (λk:Nat=>(ch.2.2.2.1,(k:Int),ch,s)) (SideAt ch s.2.2.1) _ _ (λk hk h=>((ZrG w s hk hl).1 h)) (λk hk h=>((ZrG w s hk hl).2 h)) rfl (by omega)
structure StR(ch:Chan)(s:yG):Prop where
 am:1<=ch.2.1/\ch.2.1<=1125899906842624
 at_:0<=ch.1.2/\ch.1.2<=63
 op:ch.2.2.2.2=0\/ch.2.2.2.2=1
 side:SideOk ch
 no:0<=s.1/\s.1<=1048576
 have_:∃a b,s.2.1=[a,b]/\(0<=a/\a<=1125899906842624)/\(0<=b/\b<=1125899906842624)/\totF (wi (a+b)) s.2.2.1=ch.2.1/\(ch.2.2.2.2=0->a >= wi (feeF s.2.2.2 (s.2.2.1.length:Int)+660))/\(ch.2.2.2.2=1->b >= wi (feeF s.2.2.2 (s.2.2.1.length:Int)+660))
 rate:0<=s.2.2.2/\s.2.2.2<=1000
 len:s.2.2.1.length<=16
 conds:∀k,k < s.2.2.1.length->CondAt ch s.2.2.1 k
 sides:∀k,k < 2->SideAt ch s.2.2.1 k
theorem ZFY{ch:Chan}(w:ChWf ch){s:yG}(hw:s.2.1.length=2):∃b:Bool,Zag yD ch s=some b/\(b=true->StR ch s):=by
 obtain⟨e,f1,f3⟩:=ZJ2 w;obtain⟨a,b,hs⟩:=Zl5 hw;unfold Zag;rw[f1,ya];by_cases he:e=0
 ·subst he;obtain⟨q1,q2,q3,q4⟩:=f3 rfl;rw[yX (show¬(((0:Int)!=0)=true) by decide),Zwa,ya,hs];by_cases h1:0<=s.1/\s.1<=1048576
  ·rw[yY h1,yX (show¬(!true)=true by decide),ybd,yav,ybd];simp only[ya,ZHR,Zwa];by_cases h2:0<=a/\a<=1125899906842624
   ·by_cases h3:0<=b/\b<=1125899906842624
    ·rw[yY (p:=(0<=a/\a<=1125899906842624)/\0<=b/\b<=1125899906842624) ⟨h2,h3⟩];rw[yX (show¬(!true)=true by decide)];by_cases h4:0<=s.2.2.2/\s.2.2.2<=1000
     ·rw[yY h4,yX (show¬(!true)=true by decide)];by_cases h5:s.2.2.1.length<=16
      ·have h5':¬decide ((s.2.2.1.length:Int) > 16)=true:=by rw[yN];omega
       rw[yX h5',ZAv w.t s h5,ya];by_cases h6:W3 s.2.2.1.length (CondAt ch s.2.2.1)
       ·rw[yW h6];dsimp only;rw[ZAw w.t s h5,ya];by_cases h7:W3 2 (SideAt ch s.2.2.1)
        ·rw[yW h7];dsimp only;rw[ZFW s hs (by omega),ya];by_cases h8:totF (wi (a+b)) s.2.2.1=ch.2.1
         ·rw[yW (beq_iff_eq.2 h8),hs,ZHT];rcases q3 with q|q
          ·rw[q,yW (by decide)];refine⟨decide (a >= wi (feeF s.2.2.2 (s.2.2.1.length:Int)+660)),rfl,λh=>⟨q1,q2,.inl q,q4,h1,⟨a,b,hs,h2,h3,h8,λ_=>yF h,λh=> ?_⟩,h4,h5,h6,h7⟩⟩;rw[q] at h;exact absurd h (by decide)
          ·rw[q,yW (by decide)];refine⟨decide (b >= wi (feeF s.2.2.2 (s.2.2.1.length:Int)+660)),rfl,λh=>⟨q1,q2,.inr q,q4,h1,⟨a,b,hs,h2,h3,h8,λh=> ?_,λ_=>yF h⟩,h4,h5,h6,h7⟩⟩;rw[q] at h;exact absurd h (by decide)
         ·have h8':¬(totF (wi (a+b)) s.2.2.1==ch.2.1)=true:=by rw[yT];exact h8
          rw[yX h8'];exact⟨false,rfl,λh=>absurd h (by decide)⟩
        ·rw[yX h7];exact⟨false,rfl,λh=>absurd h (by decide)⟩
       ·rw[yX h6];exact⟨false,rfl,λh=>absurd h (by decide)⟩
      ·have h5':decide ((s.2.2.1.length:Int) > 16)=true:=yY (by omega);rw[yW h5'];exact⟨false,rfl,λh=>absurd h (by decide)⟩
     ·rw[yZ h4];exact⟨false,rfl,λh=>absurd h (by decide)⟩
    ·rw[yZ (p:=(0<=a/\a<=1125899906842624)/\0<=b/\b<=1125899906842624) λq=>h3 q.2];exact⟨false,rfl,λh=>absurd h (by decide)⟩
   ·rw[yZ (p:=(0<=a/\a<=1125899906842624)/\0<=b/\b<=1125899906842624) λq=>h2 q.1];exact⟨false,rfl,λh=>absurd h (by decide)⟩
  ·rw[yZ h1];exact⟨false,rfl,λh=>absurd h (by decide)⟩
 ·have he':(e !=0)=true:=bne_iff_ne.2 he;rw[yW he'];exact⟨false,rfl,λh=>absurd h (by decide)⟩
theorem ZDb(p:yU):Zd3 yD p=some (Wd p.toNat):=by
 unfold Zd3
 have e:=Zs (step:=Wq yD) 8 (λk:Nat=>(p,(k:Int),ZjD (Wd p.toNat) 8 k)) (x:=Wd p.toNat) (by
  intro k hk;have hb:(Wd p.toNat)[k]? =_:=ZAl p hk;have hl:(Wd p.toNat).length=8:=rfl;unfold Wq;dsimp only;have q1:min (56 - 8*(k:Int)).toNat 64=56 - 8*k:=by omega
  rw[yW (yY (by omega)),ZP (z:=8*(k:Int)) (by omega) (by omega),ZP (z:=56 - 8*(k:Int)) (by omega) (by omega),yW (yY (by omega)),yW (ZZ (by omega) (by omega)),yay,ZtT (by omega) (by omega),ya,Zp (by omega),q1,ZtU hb (by omega)]) (by
  unfold Wq;dsimp only;rw[yX (ynd (by omega)),ZtV (n:=8) (Wb _)]) (by omega)
 have e:Zc (Wq yD) yD (p,(0:Int),([0,0,0,0,0,0,0,0]:yL yB))=_:=e;rw[e,ya];rfl
noncomputable def ZFZ(s:ByteArray)(a b:yU):yU:=frF (Sha.sha (ZrC s [Wd a.toNat,Wd b.toNat]))
theorem ZHU(a b:yU):∀l,l∈[Wd a.toNat,Wd b.toNat]->l.length<=60000:=by
 intro l hl;simp only[yax,ycj,or_false] at hl;rcases hl with rfl|rfl
 ·exact ybz (Nat.le_of_eq (Wb _)) (by decide)
 ·exact ybz (Nat.le_of_eq (Wb _)) (by decide)
theorem Zwb{s:ByteArray}(hs:s.size<=100)(a b:yU):WQ yD s [a,b]=some (ZFZ s a b):=by
 unfold WQ
 have e:=Zs (step:=XY yD) 2 (λk:Nat=>(s,[a,b],(2:Int),(k:Int),[Wd a.toNat,Wd b.toNat].take k)) (x:=(s,[Wd a.toNat,Wd b.toNat])) (by
  intro k hk;obtain⟨p,hp,_⟩:=Zg (l:=[a,b]) (k:=k) (by simp;omega)
  have hq:[Wd a.toNat,Wd b.toNat][k]? =some (Wd p.toNat):=by
   rcases (show k=0\/k=1 by omega) with rfl|rfl
   ·cases hp;rfl
   ·cases hp;rfl
  have hl:([Wd a.toNat,Wd b.toNat].take k).length<=2:=by rw[yae];exact Nat.min_le_right _ _
  unfold XY;dsimp only;rw[yW (yY (by omega)),Zl hp,ya,ZDb,ya,yW (ZX (by omega) (by omega)),Zp (by omega),List.take_add_one,hq];rfl) (by
  unfold XY;dsimp only;rw[yX (ynd (by omega))];rfl) (by omega)
 have e:Zc (XY yD) yD (s,[a,b],(([a,b]:yL yU).length:Int),(0:Int),([]:yL (yL yB)))=_:=e;rw[e,ya];dsimp only;rw[Zv7 hs (by simp) (ZHU a b),ya,ZHO (Sha.ZK2 _),ya];rfl
noncomputable def mixF(a p:yU):yU:=ad a (B (ZFZ ZBO p a).toNat)
noncomputable def revF(a p:yU):yU:=ad (sc a (ZFZ ZBN a p).toNat) (sc p (ZFZ ZBN p a).toNat)
theorem ZJ6(a p:yU):Zcv yD a p=some (mixF a p):=by
 unfold Zcv;rw[Zwb (by decide),ya,Wj,ya,ZAo,ya];rfl
theorem ZDc(a p:yU):Zci yD a p=some (revF a p):=by
 unfold Zci;rw[Zwb (by decide),ya,ZhW,ya,Zwb (by decide),ya,ZhW,ya,ZAo,ya];rfl
theorem Zwc(a p:yU):IsPt (mixF a p).toNat:=ZIu _ _
theorem ZBY(a p:yU):IsPt (revF a p).toNat:=ZIu _ _
theorem ZDd{l:yL yU}(hl:l.length<=9223372036854775807):∃b,Xg yD l=some b/\(b=false->∀p,p∈l->IsPt p.toNat):=by
 unfold Xg Vj
 obtain⟨x,h1,h2⟩:=WW (step:=Yd yD) l.length (λk s=>s=(l,(l.length:Int),(k:Int))/\∀j p,j < k->l[j]? =some p->IsPt p.toNat) (λx=>(∃k:Nat,x=.inl (k:Int))\/x=.inr ()/\∀p,p∈l->IsPt p.toNat) (i:=(l,(l.length:Int),(0:Int))) ⟨rfl,λj p hj=>by omega⟩ (by omega) (by
  rintro k _ hk ⟨rfl,hj⟩;obtain⟨e,he,_⟩:=Zg hk;unfold Yd;dsimp only;rw[yW (ZG hk),Zl he,ya,ZAq,ya,Zp (by omega)];by_cases hp:IsPt e.toNat
  ·rw[yY hp];left;refine⟨_,rfl,rfl,λj p h3 h4=> ?_⟩;by_cases h5:j < k
   ·exact hj j p h5 h4
   ·have:j=k:=by omega
    subst this;rw[he] at h4;cases h4;exact hp
  ·rw[yZ hp];right;exact⟨_,rfl,.inl ⟨k,rfl⟩⟩) (by
  rintro _ ⟨rfl,hj⟩;unfold Yd;dsimp only;rw[yX (by rw[Zz];decide)];refine⟨_,rfl,.inr ⟨rfl,λp hp=> ?_⟩⟩;obtain⟨j,hj1,hj2⟩:=ybt hp;exact hj j p hj1 (by rw[yz hj1,hj2]))
 rw[h1,ya];rcases h2 with⟨k,rfl⟩|⟨rfl,h2⟩
 ·dsimp only;rw[ya];refine⟨_,rfl,λh=> ?_⟩;exact absurd (of_decide_eq_false h) (by omega)
 ·exact⟨_,rfl,λ_=>h2⟩
def LockWf(l:Z3):Prop:=l.length<=9223372036854775807/\∀b,b∈l->b.1.length<=9223372036854775807
theorem Zoc(z:Int):∃b,WS yD z=some b/\(b=true->0<=z/\z<=1048576):=by
 unfold WS;by_cases h:z >= 0
 ·rw[yW (yY h)];exact⟨_,rfl,λh2=>⟨h,yF h2⟩⟩
 ·rw[yX (by rw[yN];exact h)];exact⟨_,rfl,λh2=>by cases h2⟩
theorem Zdw{l:Z3}(hl:LockWf l):∃b,Xc yD l=some b/\(b=true↔Xm l/\Wx l):=by
 have key:∃b,Xc yD l=some b/\(b=true->Xm l/\Wx l):=by
  unfold Xc;obtain⟨h0,h1⟩:=hl
  obtain⟨x,hx,hp⟩:=WW (step:=XO yD) l.length (λk s=>s=(l,(l.length:Int),(k:Int),l)/\∀j b,j < k->l[j]? =some b->Zv3 b/\Zv4 b)
   (λx=>x=.inl (false,l)\/(x=.inr l/\∀b,b∈l->Zv3 b/\Zv4 b)) (i:=(l,(l.length:Int),(0:Int),l)) ⟨rfl,λj b hj=>by omega⟩ (by omega) (by
   rintro k _ hk ⟨rfl,hj⟩;obtain⟨e,he,hm⟩:=Zg hk
   have hnext:(Zv3 e/\Zv4 e)->∀j b,j < k+1->l[j]? =some b->Zv3 b/\Zv4 b:=by
    intro hE j b h2 h3;by_cases h4:j < k
    ·exact hj j b h4 h3
    ·have:j=k:=by omega
     subst this;rw[he] at h3;cases h3;exact hE
   unfold XO;dsimp only;rw[yW (ZG hk),Zl he,ya];by_cases k1:(e.1.length:Int) > 12
   ·right;rw[yW (yY k1)];exact⟨_,rfl,.inl rfl⟩
   rw[yX (by rw[yN];exact k1)];obtain⟨b,hb,hbp⟩:=ZDd (h1 e hm);rw[hb,ya]
   cases b with
   |true=>right;exact⟨_,rfl,.inl rfl⟩
   |false=>
    obtain⟨c,hc,hc2⟩:=Zoc e.2.1;obtain⟨d,hd,hd2⟩:=Zoc e.2.2.1;rw[yX (by decide),hc,ya,hd,ya]
    cases c with
    |false=>right;exact⟨_,rfl,.inl rfl⟩
    |true=>
     cases d with
     |false=>right;exact⟨_,rfl,.inl rfl⟩
     |true=>
      have hn:=λhz:e.2.2.2≠0->IsPt e.2.2.2.toNat=>hnext ⟨⟨by omega,(hc2 rfl).1,(hc2 rfl).2,(hd2 rfl).1,(hd2 rfl).2⟩,hbp rfl,hz⟩;rw[yX (by decide),yX (by decide),Zp (by omega)];by_cases hz:e.2.2.2=0
      ·rw[yX (by rw[hz];decide)];left;exact⟨_,rfl,rfl,hn λh=>absurd hz h⟩
      ·rw[yW (by simp[hz]),ZAq,ya];by_cases hpt:IsPt e.2.2.2.toNat
       ·rw[yY hpt];left;exact⟨_,rfl,rfl,hn λ_=>hpt⟩
       ·rw[yZ hpt];right;exact⟨_,rfl,.inl rfl⟩) (by
   rintro _ ⟨rfl,hj⟩;unfold XO;dsimp only;rw[yX (by rw[Zz];decide)];refine⟨_,rfl,.inr ⟨rfl,λb hb=> ?_⟩⟩;obtain⟨j,hj1,hj2⟩:=ybt hb;exact hj j b hj1 (by rw[yz hj1,hj2]))
  rw[hx,ya];rcases hp with rfl|⟨rfl,hp⟩
  ·exact⟨_,rfl,λh=>by cases h⟩
  ·dsimp only;by_cases h2:(l.length:Int) > 0
   ·rw[yW (yY h2)];refine⟨_,rfl,λh3=>⟨⟨by omega, ?_,λb hb=>(hp b hb).1⟩,λb hb=>(hp b hb).2⟩⟩;have:=yF h3;omega
   ·rw[yX (by rw[yN];exact h2)];exact⟨_,rfl,λh=>by cases h⟩
 obtain⟨b,h1,h2⟩:=key;refine⟨b,h1,h2,λh=> ?_⟩;rw[Zdv h.1 h.2] at h1;exact(Option.some.inj h1).symm
theorem Zyv{e:Branch}(hw:e.1.length<=9223372036854775807):∃b,VG yD e=some b/\(b=true↔Zv3 e/\Zv4 e):=by
 unfold VG;by_cases c1:(e.1.length:Int) > 12
 ·rw[yW (yY c1)];exact⟨_,rfl,λh=>(by cases h),λh=>by have:=h.1.1;omega⟩
 rw[yX (by rw[yN];exact c1)];by_cases c2:e.2.1 < 0
 ·rw[yW (yY c2)];exact⟨_,rfl,λh=>(by cases h),λh=>by have:=h.1.2.1;omega⟩
 rw[yX (by rw[yN];exact c2)];by_cases c3:e.2.1 > 1048576
 ·rw[yW (yY c3)];exact⟨_,rfl,λh=>(by cases h),λh=>by have:=h.1.2.2.1;omega⟩
 rw[yX (by rw[yN];exact c3)];by_cases c4:e.2.2.1 < 0
 ·rw[yW (yY c4)];exact⟨_,rfl,λh=>(by cases h),λh=>by have:=h.1.2.2.2.1;omega⟩
 rw[yX (by rw[yN];exact c4)];by_cases c5:e.2.2.1 > 1048576
 ·rw[yW (yY c5)];exact⟨_,rfl,λh=>(by cases h),λh=>by have:=h.1.2.2.2.2;omega⟩
 rw[yX (by rw[yN];exact c5)];have ok:Zv3 e:=⟨by omega,by omega,by omega,by omega,by omega⟩
 obtain⟨x,h1,h2⟩:=WW (step:=Xh yD) e.1.length (λk s=>s=((k:Int),e)/\∀j p,j < k->e.1[j]? =some p->IsPt p.toNat) (λx=>(x=.inl (false,e)/\¬Zv4 e)\/(x=.inr e/\∀p,p∈e.1->IsPt p.toNat)) (i:=((0:Int),e)) ⟨rfl,λj p hj=>by omega⟩ (by omega) (by
  rintro k _ hk ⟨rfl,hj⟩;obtain⟨d,hd,hm⟩:=Zg hk;unfold Xh;dsimp only;rw[yW (ZG hk),Zl hd,ya,ZtQ,ya];by_cases hp:IsPt d.toNat
  ·left;rw[yY hp,yX (by decide),Zp (by omega)];refine⟨_,rfl,rfl,λj p h3 h4=> ?_⟩;by_cases h5:j < k
   ·exact hj j p h5 h4
   ·have:j=k:=by omega
    subst this;rw[hd] at h4;cases h4;exact hp
  ·right;rw[yZ hp,yW (by decide)];exact⟨_,rfl,.inl ⟨rfl,λh=>hp (h.1 d hm)⟩⟩) (by
  rintro _ ⟨rfl,hj⟩;unfold Xh;dsimp only;rw[yX (by rw[Zz];decide)];refine⟨_,rfl,.inr ⟨rfl,λp hp=> ?_⟩⟩;obtain⟨j,j1,j2⟩:=ybt hp;exact hj j p j1 (by rw[yz j1,j2]))
 rw[h1,ya];rcases h2 with⟨rfl,h2⟩|⟨rfl,h2⟩
 ·exact⟨_,rfl,λh=>(by cases h),λh=>absurd h.2 h2⟩
 ·dsimp only;rw[ZtQ,ya];by_cases h0:e.2.2.2=0
  ·rw[yW (beq_iff_eq.2 h0)];exact⟨_,rfl,λ_=>⟨ok,h2,λh=>absurd h0 h⟩,λ_=>rfl⟩
  ·rw[yX (by rw[yT];exact h0)];refine⟨_,rfl,λh=>⟨ok,h2,λ_=>yF h⟩,λh=>yY (h.2.2 h0)⟩
theorem Zf4{l:Z3}(hl:LockWf l):∃b,Xo yD l=some b/\(b=true↔Xm l/\Wx l):=by
 obtain⟨w0,w1⟩:=hl;unfold Xo;by_cases c1:(l.length:Int) < 1
 ·rw[yW (yY c1)];exact⟨_,rfl,λh=>(by cases h),λh=>by have:=h.1.1;omega⟩
 rw[yX (by rw[yN];exact c1)];by_cases c2:(l.length:Int) > 4
 ·rw[yW (yY c2)];exact⟨_,rfl,λh=>(by cases h),λh=>by have:=h.1.2.1;omega⟩
 rw[yX (by rw[yN];exact c2)]
 obtain⟨x,h1,h2⟩:=WW (step:=Xs yD) l.length (λk s=>s=((k:Int),l)/\∀j b,j < k->l[j]? =some b->Zv3 b/\Zv4 b) (λx=>(x=.inl (false,l)/\¬(Xm l/\Wx l))\/(x=.inr l/\∀b,b∈l->Zv3 b/\Zv4 b)) (i:=((0:Int),l)) ⟨rfl,λj p hj=>by omega⟩ (by omega) (by
  rintro k _ hk ⟨rfl,hj⟩;obtain⟨d,hd,hm⟩:=Zg hk;obtain⟨b,b1,b2⟩:=Zyv (w1 d hm);unfold Xs;dsimp only;rw[yW (ZG hk),Zl hd,ya,b1,ya]
  cases b with
  |true=>
   left;rw[yX (by decide),Zp (by omega)];refine⟨_,rfl,rfl,λj p h3 h4=> ?_⟩;by_cases h5:j < k
   ·exact hj j p h5 h4
   ·have:j=k:=by omega
    subst this;rw[hd] at h4;cases h4
    exact b2.1 rfl
  |false=>
   right;rw[yW (by decide)];exact⟨_,rfl,.inl ⟨rfl,λh=>by have:=b2.2 ⟨h.1.2.2 d hm,h.2 d hm⟩;cases this⟩⟩) (by
  rintro _ ⟨rfl,hj⟩;unfold Xs;dsimp only;rw[yX (by rw[Zz];decide)];refine⟨_,rfl,.inr ⟨rfl,λp hp=> ?_⟩⟩;obtain⟨j,j1,j2⟩:=ybt hp;exact hj j p j1 (by rw[yz j1,j2]))
 rw[h1,ya];rcases h2 with⟨rfl,h2⟩|⟨rfl,h2⟩
 ·exact⟨_,rfl,λh=>(by cases h),λh=>absurd h h2⟩
 ·exact⟨_,rfl,λ_=>⟨⟨by omega,by omega,λb hb=>(h2 b hb).1⟩,λb hb=>(h2 b hb).2⟩,λ_=>rfl⟩
theorem ZF0{l:Z3}(h:Xm l)(hp:Wx l):Xo yD l=some true:=by
 obtain⟨b,b1,b2⟩:=Zf4 (l:=l) ⟨by have:=h.2.1;omega,λb hb=>by have:=(h.2.2 b hb).1;omega⟩;rw[b1,b2.2 ⟨h,hp⟩]
theorem ZAx{c:yL yB}(hc:c.length<=100000){i:Int}{l:Z3}{e:Branch}(hk:e.1.length<=12):
 Zc (YO yD) yD (c,i,(0:Int),l,e)=some (c++cat Zv5 e.1,i,l,e):=by
 have q:=Zs (step:=YO yD) e.1.length (λk:Nat=>(c++cat Zv5 (e.1.take k),i,(k:Int),l,e)) (x:=(c++cat Zv5 e.1,i,l,e)) (by
  intro k hk2;obtain⟨d,hd,_⟩:=Zg hk2;have hl:=ZhZ hk k;unfold YO;dsimp only;rw[yW (ZG hk2),Zl hd,ya,ZrD _ (by rw[yo];omega),ya,Zp (by omega),Qg hd,yac];rfl) (by
  unfold YO;dsimp only;rw[yX (by rw[Zz];decide),yak]) (by omega)
 rw[show cat Zv5 (e.1.take 0)=[] from rfl,yar] at q
 exact q
theorem Zyw{l:Z3}(h:Xm l)(hp:Wx l):V3 yD l=some (ZhY l):=by
 unfold V3;have h0:=h.2.1;have h9:=ZS (n:=l.length) (by omega);rw[ZF0 h hp,ya,yX (by decide),Zbg (by omega) (by omega) (by simp),ya,yx,yay]
 have q:=Zs (step:=YP yD) l.length (λk:Nat=>(Xl l.length++cat brF (l.take k),(k:Int),l)) (x:=(ZhY l,l)) (by
  intro k hk;obtain⟨e,he,hm⟩:=Zg hk;obtain⟨e1,e2,e3,e4,e5⟩:=h.2.2 e hm;have hl:=Zau (f:=brF) (c:=131) (λx hx=>Zv6 (h.2.2 x hx)) h.2.1 k;have hr:=ZS (n:=e.1.length) (by omega);have hr2:=ZS (n:=e.2.1.toNat) (by omega);have hr3:=ZS (n:=e.2.2.1.toNat) (by omega);have hk8:=ZhZ e1 e.1.length;rw[yak] at hk8;unfold YP;dsimp only
  rw[yW (ZG hk),Zl he,ya,Zbg (by omega) (by omega) (by rw[yo];omega),ya,yay,
   ZAx (by simp only[yo];omega) e1,ya]
  dsimp only
  rw[Zbg e2 (by omega) (by simp only[yo];omega),ya,Zbg e4 (by omega) (by simp only[yo];omega),ya,
   ZrD _ (by simp only[yo];omega),ya,Zp (by omega),Qg he]
  unfold brF;simp only[yac]) (by
  unfold YP;dsimp only;rw[yX (by rw[Zz];decide),yak];rfl) (by omega)
 rw[show cat brF (l.take 0)=[] from rfl,yar] at q
 have q:Zc (YP yD) yD (Xl l.length,(0:Int),l)=_:=q;rw[q,ya]
open Classical in
noncomputable def ZF1(l:Z3):yL yB:=if Xm l/\Wx l then Sha.sha (ZrC ZIq [ZhY l]) else z32
theorem Zyx(l:Z3):(ZF1 l).length=32:=by
 unfold ZF1;by_cases h:Xm l/\Wx l
 ·rw[yW h];exact Sha.ZK2 _
 ·rw[yX h];rfl
theorem ZF2{l:Z3}(h:Xm l):∀x,x∈[ZhY l]->x.length<=60000:=λx hx=>by
 have:=Ziw h;rw[yao.1 hx];omega
theorem ZHV{l:Z3}(hl:LockWf l):Zis yD l=some (ZF1 l):=by
 obtain⟨b,b1,b2⟩:=Zdw hl;unfold Zis ZF1;rw[b1,ya];by_cases h:Xm l/\Wx l
 ·rw[b2.2 h,yX (show¬(!true)=true by decide),yW h,ZrB h.1 h.2,ya,Zv7 (by decide) (by simp) (ZF2 h.1),ya]
 ·have:b=false:=by
   cases b with
   |true=>exact absurd (b2.1 rfl) h
   |false=>rfl
  rw[this,yW (show(!false)=true by decide),yX h];rfl
abbrev Zff:Type:=Out×Qy
def We:yL Int->yL Int->Bool
 |a::l,b::r=>decide (a < b) || (decide (a=b)&&We l r)
 |_,_=>false
theorem W9{a b:Int}{l r:yL Int}:We (a::l) (b::r)=true↔a < b\/a=b/\We l r=true:=by
 simp[We]
theorem Zod:∀l,We l l=false
 |[]=>rfl
 |a::l=>by
  have ih:=Zod l
  cases h:We (a::l) (a::l) with
  |false=>rfl
  |true=>
   rcases W9.1 h with h|h
   ·omega
   ·rw[ih] at h;cases h.2
theorem Zf5:∀{a b c:yL Int},We a b=true->We b c=true->We a c=true
 |[],_,_,h,_=>by cases h
 |_::_,[],_,h,_=>by cases h
 |_::_,_::_,[],_,h=>by cases h
 |x::a,y::b,z::c,h1,h2=>by
  rw[W9] at h1 h2 ⊢;rcases h1 with h1|⟨h1,h3⟩
  ·rcases h2 with h2|⟨h2,_⟩
   ·exact .inl (by omega)
   ·exact .inl (by omega)
  ·rcases h2 with h2|⟨h2,h4⟩
   ·exact .inl (by omega)
   ·exact .inr ⟨by omega,Zf5 h3 h4⟩
theorem Zyy:∀{a b:yL Int},a.length=b.length->We a b=false->We b a=false->a=b
 |[],[],_,_,_=>rfl
 |[],_::_,h,_,_=>by cases h
 |_::_,[],h,_,_=>by cases h
 |x::a,y::b,h,h1,h2=>by
  have n1:¬(We (x::a) (y::b)=true):=by rw[h1];decide
  have n2:¬(We (y::b) (x::a)=true):=by rw[h2];decide
  rw[W9] at n1 n2;have e:x=y:=by omega
  subst e
  rw[Zyy (a:=a) (b:=b) (by simpa using h) (by
   cases k:We a b with
   |false=>rfl
   |true=>exact absurd (.inr ⟨rfl,k⟩) n1) (by
   cases k:We b a with
   |false=>rfl
   |true=>exact absurd (.inr ⟨rfl,k⟩) n2)]
theorem Zyz:∀{u v r s:yL Int},u.length=v.length->(We (u++r) (v++s)=true↔We u v=true\/u=v/\We r s=true)
 |[],[],r,s,_=>by simp[We]
 |[],_::_,_,_,h=>by cases h
 |_::_,[],_,_,h=>by cases h
 |x::u,y::v,r,s,h=>by
  rw[List.cons_append,List.cons_append,W9,W9,Zyz (u:=u) (v:=v) (by simpa using h)];constructor
  ·rintro(h|⟨h,h2|⟨h2,h3⟩⟩)
   ·exact .inl (.inl h)
   ·exact .inl (.inr ⟨h,h2⟩)
   ·exact .inr ⟨by rw[h,h2],h3⟩
  ·rintro((h|⟨h,h2⟩)|⟨h,h3⟩)
   ·exact .inl h
   ·exact .inr ⟨h,.inl h2⟩
   ·cases h;exact .inr ⟨rfl,.inr ⟨rfl,h3⟩⟩
theorem ZDe{a b:yL Int}(h:We a b=true):We b a=false:=by
 cases k:We b a with
 |false=>rfl
 |true=>
  have:=Zf5 h k;rw[Zod] at this;cases this
def VT{α:Type}(key:α->yL Int)(x:α):yL α->yL α
 |[]=>[x]
 |e::r=>if We (key x) (key e)=true then x::e::r else e::VT key x r
def Srt{α:Type}(key:α->yL Int)(l:yL α):Prop:=l.Pairwise λa b=>We (key b) (key a)=false
theorem ZyA{α:Type}{key:α->yL Int}{x y:α}(h:We (key x) (key y)=true):∀P:yL α,VT key x (P++[y])=VT key x P++[y]
 |[]=>by simp[VT,h]
 |e::r=>by
  have ih:=ZyA h r;by_cases k:We (key x) (key e)=true
  ·simp[VT,k]
  ·simp[VT,k,ih]
theorem ZBZ{α:Type}{key:α->yL Int}{x:α}:∀P:yL α,(∀e,e∈P->We (key x) (key e)=false)->VT key x P=P++[x]
 |[],_=>rfl
 |e::r,h=>by
  have ih:=ZBZ r λa ha=>h a (yap _ ha);have k:=h e (yam);simp[VT,k,ih]
theorem ZrH{α:Type}{key:α->yL Int}{x y:α}:∀{l:yL α},y∈VT key x l↔y=x\/y∈l
 |[]=>by simp[VT]
 |e::r=>by
  have ih:=ZrH (key:=key) (x:=x) (y:=y) (l:=r);by_cases k:We (key x) (key e)=true
  ·simp[VT,k]
  ·rw[show VT key x (e::r)=e::VT key x r by simp[VT,k],yax,yax,ih];constructor
   ·rintro(h|h|h)
    ·exact .inr (.inl h)
    ·exact .inl h
    ·exact .inr (.inr h)
   ·rintro(h|h|h)
    ·exact .inr (.inl h)
    ·exact .inl h
    ·exact .inr (.inr h)
theorem ZyB{α:Type}{key:α->yL Int}{x:α}:∀l:yL α,(VT key x l).length=l.length+1
 |[]=>rfl
 |e::r=>by
  have ih:=ZyB (key:=key) (x:=x) r;by_cases k:We (key x) (key e)=true
  ·simp[VT,k]
  ·simp[VT,k,ih]
theorem ZyC{α:Type}{key:α->yL Int}{x:α}:∀{l:yL α},Srt key l->Srt key (VT key x l)
 |[],_=>List.pairwise_singleton _ _
 |e::r,h=>by
  have h':=List.pairwise_cons.1 h;by_cases k:We (key x) (key e)=true
  ·rw[show VT key x (e::r)=x::e::r by simp[VT,k]];refine List.pairwise_cons.2 ⟨λb hb=> ?_,h⟩;rcases yax.1 hb with rfl|hb
   ·exact ZDe k
   ·cases q:We (key b) (key x) with
    |false=>rfl
    |true=>
     have:=Zf5 q k;rw[h'.1 b hb] at this;cases this
  ·rw[show VT key x (e::r)=e::VT key x r by simp[VT,k]];refine List.pairwise_cons.2 ⟨λb hb=> ?_,ZyC h'.2⟩;rcases ZrH.1 hb with rfl|hb
   ·simpa using k
   ·exact h'.1 b hb
def Zaw{α:Type}(key:α->yL Int)(l:yL α):yL α:=l.foldl (λacc x=>VT key x acc) []
theorem ZDf{α:Type}{key:α->yL Int}(l:yL α)(x:α):Zaw key (l++[x])=VT key x (Zaw key l):=by
 unfold Zaw;rw[List.foldl_append];rfl
theorem ZF3{α:Type}{key:α->yL Int}(l:yL α):Srt key (Zaw key l):=by
 unfold Zaw
 have h:∀(l acc:yL α),Srt key acc->Srt key (l.foldl (λacc x=>VT key x acc) acc):=by
  intro l
  induction l with
  |nil=>exact λ_ h=>h
  |cons e r ih=>exact λacc h=>ih _ (ZyC h)
 exact h l [] List.Pairwise.nil
theorem ZrI{α:Type}{key:α->yL Int}(l:yL α):(Zaw key l).length=l.length:=by
 unfold Zaw
 have h:∀(l acc:yL α),(l.foldl (λacc x=>VT key x acc) acc).length=acc.length+l.length:=by
  intro l
  induction l with
  |nil=>exact λ_=>rfl
  |cons e r ih=>
   intro acc;rw[List.foldl_cons,ih,ZyB,yah];omega
 rw[h l []];simp
theorem ZF4{α:Type}{key:α->yL Int}{y:α}(l:yL α):y∈Zaw key l↔y∈l:=by
 unfold Zaw
 have h:∀(l acc:yL α),(y∈l.foldl (λacc x=>VT key x acc) acc↔y∈acc\/y∈l):=by
  intro l
  induction l with
  |nil=>exact λ_=>by simp
  |cons e r ih=>
   intro acc;rw[List.foldl_cons,ih,ZrH,yax];constructor
   ·rintro((h|h)|h)
    ·exact .inr (.inl h)
    ·exact .inl h
    ·exact .inr (.inr h)
   ·rintro(h|h|h)
    ·exact .inl (.inr h)
    ·exact .inl (.inl h)
    ·exact .inr h
 rw[h l []];simp
theorem ZF5{α:Type}{key:α->yL Int}{n:Nat}{x y:α}{P:yL α}(hk:∀e,e∈x::(P++[y])->(key e).length=n)(hs:Srt key (P++[y]))(h:We (key x) (key y)=false):VT key x (P++[y])=P++[y]++[x]:=by
 refine ZBZ _ λe he=> ?_
 cases q:We (key x) (key e) with
 |false=>rfl
 |true=>
  rcases ybo.1 he with h1|h1
  ·have h2:We (key y) (key e)=false:=(List.pairwise_append.1 hs).2.2 e h1 y (by simp)
   cases q2:We (key y) (key x) with
   |true=>
    rw[Zf5 q2 q] at h2
    cases h2
   |false=>
    have:=Zyy (by rw[hk x (by simp),hk y (by simp)]) h q2;rw[<-this,q] at h2;cases h2
  ·rw[yao.1 h1,h] at q;cases q
def bm(x:yL yB):yL Int:=x.map λb=>(b.toNat:Int)
theorem ZF6(x:yL yB):(bm x).length=x.length:=yy _
def QD(x:Ze):yL Int:=x.1.1::(bm x.2.2++[x.2.1.1,x.2.1.2.1,x.2.1.2.2.1])
theorem ZF7{x:Ze}(h:x.2.2.length=32):(QD x).length=36:=by
 simp[QD,bm,h]
theorem ZJ7{a a' d d' f f' i i':Int}{u v:yL Int}(h:u.length=v.length):We (a::(u++[d,f,i])) (a'::(v++[d',f',i']))=true↔a < a'\/a=a'/\(We u v=true\/u=v/\(d < d'\/d=d'/\(f < f'\/f=f'/\i < i'))):=by
 rw[W9,Zyz h,W9,W9,W9];have:¬(We [] []=true):=by decide
 simp[this]
theorem Zt0:∀{x y:yL yB},x.length=y.length->(Go.Lib.compareBytes x y < 0↔We (bm x) (bm y)=true)/\(Go.Lib.compareBytes x y=0↔bm x=bm y)
 |[],[],_=>by simp[Go.Lib.compareBytes,bm,We]
 |[],_::_,h=>by cases h
 |_::_,[],h=>by cases h
 |a::x,b::y,h=>by
  have ih:=Zt0 (x:=x) (y:=y) (by simpa using h);have e1:bm (a::x)=(a.toNat:Int)::bm x:=rfl;have e2:bm (b::y)=(b.toNat:Int)::bm y:=rfl;rw[e1,e2,W9,List.cons.injEq];unfold Go.Lib.compareBytes;by_cases h1:a < b
  ·have h1':=UInt8.lt_iff_toNat_lt.1 h1;rw[yW h1];exact⟨⟨λ_=>.inl (by omega),λ_=>by decide⟩,⟨λh=>absurd h (by decide),λh=>by omega⟩⟩
  ·have h1':¬a.toNat < b.toNat:=λq=>h1 (UInt8.lt_iff_toNat_lt.2 q);rw[yX h1];by_cases h2:b < a
   ·have h2':=UInt8.lt_iff_toNat_lt.1 h2;rw[yW h2];exact⟨⟨λh=>absurd h (by decide),λh=>by omega⟩,⟨λh=>absurd h (by decide),λh=>by omega⟩⟩
   ·have h2':¬b.toNat < a.toNat:=λq=>h2 (UInt8.lt_iff_toNat_lt.2 q);rw[yX h2];have e:a.toNat=b.toNat:=by omega
    refine⟨⟨λh=>.inr ⟨by omega,ih.1.1 h⟩,λh=> ?_⟩,⟨λh=>⟨by omega,ih.2.1 h⟩,λh=>ih.2.2 h.2⟩⟩;rcases h with h|h
    ·omega
    ·exact ih.1.2 h.2
theorem Zl6{c:Int}{r:yL Int}:orL (c::r) < 0↔c < 0\/c=0/\orL r < 0:=by
 rw[show orL (c::r)=if c≠0 then c else orL r from rfl]
 by_cases h:c=0
 ·rw[yX (by simp[h])];constructor
  ·exact λq=>.inr ⟨h,q⟩
  ·rintro(q|q)
   ·omega
   ·exact q.2
 ·rw[yW h];constructor
  ·exact λq=>.inl q
  ·rintro(q|q)
   ·exact q
   ·exact absurd q.1 h
theorem Zl7{a b:Int}:(if a < b then(-1:Int) else if a > b then 1 else 0) < 0↔a < b:=by
 by_cases h:a < b
 ·rw[yW h];exact⟨λ_=>h,λ_=>by decide⟩
 ·rw[yX h];by_cases h2:a > b
  ·rw[yW h2];exact⟨λq=>absurd q (by decide),λq=>absurd q h⟩
  ·rw[yX h2];exact⟨λq=>absurd q (by decide),λq=>absurd q h⟩
theorem Zix{a b:Int}:(if a < b then(-1:Int) else if a > b then 1 else 0)=0↔a=b:=by
 by_cases h:a < b
 ·rw[yW h];exact⟨λq=>absurd q (by decide),λq=>by omega⟩
 ·rw[yX h];by_cases h2:a > b
  ·rw[yW h2];exact⟨λq=>absurd q (by decide),λq=>by omega⟩
  ·rw[yX h2];exact⟨λ_=>by omega,λ_=>rfl⟩
theorem ZHW{a b:Ze}(ha:a.2.2.length=32)(hb:b.2.2.length=32):∃z,Zai yD a b=some z/\(z < 0↔We (QD a) (QD b)=true):=by
 unfold Zai Zda;rw[ZaZ,ya,ya,ZaZ,ya,ZaZ,ya,ZaZ,ya,ZIw (by simp),ya];refine⟨_,rfl, ?_⟩;obtain⟨c1,c2⟩:=Zt0 (x:=a.2.2) (y:=b.2.2) (by omega);unfold QD;rw[ZJ7 (by rw[ZF6,ZF6];omega),Zl6,Zl6,Zl6,Zl6,Zl6,Zl7,Zl7,Zl7,Zl7,Zix,Zix,Zix,Zix,c1,c2];have:¬(orL [] < 0):=by decide
 simp only[this,and_false,or_false]
theorem ZF8(n:Int)(i:Nat):∀(P:yL Ze)(f:Nat)(u:yL Unit)(x:Ze)(Q:yL Ze),P.length < f->P.length+Q.length+1<=100->(∀e,e∈P++x::Q->e.2.2.length=32)->Srt QD P->
 Zc (YT yD) f ((0:Int),n,(i:Int),(P.length:Int),u,P++x::Q)=some ((0:Int),n,(i:Int),u,VT QD x P++Q):=by
 intro P
 induction h:P.length generalizing P with
 |zero=>
  intro f u x Q hf hl hk hs;have:P=[]:=ybe h;subst this;obtain⟨f,rfl⟩:=Nat.exists_eq_succ_of_ne_zero (n:=f) (by omega);unfold Zc YT;dsimp only;rw[yX (ynd (by omega)),ya]
  rfl
 |succ j ih=>
  intro f u x Q hf hl hk hs;obtain⟨f,rfl⟩:=Nat.exists_eq_succ_of_ne_zero (n:=f) (by omega)
  obtain⟨P',y,rfl⟩:∃P' y,P=P'++[y]:=by
   have hne:P≠[]:=λe=>by rw[e] at h;cases h
   exact⟨P.dropLast,P.getLast hne,(List.dropLast_concat_getLast hne).symm⟩
  have hj:P'.length=j:=by simpa using h
  have el:P'++[y]++x::Q=P'++y::x::Q:=by simp
  have hx:(P'++y::x::Q)[j+1]? =some x:=by
   rw[yan (by omega),show j+1 - P'.length=1 by omega];rfl
  have hy:(P'++y::x::Q)[j]? =some y:=by
   rw[yan (by omega),show j - P'.length=0 by omega];rfl
  have zW:(P'++y::x::Q).length=j+2+Q.length:=by simp;omega
  have hset:(P'++y::x::Q).set (j+1) y=P'++y::y::Q:=by
   rw[List.set_append_right _ _ (by omega),show j+1 - P'.length=1 by omega];rfl
  have hset2:(P'++y::y::Q).set j x=P'++x::y::Q:=by
   rw[List.set_append_right _ _ (by omega),show j - P'.length=0 by omega];rfl
  have hw:(P'++y::y::Q)[j]? =some y:=by
   rw[yan (by omega),show j - P'.length=0 by omega];rfl
  have hlen2:(P'++y::y::Q).length=j+2+Q.length:=by simp;omega
  have e1:wi (((j+1:Nat):Int) - 1)=(j:Int):=by rw[ZP (by omega) (by omega)];omega
  obtain⟨z,z1,z2⟩:=ZHW (hk x (by simp)) (hk y (by simp));rw[el]
  have hstep:YT yD ((0:Int),n,(i:Int),((j+1:Nat):Int),u,P'++y::x::Q)=if z < 0 then some (.inl ((0:Int),n,(i:Int),(j:Int),u,P'++x::y::Q)) else some (.inr ((0:Int),n,(i:Int),u,P'++y::x::Q)):=by
   unfold YT;dsimp only;rw[yW (yY (by omega)),e1,yW (ZZ (by omega) (by omega)),yay,yay,hx,ya,yW (ZZ (by omega) (by omega)),hy,ya,z1,ya];by_cases h0:z < 0
   ·rw[yW (yY h0),yW (ZZ (by omega) (by omega)),ya,yW (ZZ (by omega) (by omega)),ya,yW (ZZ (by omega) (by omega)),ya,hset,yW (ZZ (by omega) (by omega)),hw,ya,yW h0,hset2]
   ·rw[yX (by rw[yN];exact h0),yX h0]
  unfold Zc;rw[hstep];have hs':=List.pairwise_append.1 hs;by_cases h0:z < 0
  ·rw[yW h0,ya];dsimp only
   rw[ih P' hj f u x (y::Q) (by omega) (by simp;omega) (λe he=>hk e (by
    simp only[ybo,yax,ycj,or_false] at he ⊢;rcases he with he|he|he|he
    ·exact .inl (.inl he)
    ·exact .inr (.inl he)
    ·exact .inl (.inr he)
    ·exact .inr (.inr he))) hs'.1,ZyA (z2.1 h0)]
   simp
  ·rw[yX h0,ya];dsimp only
   have q:We (QD x) (QD y)=false:=by
    cases q:We (QD x) (QD y) with
    |false=>rfl
    |true=>exact absurd (z2.2 q) h0
   rw[ZF5 (n:=36) (λe he=>ZF7 (hk e (by
    simp only[ybo,yax,ycj,or_false] at he ⊢;rcases he with he|he|he
    ·exact .inr (.inl he)
    ·exact .inl (.inl he)
    ·exact .inl (.inr he)))) hs q]
   simp
theorem ZDg{α:Type}{l:yL α}{k:Nat}{e:α}(h:l[k]? =some e):l.drop k=e::l.drop (k+1):=by
 obtain⟨h1,h2⟩:=yq.1 h;rw[List.drop_eq_getElem_cons h1,h2]
theorem ZDh(u:yL Unit){l:yL Ze}(hl:l.length<=20)(hk:∀e,e∈l->e.2.2.length=32):Y3 yD (0:Int) (l.length:Int) u l=some (u,Zaw QD l):=by
 unfold Y3;rw[show wi ((0:Int)+1)=1 from rfl]
 by_cases h0:l=[]
 ·subst h0
  have e:Zc (ZO yD) yD ((0:Int),(([]:yL Ze).length:Int),(1:Int),u,([]:yL Ze))=some (u,[]):=by
   refine Zs 0 (λk:Nat=>((0:Int),(([]:yL Ze).length:Int),(1:Int),u,([]:yL Ze))) (λk hk=>by omega) ?_ (by omega);unfold ZO;dsimp only;rw[yX (by rw[yN];simp)]
  rw[e,ya];rfl
 have hpos:0 < l.length:=List.length_pos_iff.2 h0
 have e:=Zs (step:=ZO yD) (l.length - 1) (λk:Nat=>((0:Int),(l.length:Int),((k+1:Nat):Int),u,Zaw QD (l.take (k+1))++l.drop (k+1))) (x:=(u,Zaw QD l)) (by
  intro k hk2;obtain⟨x,hx,hm⟩:=Zg (l:=l) (k:=k+1) (by omega);have hL:(Zaw QD (l.take (k+1))).length=k+1:=by rw[ZrI,yae];omega
  have hs:=ZF8 (l.length:Int) (k+1) (Zaw QD (l.take (k+1))) yD u x (l.drop (k+1+1)) (by rw[Zfy];omega) (by rw[hL,List.length_drop];omega) (by
   intro e he;rcases ybo.1 he with h|h
   ·exact hk e (ybv ((ZF4 _).1 h))
   ·rcases yax.1 h with rfl|h
    ·exact hk _ hm
    ·exact hk e (ycv h)) (ZF3 _)
  rw[hL] at hs;unfold ZO;dsimp only;rw[yW (yY (by omega)),ZDg hx,hs,ya];dsimp only;rw[Zp (by omega),Vl hx,ZDf]) (by
  unfold ZO;dsimp only;rw[yX (ynd (by omega)),show l.length - 1+1=l.length by omega,yak,List.drop_length,yar]) (by omega)
 have e2:Zaw QD (l.take 1)++l.drop 1=l:=by
  match l,h0 with
  |a::r,_=>rfl
 have e:Zc (ZO yD) yD ((0:Int),(l.length:Int),(1:Int),u,Zaw QD (l.take 1)++l.drop 1)=_:=e;rw[e2] at e;rw[e,ya]
theorem ZAy(u:yL Unit)(l:yL Ze){a b:Int}(h:b<=a)(h0:0<=a)(h1:a<=100):Y3 yD a b u l=some (u,l):=by
 unfold Y3;rw[ZP (z:=a+1) (by omega) (by omega)]
 have e:Zc (ZO yD) yD (a,b,a+1,u,l)=some (u,l):=by
  refine Zs 0 (λk:Nat=>(a,b,a+1,u,l)) (λk hk=>by omega) ?_ (by omega);unfold ZO;dsimp only;rw[yX (ynd (by omega))]
 rw[e,ya]
theorem ZF9(u:yL Unit){l:yL Ze}(hl:l.length<=20)(hk:∀e,e∈l->e.2.2.length=32):X7 yD u l=some (u,Zaw QD l):=by
 have r1:=ZDh u hl hk;have hrl:=ZrI (key:=QD) l
 have fin:Zc (WT yD) yD ((l.length:Int),(20:Int),u,Zaw QD l)=some (u,Zaw QD l):=by
  refine Zs 0 (λk:Nat=>((l.length:Int),(20:Int),u,Zaw QD l)) (λk hk=>by omega) ?_ (by omega);unfold WT;dsimp only;rw[yX (ynd (by omega))]
 unfold X7 ZbL;by_cases h20:l.length=20
 ·have e:Zc (Yx yD) yD ((l.length:Int),(20:Int),(0:Int),(20:Int),u,l)=some ((l.length:Int),(20:Int),(20:Int),u,Zaw QD l):=by
   refine Zs 1 (λk:Nat=>if k=0 then((l.length:Int),(20:Int),(0:Int),(20:Int),u,l) else((l.length:Int),(20:Int),(20:Int),(40:Int),u,Zaw QD l)) ?_ ?_ (by omega)
   ·intro k hk;have:k=0:=by omega
    subst this;rw[yW rfl,yX (by omega)];unfold Yx;dsimp only;rw[h20] at r1;rw[yW (yY (by omega))];rw[show((20:Nat):Int)=20 from rfl] at r1
    rw[r1,ya];dsimp only;rw[yW (by simp[hrl])];rfl
   ·rw[yX (by omega)];unfold Yx;dsimp only;rw[yX (ynd (by omega))]
  rw[e,ya];dsimp only;rw[ZAy u _ (by omega) (by omega) (by omega),ya];dsimp only;rw[fin,ya,ya]
 ·have e:Zc (Yx yD) yD ((l.length:Int),(20:Int),(0:Int),(20:Int),u,l)=some ((l.length:Int),(20:Int),(0:Int),u,l):=by
   refine Zs 0 (λk:Nat=>((l.length:Int),(20:Int),(0:Int),(20:Int),u,l)) (λk hk=>by omega) ?_ (by omega);unfold Yx;dsimp only;rw[yX (ynd (by omega))]
  rw[e,ya];dsimp only;rw[r1,ya];dsimp only;rw[fin,ya,ya]
def Zay(t:Terms)(l:yL Cond):yL Cond:=l.filter λc=>decide (c.2.2.1 >= t.1)
theorem ZrJ(t:Terms)(l:yL Cond):(Zay t l).length<=l.length:=List.length_filter_le _ _
theorem ZGa{t:Terms}{l:yL Cond}{c:Cond}(h:c∈Zay t l):c∈l:=(List.mem_filter.1 h).1
theorem ZHX{t:Terms}{l:yL Cond}{k:Nat}{c:Cond}(h:l[k]? =some c):Zay t (l.take (k+1))=Zay t (l.take k)++(if c.2.2.1 >= t.1 then[c] else[]):=by
 rw[Vl h];unfold Zay;rw[List.filter_append];congr 1;by_cases q:c.2.2.1 >= t.1
 ·rw[yW q];simp[q]
 ·rw[yX q];simp;omega
theorem ZyD{ch:Chan}{own:Int}(ho:own=0\/own=1){t:Terms}(ht:ch.2.2.2.1[own.toNat]? =some t){s:yG}(hl:s.2.2.1.length<=20):XB yD ch s own=some (Zay t s.2.2.1):=by
 have hb:inB own 2=true:=ZZ (by omega) (by omega);have hk2:∀k,(Zay t (s.2.2.1.take k)).length<=20:=λk=>by have:=ZrJ t (s.2.2.1.take k);rw[yae] at this;omega
 ·unfold XB
  have e:=Zs (step:=XF yD) s.2.2.1.length (λk:Nat=>(own,s.2.2.1,(s.2.2.1.length:Int),(k:Int),ch,s,Zay t (s.2.2.1.take k))) (x:=(ch,s,Zay t s.2.2.1)) (by
   intro k hk;obtain⟨c,hc,_⟩:=Zg hk;have:=hk2 k;unfold XF WR;dsimp only;rw[yW (ZG hk),Zl hc,ya,yW hb,ht,ya,ya,Zp (by omega),ZHX hc];by_cases q:c.2.2.1 >= t.1
   ·rw[yW (yY q),yW (ZX (by omega) (by omega)),yW q]
   ·rw[yX (by rw[yN];exact q),yX q,yar]) (by
   unfold XF;dsimp only;rw[yX (by rw[Zz];decide),yak]) (by omega)
  have e:Zc (XF yD) yD (own,s.2.2.1,(s.2.2.1.length:Int),(0:Int),ch,s,([]:yL Cond))=_:=e;rw[e,ya]
def Zkp(op:Int)(s:yG)(of h:Int)(n:Nat):Int:=if of=op then h - (feeF s.2.2.2 (n:Int)+660) else h
theorem Zwd{r n:Int}:0<=feeF r n/\feeF r n<=196000:=by
 unfold feeF;by_cases h1:0<=r/\r<=1000
 ·rw[yW h1];by_cases h2:0<=n/\n<=16
  ·rw[yW h2];have:=Int.mul_nonneg h1.1 (show 0<=68+8*n by omega);have:=Int.mul_le_mul h1.2 (show 68+8*n<=196 by omega) (by omega) (by omega);omega
  ·rw[yX h2];omega
 ·rw[yX h1];omega
theorem ZB0{ch:Chan}{own of:Int}(ho:own=0\/own=1)(hf:of=0\/of=1){t:Terms}(ht:ch.2.2.2.1[own.toNat]? =some t){s:yG}(hl:s.2.2.1.length<=20){h:Int}(hh:s.2.1[of.toNat]? =some h)(h0:0<=h)(h1:h<=1125899906842624):
 VQ yD ch s own of=some (Zkp ch.2.2.2.2 s of h (Zay t s.2.2.1).length):=by
 have hb:inB of 2=true:=ZZ (by omega) (by omega);have hq:=Zwd (r:=s.2.2.2) (n:=((Zay t s.2.2.1).length:Int));unfold VQ Zkp;rw[yW hb,hh,ya];by_cases e:of=ch.2.2.2.2
 ·rw[yW (beq_iff_eq.2 e),ZyD ho ht hl,ya,ZFX,ya,yW e,ZP (z:=feeF s.2.2.2 ((Zay t s.2.2.1).length:Int)+660) (by omega) (by omega),ZP (by omega) (by omega)]
 ·rw[yX (by rw[yT];exact e),yX e]
noncomputable def mkC(n:Int)(lk:Z3)(ro:Qy):Ze:=((n,lk),ro,ZF1 lk)
def stp(x:Ze):Zff:=(x.1,x.2.1)
theorem VU{n:Int}{lk:Z3}(h:LockWf lk)(ro:Qy)(u:yL Unit){acc:yL Ze}(hl:acc.length<=100):ZJ yD n lk ro u acc=some (()::u,acc++[mkC n lk ro]):=by
 unfold ZJ;rw[ZHV h,ya,yW (ZX (by omega) (by omega))];rfl
def zcd:Cond:=(0,0,0,0,0)
def Zl8(rev late:yU)(d:Int):Z3:=[([rev],0,0,0),([late],0,d,0)]
def Zni(p:yU):Z3:=[([p],0,0,0)]
def Zl9(p:yU):Z3:=[([p],0,0,0),([],0,16,0)]
def Zh0(own w:Int)(rev ow pe:yU)(c:Cond):Z3:=if c.1=own then[([rev],0,0,0),([pe],0,0,c.2.2.2.1),([ow],c.2.2.2.2,w,0)] else[([rev],0,0,0),([ow],0,w,c.2.2.2.1),([pe],c.2.2.2.2,0,0)]
theorem ZHY(a b:yU)(d:Int):LockWf (Zl8 a b d):=⟨by simp[Zl8],λb hb=>by simp[Zl8] at hb;rcases hb with rfl|rfl <;> simp⟩
theorem ZB1(a:yU):LockWf (Zni a):=⟨by simp[Zni],λb hb=>by simp[Zni] at hb;rw[hb];simp⟩
theorem Zeh(a:yU):LockWf (Zl9 a):=⟨by simp[Zl9],λb hb=>by simp[Zl9] at hb;rcases hb with rfl|rfl <;> simp⟩
theorem ZHZ(own w:Int)(rev ow pe:yU)(c:Cond):LockWf (Zh0 own w rev ow pe c):=by
 unfold Zh0;split
 ·exact⟨by simp,λb hb=>by simp at hb;rcases hb with rfl|rfl|rfl <;> simp⟩
 ·exact⟨by simp,λb hb=>by simp at hb;rcases hb with rfl|rfl|rfl <;> simp⟩
noncomputable def ZrK(own w:Int)(rev ow pe:yU)(c:Cond):Ze:=mkC c.2.2.1 (Zh0 own w rev ow pe c) ((if c.1=own then 5 else 6),c)
def ZyE(ch:Chan)(s:yG)(own:Int)(l:yL Zff):Commit:=(([(ch.1,(0,[],0))],l.map (·.1),wi (wi (2*s.1)+own)),l.map (·.2))
theorem ZGb{own w:Int}{rev ow pe:yU}{l:yL Cond}(hl:l.length<=16)(ch:Chan)(s:yG){acc:yL Ze}(hb:acc.length<=4)(ha:∀e,e∈acc->e.2.2.length=32)(u:yL Unit):
 ((Zc (Yu yD) yD (own,w,rev,ow,pe,l,(l.length:Int),(0:Int),ch,s,((([]:yL In),([]:yL Out),(0:Int)),([]:yL Qy)),u,acc)).bind λo723=>
      (X7 yD o723.2.2.2.2.1 o723.2.2.2.2.2).bind λo724=>
      if(decide (o723.2.2.2.2.1.length=o724.1.length)&&(decide (40=40)&&decide ((List.replicate o723.2.2.2.2.2.length ()).length=o724.2.length)))=true then
       (Zc (YV yD) yD ((o724.2.length:Int),(0:Int),o723.2.1,o723.2.2.1,o723.2.2.2.1,o724.1,o724.2,([(o723.2.1.1,(0,[],0))]:yL In),wi ((wi (2*o723.2.2.1.1))+o723.1),([]:yL Qy),([]:yL Out))).bind λo725=>
       some (((o725.2.2.2.2.2.1,o725.2.2.2.2.2.2.2.2,o725.2.2.2.2.2.2.1),o725.2.2.2.2.2.2.2.1),(0:Int))
      else
      none)=some (ZyE ch s own ((Zaw QD (acc++l.map (ZrK own w rev ow pe))).map stp),0):=by
 obtain⟨x,g1,u1,rfl⟩:=WW (step:=Yu yD) l.length (λk q=>∃u1,q=(own,w,rev,ow,pe,l,(l.length:Int),(k:Int),ch,s,((([]:yL In),([]:yL Out),(0:Int)),([]:yL Qy)),u1,acc++(l.take k).map (ZrK own w rev ow pe)))
  (λx=>∃u1,x=(own,ch,s,((([]:yL In),([]:yL Out),(0:Int)),([]:yL Qy)),u1,acc++l.map (ZrK own w rev ow pe))) (i:=(own,w,rev,ow,pe,l,(l.length:Int),(0:Int),ch,s,((([]:yL In),([]:yL Out),(0:Int)),([]:yL Qy)),u,acc)) ⟨u,by simp⟩ (by omega) (by
  rintro k _ hk ⟨u1,rfl⟩;left;obtain⟨e,he,hm⟩:=Zg hk
  have hal:(acc++(l.take k).map (ZrK own w rev ow pe)).length<=100:=by
   rw[yo,yy,yae];omega
  have hlk:=ZHZ own w rev ow pe e;unfold Yu;dsimp only;rw[yW (ZG hk),Zl he,ya,Zp (by omega),Vl he,yai];by_cases hf:e.1=own
  ·have e1:Zh0 own w rev ow pe e=[([rev],0,0,0),([pe],0,0,e.2.2.2.1),([ow],e.2.2.2.2,w,0)]:=by unfold Zh0;rw[yW hf]
   have e2:ZrK own w rev ow pe e=mkC e.2.2.1 (Zh0 own w rev ow pe e) (5,e):=by unfold ZrK;rw[yW hf]
   rw[e1] at hlk e2;rw[yW (by rw[hf];exact beq_self_eq_true _),VU hlk ((5:Int),e) u1 hal,ya,yad,List.map_nil,e2,yac];exact⟨_,rfl,_,rfl⟩
  ·have e1:Zh0 own w rev ow pe e=[([rev],0,0,0),([ow],0,w,e.2.2.2.1),([pe],e.2.2.2.2,0,0)]:=by unfold Zh0;rw[yX hf]
   have e2:ZrK own w rev ow pe e=mkC e.2.2.1 (Zh0 own w rev ow pe e) (6,e):=by unfold ZrK;rw[yX hf]
   rw[e1] at hlk e2;rw[yX (by rw[yT];exact hf),VU hlk ((6:Int),e) u1 hal,ya,yad,List.map_nil,e2,yac];exact⟨_,rfl,_,rfl⟩) (by
  rintro _ ⟨u1,rfl⟩;unfold Yu;dsimp only;rw[yX (by rw[Zz];decide),yak];exact⟨_,rfl,_,rfl⟩)
 rw[g1,ya];unfold ZyE;dsimp only;generalize ha1:acc++l.map (ZrK own w rev ow pe)=a1
 have hal:a1.length<=20:=by
  rw[<-ha1,yo,yy];omega
 have hkk:∀e,e∈a1->e.2.2.length=32:=by
  intro e he;rw[<-ha1] at he;rcases ybo.1 he with h|h
  ·exact ha e h
  ·obtain⟨c,_,rfl⟩:=ybl.1 h;exact Zyx _
 have hrl:=ZrI (key:=QD) a1;rw[ZF9 u1 hal hkk,ya];dsimp only;rw[yW (by simp[hrl])];generalize Zaw QD a1=r at hrl;generalize wi (wi (2*s.1)+own)=nt;generalize hz:((([]:yL In),([]:yL Out),(0:Int)),([]:yL Qy))=z
 rw[show((r.length:Int),(0:Int),ch,s,z,u1,r,([(ch.1,(0,[],0))]:yL In),nt,([]:yL Qy),([]:yL Out))=(λk:Nat=>((r.length:Int),(k:Int),ch,s,z,u1,r,([(ch.1,(0,[],0))]:yL In),nt,(r.take k).map (λx:Ze=>x.2.1),(r.take k).map (λx:Ze=>x.1))) 0 from rfl,
  Zs (x:=(ch,s,z,u1,r,([(ch.1,(0,[],0))]:yL In),nt,r.map (λx:Ze=>x.2.1),r.map (λx:Ze=>x.1))) r.length (λk:Nat=>((r.length:Int),(k:Int),ch,s,z,u1,r,([(ch.1,(0,[],0))]:yL In),nt,(r.take k).map (λx:Ze=>x.2.1),(r.take k).map (λx:Ze=>x.1))) ?_ ?_ (by omega),ya]
 ·rw[yas,yas];rfl
 ·intro k hk;obtain⟨e,he,hm⟩:=Zg hk;unfold YV;dsimp only;rw[yW (ZG hk),yW (ZZ (by omega) (by omega)),yay,he,ya,Zp (by omega),Vl he,yW (ZX (by simp;omega) (by simp;omega)),yW (ZX (by simp;omega) (by simp;omega)),yai,yai];rfl
 ·unfold YV;dsimp only;rw[yX (by rw[Zz];decide),yak]
theorem ZH0(p:yU):W5 yD p=some (Zni p):=by
 unfold W5 Zim Xj;rw[yW (ZX (by simp) (by simp)),ya,ya];rfl
noncomputable def itm(own:Int)(per:yU)(bo bp:Basics)(to tp:Terms)(a b:Int)(l:yL Cond):yL Ze:=
 ((if a >= to.1 then[mkC a (Zl8 (revF bp.2.2.2.2 per) (mixF bo.2.2.1 per) tp.2.2.1) (1,zcd)] else[])++(if b >= to.1 then[mkC b (Zni bp.2.1) (2,zcd)] else[])++[mkC 330 (Zl9 bo.1) (3,zcd),mkC 330 (Zl9 bp.1) (4,zcd)])++l.map (ZrK own tp.2.2.1 (revF bp.2.2.2.2 per) (mixF bo.2.2.2.1 per) (mixF bp.2.2.2.1 per))
structure Sd(ch:Chan)(s:yG)(own:Int)(bo bp:Basics)(to tp:Terms)(hO hP:Int):Prop where
 o:own=0\/own=1
 bO:ch.2.2.1[own.toNat]? =some bo
 bP:ch.2.2.1[(1 - own).toNat]? =some bp
 tO:ch.2.2.2.1[own.toNat]? =some to
 tP:ch.2.2.2.1[(1 - own).toNat]? =some tp
 vO:s.2.1[own.toNat]? =some hO
 vP:s.2.1[(1 - own).toNat]? =some hP
 o0:0<=hO
 o1:hO<=1125899906842624
 p0:0<=hP
 p1:hP<=1125899906842624
theorem Sd.all{ch:Chan}{s:yG}(w:ChWf ch)(r:StR ch s){own:Int}(ho:own=0\/own=1):∃bo bp to tp hO hP,Sd ch s own bo bp to tp hO hP:=by
 obtain⟨b0,b1,hb⟩:=Zl5 w.b;obtain⟨t0,t1,ht⟩:=Zl5 w.t;obtain⟨a,b,hs,h1,h2,_⟩:=r.have_;rcases ho with rfl|rfl
 ·exact⟨b0,b1,t0,t1,a,b,.inl rfl,by rw[hb];rfl,by rw[hb];rfl,by rw[ht];rfl,by rw[ht];rfl,by rw[hs];rfl,by rw[hs];rfl,h1.1,h1.2,h2.1,h2.2⟩
 ·exact⟨b1,b0,t1,t0,b,a,.inr rfl,by rw[hb];rfl,by rw[hb];rfl,by rw[ht];rfl,by rw[ht];rfl,by rw[hs];rfl,by rw[hs];rfl,h2.1,h2.2,h1.1,h1.2⟩
noncomputable def ZrL(ch:Chan)(s:yG)(own:Int)(per:yU)(bo bp:Basics)(to tp:Terms)(hO hP:Int):yL Ze:=
 itm own per bo bp to tp (Zkp ch.2.2.2.2 s own hO (Zay to s.2.2.1).length) (Zkp ch.2.2.2.2 s (1 - own) hP (Zay to s.2.2.1).length) (Zay to s.2.2.1)
theorem ZGc{ch:Chan}{s:yG}{own:Int}{per:yU}(hr:Zag yD ch s=some true)(r:StR ch s)(hp:IsPt per.toNat){bo bp:Basics}{to tp:Terms}{hO hP:Int}(d:Sd ch s own bo bp to tp hO hP):
 Y9 yD ch s own per=some (ZyE ch s own ((Zaw QD (ZrL ch s own per bo bp to tp hO hP)).map stp),0):=by
 have hown:=d.o
 have hside:VL yD own=some true:=by
  unfold VL;rcases hown with rfl|rfl <;> rfl
 have hpeer:wi (1 - own)=1 - own:=ZP (by omega) (by omega);have q1:inB (1 - own) 2=true:=ZZ (by omega) (by omega);have q2:inB own 2=true:=ZZ (by omega) (by omega);have hl20:s.2.2.1.length<=20:=by have:=r.len;omega
 have hrO:=ZB0 hown hown d.tO hl20 d.vO d.o0 d.o1;have hrP:=ZB0 hown (of:=1 - own) (by omega) d.tO hl20 d.vP d.p0 d.p1;have hsh:=ZyD hown d.tO hl20;unfold ZrL;generalize Zkp ch.2.2.2.2 s own hO (Zay to s.2.2.1).length=a at*;generalize Zkp ch.2.2.2.2 s (1 - own) hP (Zay to s.2.2.1).length=b at*;have hl16:(Zay to s.2.2.1).length<=16:=ybz (ZrJ _ _) r.len;have tl:=λ{acc:yL Ze}(hb:acc.length<=4)(ha:∀e,e∈acc->e.2.2.length=32)(u:yL Unit)=>ZGb (own:=own) (w:=tp.2.2.1) (rev:=revF bp.2.2.2.2 per) (ow:=mixF bo.2.2.2.1 per) (pe:=mixF bp.2.2.2.1 per) hl16 ch s hb ha u;have s1:∀z:Int,WR yD to z=some (decide (z >= to.1)):=λz=>rfl;have lateIs:∀x y:yU,Zka yD x y tp.2.2.1=some (Zl8 y x tp.2.2.1):=λ_ _=>rfl;have ancIs:∀x:yU,Y8 yD x=some (Zl9 x):=λ_=>rfl;have lens:∀(n:Int)(lk:Z3)(ro:Qy),(mkC n lk ro).2.2.length=32:=λn lk ro=>Zyx lk;unfold Y9 itm;rw[hside,ya,yX (show¬(!true)=true by decide),XQ,ya,yY hp,yX (show¬(!true)=true by decide),hr,ya,yX (show¬(!true)=true by decide)];rw[show((0:Int),(0:Int),(0:Int),(0:yU),(0:Int))=zcd from rfl]
 simp only[hpeer,q1,q2,if_true,d.bO,d.bP,d.tO,d.tP,ya,ZDc,ZJ6,hrO,hrP,s1,lateIs,ancIs,ZH0,hsh];have lt:=λx y=>ZHY x y tp.2.2.1;by_cases ha:a >= to.1
 ·rw[yW (yY ha),yW ha];simp only[VU (lt _ _) ((1:Int),zcd) [] (acc:=[]) (by simp),ya];by_cases hb:b >= to.1
  ·rw[yW (yY hb),yW hb];rw[VU (ZB1 _) _ _ (by simp),ya];dsimp only;rw[VU (Zeh _) _ _ (by simp),ya];dsimp only;rw[VU (Zeh _) _ _ (by simp),ya];dsimp only;refine Eq.trans (tl ?_ ?_ _) ?_
   ·simp
   ·intro e he;simp only[ybo,yax,ycj,or_false,false_or] at he;rcases he with((rfl|rfl)|rfl)|rfl <;> exact lens _ _ _
   ·simp
  ·rw[yX (by rw[yN];exact hb),yX hb];rw[VU (Zeh _) _ _ (by simp),ya];dsimp only;rw[VU (Zeh _) _ _ (by simp),ya];dsimp only;refine Eq.trans (tl ?_ ?_ _) ?_
   ·simp
   ·intro e he;simp only[ybo,yax,ycj,or_false,false_or] at he;rcases he with(rfl|rfl)|rfl <;> exact lens _ _ _
   ·simp
 ·rw[yX (by rw[yN];exact ha),yX ha];by_cases hb:b >= to.1
  ·rw[yW (yY hb),yW hb];rw[VU (ZB1 _) _ _ (by simp),ya];dsimp only;rw[VU (Zeh _) _ _ (by simp),ya];dsimp only;rw[VU (Zeh _) _ _ (by simp),ya];dsimp only;refine Eq.trans (tl ?_ ?_ _) ?_
   ·simp
   ·intro e he;simp only[ybo,yax,ycj,or_false,false_or] at he;rcases he with(rfl|rfl)|rfl <;> exact lens _ _ _
   ·simp
  ·rw[yX (by rw[yN];exact hb),yX hb];rw[VU (Zeh _) _ _ (by simp),ya];dsimp only;rw[VU (Zeh _) _ _ (by simp),ya];dsimp only;refine Eq.trans (tl ?_ ?_ _) ?_
   ·simp
   ·intro e he;simp only[ybo,yax,ycj,or_false,false_or] at he;rcases he with rfl|rfl <;> exact lens _ _ _
   ·simp
theorem Zwe{own:Int}:VL yD own=some (decide (own=0\/own=1)):=by
 unfold VL;by_cases h:own=0
 ·rw[yW (beq_iff_eq.2 h),yY (p:=own=0\/own=1) (.inl h)]
 ·rw[yX (by rw[yT];exact h)];by_cases h1:own=1
  ·rw[yY (p:=own=0\/own=1) (.inr h1),h1];rfl
  ·rw[yZ (p:=own=0\/own=1) (by omega)];exact congrArg some (by simpa using h1)
def KO(own w:Int)(rev late ow pe:yU)(lk:Z3)(ro:Qy):Prop:=
 (ro.1=1/\lk=Zl8 rev late w)\/(ro.1=2\/ro.1=3\/ro.1=4)\/((ro.1=5/\ro.2.1=own\/ro.1=6/\ro.2.1=1 - own)/\lk=Zh0 own w rev ow pe ro.2/\Zl4 ro.2.2.2.2.1/\1<=ro.2.2.2.2.2/\ro.2.2.2.2.2<=1048576)
theorem Zt1{α:Type}{key:α->yL Int}{x:α}:∀l:yL α,(VT key x l).Perm (x::l)
 |[]=>.refl _
 |y::r=>by
  unfold VT;split
  ·exact .refl _
  ·exact((Zt1 r).cons y).trans (.swap _ _ _)
theorem ZDi{α:Type}{key:α->yL Int}(l:yL α):(Zaw key l).Perm l:=by
 unfold Zaw
 have h:∀(l acc:yL α),(l.foldl (λacc x=>VT key x acc) acc).Perm (acc++l):=by
  intro l
  induction l with
  |nil=>intro acc;rw[yar];exact .refl _
  |cons x r ih=>
   intro acc;exact(ih (VT key x acc)).trans (((Zt1 acc).append_right r).trans List.perm_middle.symm)
 exact h l []
theorem ZGd{l m:yL Int}(h:l.Perm m):l.sum=m.sum:=by
 induction h with
 |nil=>rfl
 |cons x _ ih=>rw[List.sum_cons,List.sum_cons,ih]
 |swap x y l=>rw[List.sum_cons,List.sum_cons,List.sum_cons,List.sum_cons];omega
 |trans _ _ h1 h2=>exact h1.trans h2
def Zkq(l:yL Cond):Int:=(l.map λc=>c.2.2.1).sum
theorem ZH1{l:yL Cond}(h:∀c,c∈l->0<=c.2.2.1/\c.2.2.1<=1125899906842624):0<=Zkq l/\Zkq l<=l.length*1125899906842624:=by
 induction l with
 |nil=>simp[Zkq]
 |cons c r ih=>
  have h1:=h c (yam ..);have h2:=ih λx hx=>h x (yap _ hx);unfold Zkq at h2 ⊢;rw[yad,List.sum_cons,yah];omega
theorem ZyF{l:yL Cond}(p:Cond->Bool)(h:∀c,c∈l->0<=c.2.2.1/\c.2.2.1<=1125899906842624):Zkq (l.filter p)<=Zkq l:=by
 induction l with
 |nil=>exact Int.le_refl _
 |cons c r ih=>
  have h1:=h c (yam ..);have h2:=ih λx hx=>h x (yap _ hx);unfold Zkq at h2 ⊢;rw[yad,List.sum_cons,List.filter_cons];split
  ·rw[yad,List.sum_cons];omega
  ·omega
theorem ZB2:∀(l:yL Cond)(z:Int),(∀c,c∈l->0<=c.2.2.1/\c.2.2.1<=1125899906842624)->0<=z->z+l.length*1125899906842624<=9223372036854775807->totF z l=z+Zkq l
 |[],z,_,_,_=>by simp[totF,Zkq]
 |c::r,z,h,h0,h1=>by
  have hc:=h c (yam ..);rw[yah] at h1
  have e:ZFV z c=z+c.2.2.1:=by
   unfold ZFV;exact ZP (by omega) (by omega)
  show totF (ZFV z c) r=_;rw[e,ZB2 r (z+c.2.2.1) (λx hx=>h x (yap _ hx)) (by omega) (by omega)];unfold Zkq;rw[yad,List.sum_cons];omega
theorem ZGe{r:Int}{n m:Nat}(h0:0<=r)(h1:r<=1000)(h:n<=m)(hm:m<=16):feeF r (n:Int)<=feeF r (m:Int):=by
 unfold feeF;rw[yW ⟨h0,h1⟩,yW ⟨by omega,by omega⟩,yW ⟨h0,h1⟩,yW ⟨by omega,by omega⟩];exact Int.mul_le_mul_of_nonneg_left (by omega) h0
structure CmC(ch:Chan)(own:Int)(per:UInt64)(c:Commit):Prop where
 ins:c.1.1=[(ch.1,(0,[],0))]
 fund:0<=ch.1.2/\ch.1.2<=63
 same:c.2.length=c.1.2.1.length
 outs:c.1.2.1.length<=20
 note:0<=c.1.2.2/\c.1.2.2<=9223372036854775807
 ok:∀o,o∈c.1.2.1->OutOk o
 amt:amts c.1.2.1<=1125899906842624
 o:own=0\/own=1
 pt:IsPt per.toNat
 ex:∃bo bp tp,ch.2.2.1[own.toNat]? =some bo/\ch.2.2.1[(1 - own).toNat]? =some bp/\TermOk tp/\∀(k:Nat)ou ro,c.1.2.1[k]? =some ou->c.2[k]? =some ro->
  KO own tp.2.2.1 (revF bp.2.2.2.2 per) (mixF bo.2.2.1 per) (mixF bo.2.2.2.1 per) (mixF bp.2.2.2.1 per) ou.2 ro
theorem ZJ8{a b:yU}{d:Int}(h0:0<=d)(h1:d<=4096)(ha:IsPt a.toNat)(hb:IsPt b.toNat):Xm (Zl8 a b d)/\Wx (Zl8 a b d):=by
 refine⟨⟨by simp[Zl8],by simp[Zl8],λe he=> ?_⟩,λe he=> ?_⟩
 ·simp[Zl8] at he;rcases he with rfl|rfl <;> exact⟨by simp,by simp,by simp,by simp<;> omega,by simp<;> omega⟩
 ·simp[Zl8] at he;rcases he with rfl|rfl
  ·exact⟨λp hp=>by simp at hp;rw[hp];exact ha,λh=>absurd rfl h⟩
  ·exact⟨λp hp=>by simp at hp;rw[hp];exact hb,λh=>absurd rfl h⟩
theorem ZGf{p:yU}(h:IsPt p.toNat):Xm (Zni p)/\Wx (Zni p):=by
 refine⟨⟨by simp[Zni],by simp[Zni],λe he=> ?_⟩,λe he=> ?_⟩
 ·simp[Zni] at he;rw[he];exact⟨by simp,by simp,by simp,by simp,by simp⟩
 ·simp[Zni] at he;rw[he];exact⟨λq hq=>by simp at hq;rw[hq];exact h,λh=>absurd rfl h⟩
theorem ZGg{p:yU}(h:IsPt p.toNat):Xm (Zl9 p)/\Wx (Zl9 p):=by
 refine⟨⟨by simp[Zl9],by simp[Zl9],λe he=> ?_⟩,λe he=> ?_⟩
 ·simp[Zl9] at he;rcases he with rfl|rfl <;> exact⟨by simp,by simp,by simp,by simp,by simp⟩
 ·simp[Zl9] at he;rcases he with rfl|rfl
  ·exact⟨λq hq=>by simp at hq;rw[hq];exact h,λh=>absurd rfl h⟩
  ·exact⟨λq hq=>by simp at hq,λh=>absurd rfl h⟩
theorem ZJ9{own w:Int}{rev ow pe:yU}{c:Cond}(h0:0<=w)(h1:w<=4096)(hr:IsPt rev.toNat)(ho:IsPt ow.toNat)(hp:IsPt pe.toNat)(hc:IsPt c.2.2.2.1.toNat)(e0:1<=c.2.2.2.2)(e1:c.2.2.2.2<=1048576):
 Xm (Zh0 own w rev ow pe c)/\Wx (Zh0 own w rev ow pe c):=by
 unfold Zh0;split
 ·refine⟨⟨by simp,by simp,λe he=> ?_⟩,λe he=> ?_⟩
  ·simp at he;rcases he with rfl|rfl|rfl <;> exact⟨by simp,by simp<;> omega,by simp<;> omega,by simp<;> omega,by simp<;> omega⟩
  ·simp at he;rcases he with rfl|rfl|rfl
   ·exact⟨λq hq=>by simp at hq;rw[hq];exact hr,λh=>absurd rfl h⟩
   ·exact⟨λq hq=>by simp at hq;rw[hq];exact hp,λ_=>hc⟩
   ·exact⟨λq hq=>by simp at hq;rw[hq];exact ho,λh=>absurd rfl h⟩
 ·refine⟨⟨by simp,by simp,λe he=> ?_⟩,λe he=> ?_⟩
  ·simp at he;rcases he with rfl|rfl|rfl <;> exact⟨by simp,by simp<;> omega,by simp<;> omega,by simp<;> omega,by simp<;> omega⟩
  ·simp at he;rcases he with rfl|rfl|rfl
   ·exact⟨λq hq=>by simp at hq;rw[hq];exact hr,λh=>absurd rfl h⟩
   ·exact⟨λq hq=>by simp at hq;rw[hq];exact ho,λ_=>hc⟩
   ·exact⟨λq hq=>by simp at hq;rw[hq];exact hp,λh=>absurd rfl h⟩
def ZKV(own w:Int)(rev late ow pe:yU)(x:Ze):Prop:=OutOk x.1/\KO own w rev late ow pe x.1.2 x.2.1
theorem ZGh{ch:Chan}{s:yG}(r:StR ch s):∀c,c∈s.2.2.1->ZrE c:=λc hc=>by
 obtain⟨k,hk⟩:=List.getElem?_of_mem hc;exact(r.conds k (yq.1 hk).1 c hk).1
theorem ZKa{own:Int}{per:yU}{bo bp:Basics}{to tp:Terms}{a b:Int}{l:yL Cond}(ho:own=0\/own=1)(hd:TermOk tp)(hbo:QR bo)(hbp:QR bp)(ha:0<=a/\a<=1125899906842624)(hb:0<=b/\b<=1125899906842624)(hl:∀c,c∈l->ZrE c):
 ∀x,x∈itm own per bo bp to tp a b l->ZKV own tp.2.2.1 (revF bp.2.2.2.2 per) (mixF bo.2.2.1 per) (mixF bo.2.2.2.1 per) (mixF bp.2.2.2.1 per) x:=by
 intro x hx
 have d0:0<=tp.2.2.1/\tp.2.2.1<=4096:=by
  obtain⟨_,h,_⟩:=hd;omega
 unfold itm at hx;rcases ybo.1 hx with hx|hx
 ·rcases ybo.1 hx with hx|hx
  ·rcases ybo.1 hx with hx|hx
   ·split at hx
    ·rw[yao.1 hx];obtain⟨q1,q2⟩:=ZJ8 d0.1 d0.2 (ZBY bp.2.2.2.2 per) (Zwc bo.2.2.1 per);exact⟨⟨ha.1,ha.2,q1,q2⟩,.inl ⟨rfl,rfl⟩⟩
    ·cases hx
   ·split at hx
    ·rw[yao.1 hx];obtain⟨q1,q2⟩:=ZGf (hbp bp.2.1 (by simp[pts])).1;exact⟨⟨hb.1,hb.2,q1,q2⟩,.inr (.inl (.inl rfl))⟩
    ·cases hx
  ·simp only[yax,ycj,or_false] at hx;rcases hx with rfl|rfl
   ·obtain⟨q1,q2⟩:=ZGg (hbo bo.1 (by simp[pts])).1;exact⟨⟨show(0:Int)<=330 by decide,show(330:Int)<=1125899906842624 by decide,q1,q2⟩,.inr (.inl (.inr (.inl rfl)))⟩
   ·obtain⟨q1,q2⟩:=ZGg (hbp bp.1 (by simp[pts])).1;exact⟨⟨show(0:Int)<=330 by decide,show(330:Int)<=1125899906842624 by decide,q1,q2⟩,.inr (.inl (.inr (.inr rfl)))⟩
 ·obtain⟨c,hc,rfl⟩:=ybl.1 hx;obtain⟨f1,f2,f3,f4,f5⟩:=hl c hc;obtain⟨q1,q2⟩:=ZJ9 (own:=own) d0.1 d0.2 (ZBY bp.2.2.2.2 per) (Zwc bo.2.2.2.1 per) (Zwc bp.2.2.2.1 per) (c:=c) f5.1 f4.1 f4.2;refine⟨⟨by show 0<=c.2.2.1;omega,f3.2,q1,q2⟩,.inr (.inr ⟨?_,rfl,f5,f4.1,f4.2⟩)⟩;by_cases h:c.1=own
  ·left;exact⟨by show(if c.1=own then(5:Int) else 6)=5;rw[yW h],h⟩
  ·right;exact⟨by show(if c.1=own then(5:Int) else 6)=6;rw[yX h],by show c.1=1 - own;omega⟩
theorem ZH2{own:Int}{per:yU}{bo bp:Basics}{to tp:Terms}{a b:Int}{l:yL Cond}(ha:0<=a)(hb:0<=b):((itm own per bo bp to tp a b l).map λx=>x.1.1).sum<=a+b+660+Zkq l:=by
 have e:((l.map (ZrK own tp.2.2.1 (revF bp.2.2.2.2 per) (mixF bo.2.2.2.1 per) (mixF bp.2.2.2.1 per))).map λx=>x.1.1).sum=Zkq l:=by
  rw[yas];rfl
 unfold itm;rw[yai,yai,yai,List.sum_append,List.sum_append,List.sum_append,e]
 have h1:(List.map (λx:Ze=>x.1.1) (if a >= to.1 then[mkC a (Zl8 (revF bp.2.2.2.2 per) (mixF bo.2.2.1 per) tp.2.2.1) (1,zcd)] else[])).sum<=a:=by
  split
  ·simp[mkC]
  ·simpa using ha
 have h2:(List.map (λx:Ze=>x.1.1) (if b >= to.1 then[mkC b (Zni bp.2.1) (2,zcd)] else[])).sum<=b:=by
  split
  ·simp[mkC]
  ·simpa using hb
 have h3:(List.map (λx:Ze=>x.1.1) [mkC 330 (Zl9 bo.1) (3,zcd),mkC 330 (Zl9 bp.1) (4,zcd)]).sum=660:=by simp[mkC]
 omega
theorem ZH3{own:Int}{per:yU}{bo bp:Basics}{to tp:Terms}{a b:Int}{l:yL Cond}(hl:l.length<=16):(itm own per bo bp to tp a b l).length<=20:=by
 unfold itm;by_cases h1:a >= to.1
 ·by_cases h2:b >= to.1
  ·rw[yW h1,yW h2];simp;omega
  ·rw[yW h1,yX h2];simp;omega
 ·by_cases h2:b >= to.1
  ·rw[yX h1,yW h2];simp;omega
  ·rw[yX h1,yX h2];simp;omega
def noC:Commit:=(([],[],0),[])
theorem ZGi{ch:Chan}(w:ChWf ch){s:yG}(hs:s.2.1.length=2)(own:Int)(per:yU):
 ∃c e,Y9 yD ch s own per=some (c,e)/\(e=0->CmC ch own per c)/\(e≠0->c=noC):=by
 obtain⟨rb,r1,r3⟩:=ZFY w hs;by_cases ho:own=0\/own=1
 ·by_cases hp:IsPt per.toNat
  ·cases rb with
   |true=>
    have r:=r3 rfl;obtain⟨bo,bp,to,tp,hO,hP,d⟩:=Sd.all w r ho;refine⟨_,_,ZGc r1 r hp d,λ_=> ?_,λh=>absurd rfl h⟩
    have hside:TermOk to/\QR bo/\TermOk tp/\QR bp:=by
     have q1:=r.side own.toNat (by omega) to bo d.tO d.bO;have q2:=r.side (1 - own).toNat (by omega) tp bp d.tP d.bP;exact⟨q1.1,q1.2,q2.1,q2.2⟩
    have hfine:=ZGh r
    have hamt:∀c,c∈s.2.2.1->0<=c.2.2.1/\c.2.2.1<=1125899906842624:=λc hc=>by
     obtain⟨_,_,h,_⟩:=hfine c hc;omega
    have zW:=r.len;have hshl:=ZrJ to s.2.2.1;have hq:=Zwd (r:=s.2.2.2) (n:=((Zay to s.2.2.1).length:Int));have hqa:=Zwd (r:=s.2.2.2) (n:=(s.2.2.1.length:Int));have hmono:=ZGe (n:=(Zay to s.2.2.1).length) (m:=s.2.2.1.length) r.rate.1 r.rate.2 hshl zW;have hc:=ZH1 hamt;have hcf:Zkq (Zay to s.2.2.1)<=Zkq s.2.2.1:=ZyF _ hamt;obtain⟨p,q,e0,e1,e2,e3,e4,e5⟩:=r.have_;have hcost:wi (feeF s.2.2.2 (s.2.2.1.length:Int)+660)=feeF s.2.2.2 (s.2.2.1.length:Int)+660:=ZP (by omega) (by omega);rw[hcost] at e4 e5;rw[ZP (z:=p+q) (by omega) (by omega),ZB2 _ _ hamt (by omega) (by omega)] at e3
    have hboth:hO+hP+Zkq s.2.2.1=ch.2.1/\(ch.2.2.2.2=own->hO >= feeF s.2.2.2 (s.2.2.1.length:Int)+660)/\(ch.2.2.2.2=1 - own->hP >= feeF s.2.2.2 (s.2.2.1.length:Int)+660):=by
     have v1:=d.vO;have v2:=d.vP;rw[e0] at v1 v2;rcases ho with rfl|rfl
     ·cases v1;cases v2;exact⟨e3,e4,e5⟩
     ·cases v1;cases v2;exact⟨by omega,e5,e4⟩
    obtain⟨b1,b2,b3⟩:=hboth;have am:=r.am;have o0:=d.o0;have p0:=d.p0;have o1:=d.o1;have p1:=d.p1
    have hA:0<=Zkp ch.2.2.2.2 s own hO (Zay to s.2.2.1).length/\Zkp ch.2.2.2.2 s own hO (Zay to s.2.2.1).length<=1125899906842624:=by
     unfold Zkp;split
     ·rename_i h;have:=b2 h.symm;omega
     ·omega
    have hB:0<=Zkp ch.2.2.2.2 s (1 - own) hP (Zay to s.2.2.1).length/\Zkp ch.2.2.2.2 s (1 - own) hP (Zay to s.2.2.1).length<=1125899906842624:=by
     unfold Zkp;split
     ·rename_i h;have:=b3 h.symm;omega
     ·omega
    have hAB:Zkp ch.2.2.2.2 s own hO (Zay to s.2.2.1).length+Zkp ch.2.2.2.2 s (1 - own) hP (Zay to s.2.2.1).length+660<=hO+hP:=by
     have hop:=r.op;unfold Zkp;by_cases h:own=ch.2.2.2.2
     ·rw[yW h,yX (by omega)];omega
     ·rw[yX h,yW (by omega)];omega
    have hitm:∀x,x∈ZrL ch s own per bo bp to tp hO hP->ZKV own tp.2.2.1 (revF bp.2.2.2.2 per) (mixF bo.2.2.1 per) (mixF bo.2.2.2.1 per) (mixF bp.2.2.2.1 per) x:=
     ZKa ho hside.2.2.1 hside.2.1 hside.2.2.2 hA hB λc hc=>hfine c (ZGa hc)
    have hperm:(Zaw QD (ZrL ch s own per bo bp to tp hO hP)).Perm (ZrL ch s own per bo bp to tp hO hP):=ZDi _;generalize hL:Zaw QD (ZrL ch s own per bo bp to tp hO hP)=L at hperm;have hno:=r.no
    have hnote:wi (wi (2*s.1)+own)=2*s.1+own:=by
     rw[ZP (z:=2*s.1) (by omega) (by omega),ZP (by omega) (by omega)]
    refine⟨rfl,r.at_, ?_, ?_, ?_, ?_, ?_,ho,hp,bo,bp,tp,d.bO,d.bP,hside.2.2.1, ?_⟩
    ·unfold ZyE;dsimp only;rw[yy,yy,yy,yy]
    ·unfold ZyE;dsimp only;rw[yy,yy,hperm.length_eq];exact ZH3 (ybz hshl zW)
    ·show 0<=wi (wi (2*s.1)+own)/\wi (wi (2*s.1)+own)<=9223372036854775807;rw[hnote];omega
    ·intro o h;unfold ZyE at h;dsimp only at h;rw[yas] at h;obtain⟨x,hx,rfl⟩:=ybl.1 h;exact(hitm x (hperm.mem_iff.1 hx)).1
    ·unfold amts ZyE;dsimp only;rw[yas,yas];show(L.map λx=>x.1.1).sum<=_;rw[ZGd (hperm.map _)];have:=ZH2 (own:=own) (per:=per) (bo:=bo) (bp:=bp) (to:=to) (tp:=tp) (l:=Zay to s.2.2.1) hA.1 hB.1;unfold ZrL;omega
    ·intro k ou ro h1 h2;unfold ZyE at h1 h2;dsimp only at h1 h2;rw[yas,List.getElem?_map] at h1 h2;obtain⟨x,hx,rfl⟩:=Option.map_eq_some_iff.1 h1;rw[hx] at h2;cases h2
     exact(hitm x (hperm.mem_iff.1 (List.mem_of_getElem? hx))).2
   |false=>
    refine⟨noC,14, ?_,λh=>absurd h (by decide),λ_=>rfl⟩;unfold Y9;rw[Zwe,ya,yY ho,yX (show¬(!true)=true by decide),XQ,ya,yY hp,yX (show¬(!true)=true by decide),r1,ya,yW (show(!false)=true by decide)];rfl
  ·refine⟨noC,1, ?_,λh=>absurd h (by decide),λ_=>rfl⟩;unfold Y9;rw[Zwe,ya,yY ho,yX (show¬(!true)=true by decide),XQ,ya,yZ hp,yW (show(!false)=true by decide)];rfl
 ·refine⟨noC,1, ?_,λh=>absurd h (by decide),λ_=>rfl⟩;unfold Y9;rw[Zwe,ya,yZ ho,yW (show(!false)=true by decide)];rfl
theorem Zcw{I X:Type}{step:I->yO (I⊕X)}(n:Nat)(st:Nat->I)(ok:Nat->Prop)(good:X)(bad:Nat->X)
 (h1:∀k,k < n->(∀j,j < k->ok j)->ok k->step (st k)=some (.inl (st (k+1)))) (h2:∀k,k < n->(∀j,j < k->ok j)->¬ok k->step (st k)=some (.inr (bad k))) (he:(∀j,j < n->ok j)->step (st n)=some (.inr good)) (hn:n < 18446744073709551616):
 ∃x,Zc step yD (st 0)=some x/\(W3 n ok/\x=good\/¬W3 n ok/\∃k,x=bad k):=by
 refine WW (step:=step) n (λk s=>s=st k/\∀j,j < k->ok j) _ (i:=st 0) ⟨rfl,λj h=>by omega⟩ hn ?_ ?_
 ·rintro k _ hk ⟨rfl,hj⟩;by_cases h:ok k
  ·left;refine⟨_,h1 k hk hj h,rfl,λj hjk=> ?_⟩;by_cases e:j=k
   ·rw[e];exact h
   ·exact hj j (by omega)
  ·right;exact⟨_,h2 k hk hj h,.inr ⟨λq=>h (q k hk),k,rfl⟩⟩
 ·rintro _ ⟨rfl,hj⟩;exact⟨_,he hj,.inl ⟨hj,rfl⟩⟩
theorem Zt2{K V:Type}[DecidableEq K](k:K)(v:V)(k':K):∀m:yL (K×V),Zb3 (Zmo m k v) k'=if k'=k then some v else Zb3 m k'
 |[]=>rfl
 |q::m=>by
  have ih:=Zt2 k v k' m;unfold Zmo;by_cases h:k=q.1
  ·rw[yW h];unfold Zb3;by_cases h2:k'=k
   ·rw[yW h2,yW h2]
   ·rw[yX h2,yX h2,yX (by rw[<-h];exact h2)]
  ·rw[yX h];unfold Zb3;by_cases h3:k'=q.1
   ·rw[yW h3,yW h3,yX (by rw[h3];exact λq=>h q.symm)]
   ·rw[yX h3,yX h3,ih]
def Zei(l:yL In):yL (ZI×Bool):=l.foldl (λm x=>Zmo m x.1 true) []
theorem ZB3{l:yL In}{k:Nat}{x:In}(h:l[k]? =some x):Zei (l.take (k+1))=Zmo (Zei (l.take k)) x.1 true:=by
 rw[Vl h,Zei,List.foldl_append];rfl
theorem ZrM(l:yL In)(p:ZI):∀k,k<=l.length->(Zb3 (Zei (l.take k)) p=some true/\(∃j y,j < k/\l[j]? =some y/\y.1=p))\/(Zb3 (Zei (l.take k)) p=none/\∀j y,j < k->l[j]? =some y->y.1≠p)
 |0,_=>.inr ⟨rfl,λj y h=>by omega⟩
 |k+1,hk=>by
  obtain⟨x,hx,_⟩:=Zg (l:=l) (k:=k) (by omega);rw[ZB3 hx,Zt2];by_cases h:p=x.1
  ·rw[yW h];exact .inl ⟨rfl,k,x,by omega,hx,h.symm⟩
  ·rw[yX h];rcases ZrM l p k (by omega) with⟨h1,j,y,h2,h3,h4⟩|⟨h1,h2⟩
   ·exact .inl ⟨h1,j,y,by omega,h3,h4⟩
   ·refine .inr ⟨h1,λj y h3 h4=> ?_⟩;by_cases e:j=k
    ·subst e;rw[hx] at h4;cases h4;exact λq=>h q.symm
    ·exact h2 j y (by omega) h4
def WitIn(w:Wh):Prop:=0<=w.1/\w.1 < 4/\w.2.1.length<=12
instance(w:Wh):Decidable (WitIn w):=by unfold WitIn;infer_instance
theorem ZAz(w:Wh):WE yD w=some (decide (WitIn w)):=by
 unfold WE;refine(Zav (q:=w.1 < 4/\(w.2.1.length:Int)<=12) (Zl3 _ _ rfl)).trans (congrArg some (decide_eq_decide.2 ?_));unfold WitIn;omega
theorem ZB4(w:Wh):WV yD w=some (decide (WitIn w)):=by
 unfold WV;refine(Zav (q:=w.1<=3/\(w.2.1.length:Int)<=12) (Zl3 _ _ rfl)).trans (congrArg some (decide_eq_decide.2 ?_));unfold WitIn;omega
def ZyG(l:yL In)(k:Nat):Prop:=∀x,l[k]? =some x->(0<=x.1.2/\x.1.2 < 64)/\WitIn x.2/\∀j y,j < k->l[j]? =some y->y.1≠x.1
theorem Zt3(t:Tx)(hl:t.1.length<=100):∃x,Zc (Xq yD) yD (t.1,(t.1.length:Int),(0:Int),t,([]:yL (ZI×Bool)))=some x/\(W3 t.1.length (ZyG t.1)/\x=.inr (t,Zei t.1)\/¬W3 t.1.length (ZyG t.1)/\∃k:Nat,x=.inl (false,t,Zei (t.1.take k))):=by
 refine Zcw t.1.length (λk:Nat=>(t.1,(t.1.length:Int),(k:Int),t,Zei (t.1.take k))) (ZyG t.1) (Sum.inr (t,Zei t.1)) (λk=>Sum.inl (false,t,Zei (t.1.take k))) ?_ ?_ ?_ (by omega)
 ·intro k hk _ hok;obtain⟨x,hx,_⟩:=Zg hk;obtain⟨o1,o2,o3⟩:=hok x hx;unfold Xq;dsimp only;rw[yW (ZG hk),Zl hx,ya];rcases ZrM t.1 x.1 k (by omega) with⟨_,j,y,h2,h3,h4⟩|⟨h1,_⟩
  ·exact absurd h4 (o3 j y h2 h3)
  ·rw[h1];unfold ZnB;dsimp only;rw[yX (show¬decide (x.1.2 < 0)=true by rw[yN];omega),yX (show¬decide (x.1.2 >= 64)=true by rw[yN];omega),ZAz,ya,yY o2,yX (by decide),Zp (by omega),ZB3 hx]
 ·intro k hk _ hno;obtain⟨x,hx,_⟩:=Zg hk;unfold Xq;dsimp only;rw[yW (ZG hk),Zl hx,ya];rcases ZrM t.1 x.1 k (by omega) with⟨h1,_⟩|⟨h1,h2⟩
  ·rw[h1];unfold ZnB;dsimp only;rw[yW rfl]
  ·rw[h1];unfold ZnB;dsimp only;by_cases c1:x.1.2 < 0
   ·rw[yW (yY c1)]
   ·rw[yX (show¬decide (x.1.2 < 0)=true by rw[yN];exact c1)];by_cases c2:x.1.2 >= 64
    ·rw[yW (yY c2)]
    ·rw[yX (show¬decide (x.1.2 >= 64)=true by rw[yN];exact c2),ZAz,ya];by_cases c3:WitIn x.2
     ·refine absurd ?_ hno;intro x' hx';rw[hx] at hx';cases hx';exact⟨⟨by omega,by omega⟩,c3,h2⟩
     ·rw[yZ c3,yW (by decide)]
 ·intro _;unfold Xq;dsimp only;rw[yX (by rw[Zz];decide),yak]
theorem Zt4(t:Tx){k:Nat}(hk:k<=100)(hkl:k<=t.1.length)(x:In):∃r,Zc (Yi yD) yD ((k:Int),(0:Int),t,x)=some r/\((∀j y,j < k->t.1[j]? =some y->y.1≠x.1)/\r=.inr ((k:Int),t,x)\/(¬∀j y,j < k->t.1[j]? =some y->y.1≠x.1)/\r=.inl (false,t,x)):=by
 obtain⟨r,r1,r2⟩:=Zcw (step:=Yi yD) k (λj:Nat=>((k:Int),(j:Int),t,x)) (λj=>∀y,t.1[j]? =some y->y.1≠x.1) (.inr ((k:Int),t,x)) (λ_=>.inl (false,t,x)) (by
  intro j hj _ hok;obtain⟨y,hy,_⟩:=Zg (l:=t.1) (k:=j) (by omega);unfold Yi;dsimp only;rw[yW (ZG hj),Zl hy,ya,yX (by rw[yN];exact hok y hy),Zp (by omega)]) (by
  intro j hj _ hno;obtain⟨y,hy,_⟩:=Zg (l:=t.1) (k:=j) (by omega)
  have h:y.1=x.1:=by
   by_cases h:y.1=x.1
   ·exact h
   ·refine absurd ?_ hno;intro y' hy';rw[hy] at hy';cases hy';exact h
  unfold Yi;dsimp only;rw[yW (ZG hj),Zl hy,ya,yW (yY h)]) (by
  intro _;unfold Yi;dsimp only;rw[yX (by rw[Zz];decide)]) (by omega)
 refine⟨r,r1, ?_⟩;rcases r2 with⟨h1,h2⟩|⟨h1,_,h2⟩
 ·exact .inl ⟨λj y hj hy=>h1 j hj y hy,h2⟩
 ·exact .inr ⟨λq=>h1 λj hj y hy=>q j y hj hy,h2⟩
theorem ZDj(t:Tx)(hl:t.1.length<=100):∃x,Zc (YM yD) yD ((0:Int),t)=some x/\(W3 t.1.length (ZyG t.1)/\x=.inr t\/¬W3 t.1.length (ZyG t.1)/\∃k:Nat,x=.inl (false,t)):=by
 refine Zcw t.1.length (λk:Nat=>((k:Int),t)) (ZyG t.1) (Sum.inr t) (λ_=>Sum.inl (false,t)) ?_ ?_ ?_ (by omega)
 ·intro k hk _ hok;obtain⟨x,hx,_⟩:=Zg hk;obtain⟨o1,o2,o3⟩:=hok x hx;unfold YM;dsimp only;rw[yW (ZG hk),Zl hx,ya,yX (show¬decide (x.1.2 < 0)=true by rw[yN];omega),yX (show¬decide (x.1.2 > 63)=true by rw[yN];omega),ZB4,ya,yY o2,yX (by decide)];obtain⟨r,r1,⟨_,rfl⟩|⟨h,_⟩⟩:=Zt4 t (k:=k) (by omega) (by omega) x
  ·rw[r1,ya];dsimp only;rw[Zp (by omega)]
  ·exact absurd o3 h
 ·intro k hk _ hno;obtain⟨x,hx,_⟩:=Zg hk;unfold YM;dsimp only;rw[yW (ZG hk),Zl hx,ya];by_cases c1:x.1.2 < 0
  ·rw[yW (yY c1)]
  ·rw[yX (show¬decide (x.1.2 < 0)=true by rw[yN];exact c1)];by_cases c2:x.1.2 > 63
   ·rw[yW (yY c2)]
   ·rw[yX (show¬decide (x.1.2 > 63)=true by rw[yN];exact c2),ZB4,ya];by_cases c3:WitIn x.2
    ·rw[yY c3,yX (by decide)];obtain⟨r,r1,⟨h,rfl⟩|⟨h,rfl⟩⟩:=Zt4 t (k:=k) (by omega) (by omega) x
     ·refine absurd ?_ hno;intro x' hx';rw[hx] at hx';cases hx';exact⟨⟨by omega,by omega⟩,c3,h⟩
     ·rw[r1,ya]
    ·rw[yZ c3,yW (by decide)]
 ·intro _;unfold YM;dsimp only;rw[yX (by rw[Zz];decide)]
theorem ZyH(z:Int):Qx yD z=some (decide (0<=z/\z<=1125899906842624)):=Zl3 (z >= 0) (z<=1125899906842624) rfl
theorem ZrN{a b:Int}(h0:0<=a)(h1:a<=1125899906842624):Vt yD a b=some (if(0<=b/\b<=1125899906842624)/\a+b<=1125899906842624 then(a+b,true) else(0,false)):=by
 unfold Vt;rw[ZyH,ya,yY (p:=0<=a/\a<=1125899906842624) ⟨h0,h1⟩,yX (show¬(!true)=true by decide),ZyH,ya];by_cases hb:0<=b/\b<=1125899906842624
 ·rw[yY hb,yX (show¬(!true)=true by decide),ZP (z:=1125899906842624 - b) (by omega) (by omega),ZP (z:=a+b) (by omega) (by omega)];by_cases h:a+b<=1125899906842624
  ·rw[yX (show¬decide (a > 1125899906842624 - b)=true by rw[yN];omega),yW ⟨hb,h⟩]
  ·rw[yW (show decide (a > 1125899906842624 - b)=true from yY (by omega)),yX λq=>h q.2]
 ·rw[yZ hb,yW (show(!false)=true by decide),yX λq=>hb q.1]
structure TxL(t:Tx):Prop where
 ins:t.1.length<=70
 outs:t.2.1.length<=70
 locks:∀o,o∈t.2.1->LockWf o.2
def Zkr(o:Out):Prop:=(0<=o.1/\o.1<=1125899906842624)/\Xm o.2/\Wx o.2
def ZrO(l:yL Out)(k:Nat):Prop:=∀o,l[k]? =some o->Zkr o/\amts (l.take (k+1))<=1125899906842624
def ZrP(l:yL Out)(k:Nat):Prop:=∀o,l[k]? =some o->Zkr o
theorem Zwf{l:yL Out}:∀k,k<=l.length->(∀j,j < k->ZrP l j)->0<=amts (l.take k)/\amts (l.take k)<=k*1125899906842624
 |0,_,_=>by simp[amts]
 |k+1,hk,h=>by
  obtain⟨o,ho,_⟩:=Zg (l:=l) (k:=k) (by omega);have ih:=Zwf k (by omega) λj hj=>h j (by omega);have hc:=(h k (by omega) o ho).1;rw[QQ ho];omega
theorem ZrQ{t:Tx}(hl:TxL t)(m:yL (ZI×Bool)):∃x,Zc (X8 yD) yD ((0:Int),t.2.1,(t.2.1.length:Int),(0:Int),t,m)=some x/\(W3 t.2.1.length (ZrO t.2.1)/\x=.inr (t,m)\/¬W3 t.2.1.length (ZrO t.2.1)/\∃k:Nat,x=.inl (false,t,m)):=by
 have hw:=hl.outs
 have sm:∀k,k<=t.2.1.length->(∀j,j < k->ZrO t.2.1 j)->0<=amts (t.2.1.take k)/\amts (t.2.1.take k)<=1125899906842624:=by
  intro k hk h;refine⟨(Zwf k hk λj hj o ho=>(h j hj o ho).1).1, ?_⟩
  cases k with
  |zero=>simp[amts]
  |succ k=>
   obtain⟨o,ho,_⟩:=Zg (l:=t.2.1) (k:=k) (by omega);exact(h k (by omega) o ho).2
 refine Zcw t.2.1.length (λk:Nat=>(amts (t.2.1.take k),t.2.1,(t.2.1.length:Int),(k:Int),t,m)) (ZrO t.2.1) (Sum.inr (t,m)) (λ_=>Sum.inl (false,t,m)) ?_ ?_ ?_ (by omega)
 ·intro k hk hj hok;obtain⟨o,ho,hm⟩:=Zg hk;obtain⟨⟨o1,o2⟩,o3⟩:=hok o ho;rw[QQ ho] at o3;obtain⟨s0,s1⟩:=sm k (by omega) hj;obtain⟨b,b1,b2⟩:=Zdw (hl.locks o hm);unfold X8;dsimp only;rw[yW (ZG hk),Zl ho,ya,ZrN s0 s1,yW ⟨o1,o3⟩,ya,yX (by simp),b1,ya,b2.2 o2,yX (by decide),Zp (by omega),QQ ho]
 ·intro k hk hj hno;obtain⟨o,ho,hm⟩:=Zg hk;obtain⟨s0,s1⟩:=sm k (by omega) hj;obtain⟨b,b1,b2⟩:=Zdw (hl.locks o hm);unfold X8;dsimp only;rw[yW (ZG hk),Zl ho,ya,ZrN s0 s1,ya];by_cases c:(0<=o.1/\o.1<=1125899906842624)/\amts (t.2.1.take k)+o.1<=1125899906842624
  ·rw[yW c,yX (by simp),b1,ya]
   cases b with
   |true=>
    refine absurd ?_ hno;intro o' ho';rw[ho] at ho';cases ho';rw[QQ ho]
    exact⟨⟨c.1,b2.1 rfl⟩,c.2⟩
   |false=>rw[yW (by decide)]
  ·rw[yX c,yW (by simp)]
 ·intro _;unfold X8;dsimp only;rw[yX (by rw[Zz];decide)]
theorem ZAA{t:Tx}(hl:TxL t):∃x,Zc (YN yD) yD ((0:Int),(0:Int),t)=some x/\(W3 t.2.1.length (ZrP t.2.1)/\x=.inr (amts t.2.1,t)\/¬W3 t.2.1.length (ZrP t.2.1)/\∃k:Nat,x=.inl (false,t)):=by
 have hw:=hl.outs;refine Zcw t.2.1.length (λk:Nat=>(amts (t.2.1.take k),(k:Int),t)) (ZrP t.2.1) (Sum.inr (amts t.2.1,t)) (λ_=>Sum.inl (false,t)) ?_ ?_ ?_ (by omega)
 ·intro k hk hj hok;obtain⟨o,ho,hm⟩:=Zg hk;obtain⟨o1,o2⟩:=hok o ho;obtain⟨s0,s1⟩:=Zwf k (by omega) hj;obtain⟨b,b1,b2⟩:=Zf4 (hl.locks o hm);have hk70:(k:Int)<=70:=by omega
  unfold YN;dsimp only;rw[yW (ZG hk),Zl ho,ya,yX (show¬decide (o.1 < 0)=true by rw[yN];omega),yX (show¬decide (o.1 > 1125899906842624)=true by rw[yN];omega),b1,ya,b2.2 o2,yX (by decide),Zp (by omega),QQ ho,ZP (z:=amts (t.2.1.take k)+o.1) (by omega) (by omega)]
 ·intro k hk hj hno;obtain⟨o,ho,hm⟩:=Zg hk;obtain⟨b,b1,b2⟩:=Zf4 (hl.locks o hm);unfold YN;dsimp only;rw[yW (ZG hk),Zl ho,ya];by_cases c1:o.1 < 0
  ·rw[yW (yY c1)]
  ·rw[yX (show¬decide (o.1 < 0)=true by rw[yN];exact c1)];by_cases c2:o.1 > 1125899906842624
   ·rw[yW (yY c2)]
   ·rw[yX (show¬decide (o.1 > 1125899906842624)=true by rw[yN];exact c2),b1,ya]
    cases b with
    |true=>
     refine absurd ?_ hno;intro o' ho';rw[ho] at ho';cases ho'
     exact⟨⟨by omega,by omega⟩,b2.1 rfl⟩
    |false=>rw[yW (by decide)]
 ·intro _;unfold YN;dsimp only;rw[yX (by rw[Zz];decide),yak]
theorem ZyI{l:yL Out}(hl:l.length<=70):W3 l.length (ZrO l)↔W3 l.length (ZrP l)/\amts l<=1125899906842624:=by
 constructor
 ·intro h;refine⟨λk hk o ho=>(h k hk o ho).1, ?_⟩
  cases hn:l.length with
  |zero=>
   rw[ybe hn]
   simp[amts]
  |succ k=>
   obtain⟨o,ho,_⟩:=Zg (l:=l) (k:=k) (by omega);have:=(h k (by omega) o ho).2
   rwa [show k+1=l.length by omega,yak] at this
 ·rintro⟨h1,h2⟩ k hk o ho;refine⟨h1 k hk o ho, ?_⟩
  have zU:∀e,e∈l->0<=e.1:=by
   intro e he;obtain⟨j,j1,j2⟩:=ybt he;exact(h1 j j1 e (by rw[yz j1,j2])).1.1
  have hs:amts l=amts (l.take (k+1))+amts (l.drop (k+1)):=by
   have q:=congrArg amts (ybj (k+1) l);rw[<-q];unfold amts;rw[yai,List.sum_append]
  have hd:0<=amts (l.drop (k+1)):=ZAr (by
   intro x hx;obtain⟨e,he,rfl⟩:=ybl.1 hx;exact zU e (ycv he))
  omega
theorem Zwg{t:Tx}(hl:TxL t):∃b:Bool,Y4 yD t=some b/\V2 yD t=some b/\(b=true->ZC5 t):=by
 unfold Y4 V2;by_cases c1:(t.1.length:Int) < 1
 ·rw[yW (yY c1),yW (yY c1)];exact⟨false,rfl,rfl,λh=>by cases h⟩
 have c1':¬decide ((t.1.length:Int) < 1)=true:=by rw[yN];exact c1
 rw[yX c1',yX c1'];by_cases c2:(t.1.length:Int) > 64
 ·rw[yW (yY c2),yW (yY c2)];exact⟨false,rfl,rfl,λh=>by cases h⟩
 have c2':¬decide ((t.1.length:Int) > 64)=true:=by rw[yN];exact c2
 rw[yX c2',yX c2'];by_cases c3:(t.2.1.length:Int) > 64
 ·rw[yW (yY c3),yW (yY c3)];exact⟨false,rfl,rfl,λh=>by cases h⟩
 have c3':¬decide ((t.2.1.length:Int) > 64)=true:=by rw[yN];exact c3
 rw[yX c3',yX c3'];by_cases c4:t.2.2 < 0
 ·rw[yW (yY c4),yW (yY c4)];exact⟨false,rfl,rfl,λh=>by cases h⟩
 have c4':¬decide (t.2.2 < 0)=true:=by rw[yN];exact c4
 rw[yX c4',yX c4'];have h70:=hl.ins;obtain⟨x,x1,x2⟩:=Zt3 t (by omega);obtain⟨y,y1,y2⟩:=ZDj t (by omega);rw[x1,y1,ya,ya];rcases x2 with⟨hI,rfl⟩|⟨hI,k,rfl⟩
 ·rcases y2 with⟨_,rfl⟩|⟨hI',_⟩
  ·dsimp only;obtain⟨x,x1,x2⟩:=ZrQ hl (Zei t.1);obtain⟨y,y1,y2⟩:=ZAA hl;rw[x1,y1,ya,ya];rcases x2 with⟨hO,rfl⟩|⟨hO,k,rfl⟩
   ·obtain⟨hO1,hO2⟩:=(ZyI hl.outs).1 hO;rcases y2 with⟨_,rfl⟩|⟨hO',_⟩
    ·dsimp only;rw[yY hO2];refine⟨true,rfl,rfl,λ_=>⟨by omega,by omega,by omega,by omega,λx hx=> ?_,λo ho=> ?_⟩⟩
     ·obtain⟨j,j1,j2⟩:=ybt hx;obtain⟨q1,q2,_⟩:=hI j j1 x (by rw[yz j1,j2]);exact⟨q1.1,q1.2,q2.1,q2.2.1,q2.2.2⟩
     ·obtain⟨j,j1,j2⟩:=ybt ho;obtain⟨q1,q2⟩:=hO1 j j1 o (by rw[yz j1,j2]);exact⟨q1.1,q1.2,q2.1,q2.2⟩
    ·exact absurd hO1 hO'
   ·rcases y2 with⟨hO',rfl⟩|⟨_,_,rfl⟩
    ·dsimp only;rw[yZ (p:=amts t.2.1<=1125899906842624) λq=>hO ((ZyI hl.outs).2 ⟨hO',q⟩)];exact⟨false,rfl,rfl,λh=>by cases h⟩
    ·exact⟨false,rfl,rfl,λh=>by cases h⟩
  ·exact absurd hI hI'
 ·rcases y2 with⟨hI',_⟩|⟨_,_,rfl⟩
  ·exact absurd hI' hI
  ·exact⟨false,rfl,rfl,λh=>by cases h⟩
theorem ZDk{t:Tx}(hw:ZFK t)(h:ZC5 t):V4 yD t=some (ZbP t):=by
 obtain⟨ins,outs,note⟩:=t;obtain⟨w1,w2⟩:=hw;obtain⟨t1,t2,t3,t4,t5,t6⟩:=h;dsimp only at w1 w2 t1 t2 t3 t4 t5 t6;have r1:=ZS (n:=ins.length) (by omega);have r2:=ZS (n:=outs.length) (by omega);have ci:∀k,(cat inF (ins.take k)).length<=64*41:=Zau (λx hx=>ZBW (w1 x hx) (t5 x hx)) t2;have co:∀k,(cat Zng (outs.take k)).length<=64*551:=Zau (λx hx=>Zyn (t6 x hx)) t3;have ci':=ci ins.length;rw[yak] at ci';have co':=co outs.length;rw[yak] at co';unfold V4;dsimp only;rw[Zbg (by omega) (by omega) (by simp),ya,yx,yay]
 have q:=Zs (step:=YQ yD) ins.length (λk:Nat=>(Xl ins.length++cat inF (ins.take k),(k:Int),(ins,outs,note))) (x:=(Xl ins.length++cat inF ins,(ins,outs,note))) (by
  intro k hk;obtain⟨e,he,hm⟩:=Zg hk;have hc:=ci k;have h32:=w1 e hm;have hi:=t5 e hm;unfold YQ;dsimp only;rw[yW (ZG hk),Zl he,ya,Zyr (by rw[yo];omega) h32,ya,ya,Zbg hi.1 (by have:=hi.2.1;omega) (by simp only[yo];omega),ya,Zp (by omega),Qg he];unfold inF;simp only[yac]) (by
  unfold YQ;dsimp only;rw[yX (by rw[Zz];decide),yak]) (by omega)
 rw[show cat inF (ins.take 0)=[] from rfl,yar] at q
 have q:Zc (YQ yD) yD (Xl ins.length,(0:Int),(ins,outs,note))=_:=q;rw[q,ya];dsimp only;rw[Zbg (by omega) (by omega) (by rw[yo];omega),ya,yay]
 have p:=Zs (step:=YR yD) outs.length (λk:Nat=>(Xl ins.length++cat inF ins++Xl outs.length++cat Zng (outs.take k),(k:Int),(ins,outs,note))) (x:=(Xl ins.length++cat inF ins++Xl outs.length++cat Zng outs,(ins,outs,note))) (by
  intro k hk;obtain⟨e,he,hm⟩:=Zg hk;have hc:=co k;obtain⟨o1,o2,o3,o4⟩:=t6 e hm;have hl:=Ziw o3;have hr:=ZS (n:=e.1.toNat) (by omega);unfold YR;dsimp only;rw[yW (ZG hk),Zl he,ya,Zbg o1 (by omega) (by simp only[yo];omega),ya,ya,Zyw o3 o4,ya,Zv9 (by simp only[yo];omega) (by omega),ya,Zp (by omega),Qg he];unfold Zng;simp only[yac]) (by
  unfold YR;dsimp only;rw[yX (by rw[Zz];decide),yak]) (by omega)
 rw[show cat Zng (outs.take 0)=[] from rfl,yar] at p
 have p:Zc (YR yD) yD (Xl ins.length++cat inF ins++Xl outs.length,(0:Int),(ins,outs,note))=_:=p;rw[p,ya];dsimp only;rw[Zbg t4 w2 (by simp only[yo];omega),ya];unfold ZbP;simp only[yac]
noncomputable def nmF(t:Tx):yL yB:=Sha.sha (ZrC ZFy [ZbP t])
theorem Znj{t:Tx}(h:(ZbP t).length<=40000):∀x,x∈[ZbP t]->x.length<=60000:=λx hx=>by
 rw[yao.1 hx];omega
theorem ZDl{t:Tx}(hl:TxL t)(hw:ZFK t):∃n,QA yD t=some n/\ZaY yD t=some n/\n.length=32:=by
 obtain⟨b,b1,b2,b3⟩:=Zwg hl;unfold QA ZaY;rw[b1,b2,ya,ya]
 cases b with
 |false=>exact⟨_,rfl,rfl,rfl⟩
 |true=>
  have h:=b3 rfl;obtain⟨p1,p2⟩:=Zyo hw h;rw[yX (by decide),yX (by decide),p1,ZDk hw h,ya,ya,Zv7 (by decide) (by simp) (Znj p2),ZHP (by decide) (by simp) (Znj p2)];exact⟨_,rfl,rfl,Sha.ZK2 _⟩
def ZiN(d:Int)(b:Bool):yO (Int×Bool):=if b=true then(if d=1 then some (1,false) else if d=5 then some (2,false) else if d=6 then some (1,true) else none) else(if d=5 then some (1,true) else if d=6 then some (2,false) else none)
theorem ZGj(d:Int)(b:Bool):Zb3 ([([1,1],(1,false)),([5,1],(2,false)),([5,0],(1,true)),([6,1],(1,true)),([6,0],(2,false))]:yL ((yL Int)×Zx8)) ([d,if b=true then 1 else 0]:yL Int)=ZiN d b:=by
 unfold ZiN;cases b
 ·by_cases h5:d=5
  ·subst h5;simp[Zb3]
  ·by_cases h6:d=6
   ·subst h6;simp[Zb3]
   ·simp[Zb3,h5,h6]
 ·by_cases h1:d=1
  ·subst h1;simp[Zb3]
  ·by_cases h5:d=5
   ·subst h5;simp[Zb3]
   ·by_cases h6:d=6
    ·subst h6;simp[Zb3]
    ·simp[Zb3,h1,h5,h6]
def opF(h:Int)(b:Branch):Int:=Zzj b.2.1 (wi (h+b.2.2.1))
noncomputable def ZsP(l:yL yU)(p:yU):Nat:=l.findIdx λk=>B k.toNat==p
noncomputable def Zwh(l:yL yU)(p:yU):yO yU:=l[ZsP l p]?
theorem ZKb{l:yL yU}{p:yU}{k:Nat}(h:k < ZsP l p):∃e,l[k]? =some e/\(B e.toNat==p)=false:=by
 have hl:ZsP l p<=l.length:=List.findIdx_le_length;have hk:k < l.length:=by omega
 refine⟨l[k],yz hk, ?_⟩;have:=List.not_of_lt_findIdx h;simpa using this
theorem ZGk{l:yL yU}{p e:yU}(h:l[ZsP l p]? =some e):(B e.toNat==p)=true:=by
 obtain⟨h1,h2⟩:=yq.1 h;unfold ZsP at h1 h2;generalize hf:(λk:yU=>B k.toNat==p)=f at h1 h2;have:=List.findIdx_getElem (xs:=l) (p:=f) (w:=h1);rw[h2, <-hf] at this;exact this
theorem ZDm{l:yL yU}(hl:l.length<=100)(p:yU):Zbf yD l p=some (match Zwh l p with|some k=>(k,true)|none=>((0:yU),false)):=by
 have hi:ZsP l p<=l.length:=List.findIdx_le_length;unfold Zbf
 have e:=Zs (step:=XI yD) (ZsP l p) (λk:Nat=>(p,l,(l.length:Int),(k:Int))) (x:=match Zwh l p with|some k=>.inl (k,true)|none=>.inr ()) (by
  intro k hk;obtain⟨e,he,hb⟩:=ZKb hk;unfold XI;dsimp only;rw[yW (ZG (by omega)),Zl he,ya,Wj,ya,yX (by rw[hb];decide),Zp (by omega)]) (by
  unfold XI;dsimp only
  cases hs:Zwh l p with
  |none=>
   have hs:l[ZsP l p]? =none:=hs;have:l.length<=ZsP l p:=List.getElem?_eq_none_iff.1 hs
   rw[yX (ynd (by omega))]
  |some e=>
   have hs:l[ZsP l p]? =some e:=hs;have:=(yq.1 hs).1;rw[yW (ZG this),Zl hs,ya,Wj,ya,yW (ZGk hs)]) (by omega)
 have e:Zc (XI yD) yD (p,l,(l.length:Int),(0:Int))=_:=e;rw[e,ya];cases Zwh l p <;> rfl
noncomputable def ZbQ(id:yL yB)(h:Int)(known:yL yU)(own:Bool)(n:Nat)(o:Out)(r:Qy):yO Claim:=
 (ZiN r.1 own).bind λq=>(o.2[q.1.toNat]?).bind λb=>if q.2=true then(Zwh known r.2.2.2.2.1).bind λk=>(o.2[2]?).map λb2=>((id,(n:Int)),o,q.1,k,opF h b,opF h b2) else some ((id,(n:Int)),o,q.1,0,opF h b,0)
noncomputable def Zma(id:yL yB)(h:Int)(known:yL yU)(own:Bool)(c:Commit)(n:Nat):yO Claim:=(c.1.2.1[n]?).bind λo=>(c.2[n]?).bind λr=>ZbQ id h known own n o r
noncomputable def Zh1(id:yL yB)(h:Int)(known:yL yU)(own:Bool)(c:Commit)(n:Nat):yL Claim:=(yr n).filterMap (Zma id h known own c)
theorem Znk(id:yL yB)(h:Int)(known:yL yU)(own:Bool)(c:Commit)(n:Nat):Zh1 id h known own c (n+1)=Zh1 id h known own c n++(Zma id h known own c n).toList:=by
 unfold Zh1;rw[List.range_succ,List.filterMap_append];congr 1
theorem ZyJ(id:yL yB)(h:Int)(known:yL yU)(own:Bool)(c:Commit)(n:Nat):(Zh1 id h known own c n).length<=n:=by
 unfold Zh1;have:=List.length_filterMap_le (Zma id h known own c) (yr n)
 rwa [List.length_range] at this
theorem ZKc{own w:Int}{rev late ow pe:yU}{lk:Z3}{ro:Qy}(hk:KO own w rev late ow pe lk ro){b:Bool}{q:Int×Bool}(hq:ZiN ro.1 b=some q):1<=q.1/\q.1<=2/\(∃e,lk[q.1.toNat]? =some e)/\(q.2=true->∃e,lk[2]? =some e):=by
 rcases hk with⟨h1,rfl⟩|h|⟨h,rfl,_⟩
 ·rw[h1] at hq;cases b
  ·cases hq
  ·cases hq;exact⟨by decide,by decide,⟨_,rfl⟩,λh=>by cases h⟩
 ·exfalso;unfold ZiN at hq;split at hq
  ·rw[yX (by omega),yX (by omega),yX (by omega)] at hq;cases hq
  ·rw[yX (by omega),yX (by omega)] at hq;cases hq
 ·have h3:(Zh0 own w rev ow pe ro.2).length=3:=by unfold Zh0;split <;> rfl
  have hq2:1<=q.1/\q.1<=2:=by
   unfold ZiN at hq;split at hq
   ·rw[yX (by omega)] at hq;split at hq
    ·cases hq;exact⟨by decide,by decide⟩
    ·split at hq
     ·cases hq;exact⟨by decide,by decide⟩
     ·cases hq
   ·split at hq
    ·cases hq;exact⟨by decide,by decide⟩
    ·split at hq
     ·cases hq;exact⟨by decide,by decide⟩
     ·cases hq
  exact⟨hq2.1,hq2.2,⟨_,yz (by omega)⟩,λ_=>⟨_,yz (by omega)⟩⟩
theorem set_same{α:Type}{l:yL α}{k:Nat}{e:α}(h:l[k]? =some e):l.set k e=l:=by
 apply List.ext_getElem?;intro j;by_cases hj:j=k
 ·subst hj;rw[List.getElem?_set_self (yq.1 h).1,h]
 ·rw[List.getElem?_set_ne (Ne.symm hj)]
theorem ZDn{o:Out}(h:Xm o.2):Qd yD o=some o:=by
 obtain⟨h0,h4,hb⟩:=h
 have hne:¬(o.2.isEmpty=true):=by
  rw[List.isEmpty_iff];intro e;rw[e] at h0;exact absurd h0 (by decide)
 unfold Qd Zan XG VD;rw[yX hne,yX hne,yW (ZX (by omega) (by omega))]
 have e:=Zs (step:=XH yD) o.2.length (λk:Nat=>((o.2.length:Int),(k:Int),o.1,(((0:Int),([]:Z3)):Out),([()]:yL Unit),o.2)) (x:=(o.1,(((0:Int),([]:Z3)):Out),([()]:yL Unit),o.2)) (by
  intro k hk;obtain⟨e,he,hm⟩:=Zg hk;have:=(hb e hm).1;unfold XH Xj;dsimp only;rw[yW (ZG hk),yW (ZZ (by omega) (by omega)),yay,he,ya,yW (ZX (by omega) (by omega)),ya,yW (ZZ (by omega) (by omega)),ya,Zp (by omega)];rw[show((e.1,e.2.1,e.2.2.1,e.2.2.2):Branch)=e from rfl,set_same he]) (by
  unfold XH;dsimp only;rw[yX (by rw[Zz];decide)]) (by omega)
 have e:Zc (XH yD) yD ((o.2.length:Int),(0:Int),o.1,(((0:Int),([]:Z3)):Out),([()]:yL Unit),o.2)=_:=e;simp only[Option.map_some,ya];rw[e,ya]
theorem ZH4{ch:Chan}{own:Int}{per:yU}{c:Commit}(w:CmC ch own per c)(hf:ch.1.1.length=32):∃id,id.length=32/\QA yD c.1=some id/\ZaY yD c.1=some id/\Y4 yD c.1=some true/\Zbx yD c.1=some ((yr c.1.2.1.length).map λk:Nat=>(id,(k:Int))):=by
 have hL:TxL c.1:=⟨by rw[w.ins];simp,by have:=w.outs;omega,λo ho=>by
  obtain⟨_,_,⟨h0,h4,hb⟩,_⟩:=w.ok o ho;exact⟨by omega,λb hb'=>by have:=(hb b hb').1;omega⟩⟩
 have hW:ZFK c.1:=⟨λx hx=>by rw[w.ins] at hx;rw[yao.1 hx];exact hf,w.note.2⟩
 have hO:ZC5 c.1:=⟨by rw[w.ins];simp,by rw[w.ins];simp,by have:=w.outs;omega,w.note.1,λx hx=>by
  rw[w.ins] at hx;rw[yao.1 hx];have:=w.fund;exact⟨by show 0<=ch.1.2;omega,by show ch.1.2 < 64;omega,show(0:Int)<=0 by decide,show(0:Int) < 4 by decide,by simp⟩,w.ok⟩
 have e:c.1=([(ch.1,(0,[],0))],c.1.2.1,c.1.2.2):=by rw[<-w.ins]
 have hr:Y4 yD c.1=some true:=by
  rw[e] at hO ⊢;exact ZFM hO w.amt
 obtain⟨id,i1,i2,i3⟩:=ZDl hL hW;refine⟨id,i3,i1,i2,hr, ?_⟩;unfold Zbx;rw[i1,ya,hr,ya,yX (show¬(!true)=true by decide)];have ho:=w.outs
 have q:=Zs (step:=QM yD) c.1.2.1.length (λk:Nat=>((c.1.2.1.length:Int),(k:Int),c.1,(yr k).map (λk:Nat=>(id,(k:Int))),id)) (x:=(c.1,(yr c.1.2.1.length).map (λk:Nat=>(id,(k:Int))),id)) (by
  intro k hk;unfold QM;dsimp only;rw[yW (ZG hk),yW (ZX (by rw[yy,List.length_range];omega) (by rw[yy,List.length_range];omega)),Zp (by omega),List.range_succ,yai];rfl) (by
  unfold QM;dsimp only;rw[yX (by rw[Zz];decide)]) (by omega)
 have q:Zc (QM yD) yD ((c.1.2.1.length:Int),(0:Int),c.1,([]:yL ZI),id)=_:=q;rw[q,ya]
theorem ZyK{o:Out}{b:Int}(h0:0<=b){e:Branch}(he:o.2[b.toNat]? =some e)(h:Int):Zao yD o b h=some (opF h e):=by
 unfold Zao idx;rw[yW h0,he,ya];rfl
theorem ZAB{ch:Chan}{own:Int}{per:yU}{c:Commit}(w:CmC ch own per c){id:yL yB}{known:yL yU}(hk:known.length<=20)(h:Int)(b:Bool)(ch0:Chan)(kit:Kit):
 Zc (Xd yD) yD (h,known,(if b=true then(1:Int) else 0),(yr c.1.2.1.length).map (λk:Nat=>(id,(k:Int))),c.2,(c.2.length:Int),(0:Int),ch0,kit,c,([]:yL Claim))=some (ch0,kit,c,Zh1 id h known b c c.2.length):=by
 have ho:=w.outs;have hs:=w.same;obtain⟨bo,bp,tp,_,_,_,hK⟩:=w.ex;refine Zs c.2.length (λk:Nat=>(h,known,(if b=true then(1:Int) else 0),(yr c.1.2.1.length).map (λk:Nat=>(id,(k:Int))),c.2,(c.2.length:Int),(k:Int),ch0,kit,c,Zh1 id h known b c k)) ?_ ?_ (by omega)
 ·intro k hk;obtain⟨r,hr,_⟩:=Zg hk;obtain⟨o,hoo,hm⟩:=Zg (l:=c.1.2.1) (k:=k) (by omega);have hl:=ZyJ id h known b c k
  have hmade:((yr c.1.2.1.length).map (λk:Nat=>(id,(k:Int))))[k]? =some (id,(k:Int)):=by
   rw[List.getElem?_map,List.getElem?_range (by omega)];rfl
  have ec:Zma id h known b c k=ZbQ id h known b k o r:=by
   unfold Zma;rw[hoo,ya,hr,ya]
  unfold Xd ZhF;dsimp only;rw[yW (ZG hk),Zl hr,ya,ya,ZGj,Znk,ec,Zp (by omega)];unfold ZbQ
  cases hq:ZiN r.1 b with
  |none=>
   rw[Option.bind_none,Option.toList_none,yar]
   rfl
  |some q=>
   obtain⟨q1,q2,⟨e,he⟩,q3⟩:=ZKc (hK k o r hoo hr) hq;rw[ya,he,ya];show((idx c.1.2.1 (k:Int)).bind λe488=>_)=_;rw[Zl hoo,ya,Zl hmade,ya,ZDn (w.ok o hm).2.2.1,ya,ZyK (by omega) he,ya];by_cases hs2:q.2=true
   ·obtain⟨e2,he2⟩:=q3 hs2;rw[yW hs2,yW hs2,ZDm (by omega),ya]
    cases hsec:Zwh known r.2.2.2.2.1 with
    |none=>
     rw[yW (show(!false)=true by decide),Option.bind_none,Option.toList_none,yar]
    |some s=>
     dsimp only;rw[yX (show¬(!true)=true by decide),ZyK (by decide) (e:=e2) (by exact he2),ya,yW (ZX (by omega) (by omega)),ya,he2,Option.map_some,Option.toList_some]
   ·rw[yX hs2,yX hs2,yW (ZX (by omega) (by omega)),Option.toList_some]
 ·unfold Xd;dsimp only;rw[yX (by rw[Zz];decide)]
theorem ZKd{a b:Int}(ha:a=0\/a=1)(hb:b=0\/b=1):wi (1 - bits .xor .i64 a b)=if(a==b)=true then 1 else 0:=by
 rcases ha with rfl|rfl <;> rcases hb with rfl|rfl <;> rfl
noncomputable def ZsQ(id:yL yB)(h:Int)(known:yL yU)(me own:Int)(c:Commit):yL Claim:=if(me=0\/me=1)/\0<=h/\h<=1048576 then Zh1 id h known (me==own) c c.2.length else[]
theorem ZGl{ch:Chan}{own:Int}{per:yU}{c:Commit}(w:CmC ch own per c){id:yL yB}(hm:Zbx yD c.1=some ((yr c.1.2.1.length).map λk:Nat=>(id,(k:Int)))){known:yL yU}(hk:known.length<=20){me h:Int}(m0: -9223372036854775808<=me)(m1:me<=9223372036854775807)(ch0:Chan)(kit:Kit):
 WF yD ch0 kit me own c per h known=some (ZsQ id h known me own c):=by
 have ho:=w.o;unfold WF ZsQ;rw[Znh m0 m1,Znh (by omega) (by omega)];by_cases h1:me=0\/me=1
 ·rw[yY (show 0<=me/\me<=1 by omega),yX (by decide),yY (show 0<=own/\own<=1 by omega),yX (by decide),XQ,ya,yY w.pt,yX (by decide)];by_cases h2:0<=h
  ·rw[yX (ynd (by omega))];by_cases h3:h<=1048576
   ·rw[yX (ynd (by omega)),hm,ya,ZKd h1 ho,ZAB w hk,ya,yW ⟨h1,h2,h3⟩]
   ·rw[yW (yY (by omega)),yX λq=>h3 q.2.2]
  ·rw[yW (yY (by omega)),yX λq=>h2 q.2.1]
 ·rw[yZ (show¬(0<=me/\me<=1) by omega),yW (by decide),yX λq=>h1 q.1]
end Go.Proofs.YtpgpjjjoglafdaaGreat
end
