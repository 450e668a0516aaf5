/- Parts of the proof, in one file. -/
import Derived.Test.YtghfiijgklnflaaGreatKj
open Bool renaming and_eq_true → yi, false_eq_true → yaw, not_true → ycn
open Int renaming toNat_natCast → yaj
open List renaming length_append → yj, getElem?_eq_some_iff → yo, length_take → yv, append_assoc → yx, nil_append → yy, length_map → yaa, replicate → yac, getElem?_eq_getElem → yad, take_length → yag, length_cons → yao, append_nil → yas, getElem?_append_right → yat, map_append → yau, mem_singleton → ybc, length_drop → ybf, getElem?_eq_none → ybi, take_append_drop → ybl, eq_nil_of_length_eq_zero → ybn, take_of_length_le → ybr, mem_map → ycb, length_nil → yck, getElem_of_mem → ycl, drop_length → ycm, mem_append → ycp
open Nat renaming le_refl → yl, mod_eq_of_lt → yap, beq → yar, zero_add → yay, le_trans → ybj, mul_le_mul_right → ybp, mul_comm → ybt, two_pow_add_eq_or_of_lt → ydc
open Option renaming bind_some → ya
open UInt64 renaming ofNat → yai, toNat_ofNat' → yax, toNat_lt → ybu, lt_iff_toNat_lt → yca, toNat_inj → yct, le_iff_toNat_le → ycu
open UInt8 renaming ofNat → yav
set_option linter.unusedVariables false
set_option linter.unusedSimpArgs false
section
set_option maxRecDepth 4000
namespace Go.Proofs.YtghfiijgklnflaaGreat
open Go Go.Ev
noncomputable section
def Xy(F:Nat)(a0:Int)(a1:Int)(a2:(yL Corsnedlaw42Act))(a3:(yL yB)):yO (Bool):=
 ((some true)).bind λo690=>
 (Q0 F a2).bind λo691=>
 (Zgv F a0 a1).bind λo692=>
 match o692 with
 |.inl o693=>
  (WH F a0 a1).bind λo694=>
  match o694 with
  |.inl o695=>
   if(!o691)=true then
    if o690=true then
     if(!o691)=true then
      some true
     else
     some true
    else
    some false
   else
   if o690=true then
    if(!o691)=true then
     some true
    else
    some true
   else
   some false
  |.inr o696=>
   if(!o691)=true then
    if o690=true then
     if(!o691)=true then
      some true
     else
     some false
    else
    some false
   else
   if o690=true then
    if(!o691)=true then
     some true
    else
    some false
   else
   some false
 |.inr o697=>
  (WH F a0 a1).bind λo698=>
  match o698 with
  |.inl o699=>
   if(!o691)=true then
    if o690=true then
     if(!o691)=true then
      some true
     else
     some false
    else
    some false
   else
   if o690=true then
    if(!o691)=true then
     some true
    else
    some false
   else
   some false
  |.inr o700=>
   if(!o691)=true then
    if o690=true then
     if(!o691)=true then
      some true
     else
     some false
    else
    some false
   else
   (ZbN F a3).bind λo701=>
   (Vf F a3).bind λo702=>
   if(!(decide (o701=o702)))=true then
    some false
   else
   (ZdO F a3).bind λo703=>
   (VF F a3).bind λo704=>
   if(!(decide (o703=o704)))=true then
    some false
   else
   (Zf (ZL F) F (a2,o690,0,a3,o697.1,o697.2.1,true,o697.2.2,o700.1,o700.2.1,o700.2.2,[],[],[],[])).bind λo932=>
   match o932 with
   |.inl (a,_,_,_,_,_,_,_,_,_,_,_,_)=>
    some a
   |.inr (a,_,_,_,_,_,_,_,_,_,_,_,_)=>
    some a
def Zhm:Fs Tryz.prog:=⟨3,[.v yI,.v yI,.v (.sl ZT),.v (.arr 32 .u8)],[],[yI,yI,(.sl ZT),(.arr 32 .u8)],(zZ .bool),λx=>Xy yD x.1 x.2.1 x.2.2.1 x.2.2.2⟩
theorem Zg4:Zhm.Ok:=ZiA (fi:={ hi:=ZLu,lp:=[(0,ZaO)],gh:=[(9,.rowt 11 [2] Zd 36),(12,.rowt 12 [2] Zd 36)]}) (specs:={ l:=[ZIO,ZgI,Zqa,ZgJ,ZfP,Za8,ZhO,Zbx]}) (okS ⟨ZKj,Zmt,ZwO,Zmu,Zd6,ZeA,ZfQ,Zfn,ytt⟩) ⟨ZeY,ytt⟩
end
end Go.Proofs.YtghfiijgklnflaaGreat
end
section
set_option maxRecDepth 4000
namespace Go.Proofs.YtghfiijgklnflaaGreat
open Go Go.Ev
theorem ZGt{m:Nat}(hm:0 < m):∀(f a n o:Nat),o < m->pwm m f a n o < m
 |0,_,_,o,h=>h
 |f+1,a,n,o,h=>by
  rw[pwm];split
  ·exact h
  ·refine ZGt hm f _ _ _ ?_;split
   ·exact Nat.mod_lt _ hm
   ·exact h
theorem ZGu{m:Nat}(hm:1 < m)(k a n:Nat)(h:n < 2 ^ k):pwm m k a n 1=a ^ n % m:=by
 rw[<-yap (ZGt (by omega) k a n 1 hm),ZCl k a n 1 h,Nat.one_mul]
instance(a:Nat):Decidable (Zkt a):=by unfold Zkt;infer_instance
theorem ZKn{z:Nat}(h:z < mdl):z < 18446744073709551616:=Nat.lt_trans h (by decide)
theorem ZKo{z:Nat}(h:z < mdl):(yai z).toNat=z:=by
 rw[yax,yap (ZKn h)]
theorem ZCq(z:Nat):z % mdl < mdl:=Nat.mod_lt _ (by decide)
theorem ZGv(a n:yU):Zcr yD a n=some (yai (a.toNat ^ n.toNat % mdl)):=by
 unfold Zcr;rw[ZGu (by decide) 64 a.toNat n.toNat (ybu n)];rfl
theorem ZDJ{a n:yU}(h:a.toNat < mdl):Wb yD a n=some (yai (a.toNat ^ n.toNat % mdl)):=by
 unfold Wb;rw[yW (yY (show a.toNat < 4611686018427377339 from h)),ZGu (by decide) 64 a.toNat n.toNat (ybu n)]
 rfl
theorem ZGw{z:Nat}(h:z < mdl):(yai z==1)=decide (z=1):=by
 rw[Bool.eq_iff_iff,yT,yN, <-yct,ZKo h];rfl
theorem ZGx(p:yU):Zcs yD p=some (decide (Zkt p.toNat)):=by
 unfold Zcs;by_cases h1:0 < p.toNat
 ·rw[yW (yY (show p > 0 from yca.2 h1))]
  by_cases h2:p.toNat < mdl
  ·rw[yW (yY (show p < 4611686018427377339 from yca.2 h2)),ZGv,ya,ZGw (ZCq _)]
   congr 1;rw[decide_eq_decide];exact⟨λh=>⟨h1,h2,h⟩,λh=>h.2.2⟩
  ·rw[yX (by rw[yN];exact λh=>h2 (yca.1 h)),yZ (λh=>h2 h.2.1)]
 ·rw[yX (by rw[yN];exact λh=>h1 (yca.1 h)),yZ (λh=>h1 h.1)]
theorem Zvn(p:yU):WN yD p=some (decide (Zkt p.toNat)):=by
 unfold WN;by_cases h1:0 < p.toNat
 ·rw[yW (yY (show p >= 1 from ycu.2 h1))]
  by_cases h2:p.toNat < mdl
  ·rw[yW (yY (show p < 4611686018427377339 from yca.2 h2)),ZDJ h2,ya,ZGw (ZCq _)]
   congr 1;rw[decide_eq_decide];exact⟨λh=>⟨h1,h2,h⟩,λh=>h.2.2⟩
  ·rw[yX (by rw[yN];exact λh=>h2 (yca.1 h)),yZ (λh=>h2 h.2.1)]
 ·rw[yX (by rw[yN];exact λh=>h1 (ycu.1 h)),yZ (λh=>h1 h.1)]
theorem Zvo{ls:yL (yL yB)}(h:ls.flatten.length<=1000000000)(hn:ls.length<=1000):Xt yD ls=some ls.flatten:=by
 unfold Xt
 rw[show(ls,(0:Int),ls,(ls.length:Int),(0:Int))=(λk:Nat=>(ls,((ls.take k).flatten.length:Int),ls,(ls.length:Int),(k:Int))) 0 from rfl,
  ZC (x:=(ls,(ls.flatten.length:Int))) ls.length (λk:Nat=>(ls,((ls.take k).flatten.length:Int),ls,(ls.length:Int),(k:Int))) ?_ ?_ (by omega),ya]
 ·have hg:Zsy (ls.flatten.length:Int)=some []:=by
   unfold Zsy;rw[yW];rw[yi];exact⟨yY (by omega),yY (by unfold bytesBound;omega)⟩
  dsimp only
  rw[hg,ya,show(ls,(ls.length:Int),(0:Int),([]:yL yB))=(λk:Nat=>(ls,(ls.length:Int),(k:Int),(ls.take k).flatten)) 0 from rfl,
   ZC (x:=ls.flatten) ls.length (λk:Nat=>(ls,(ls.length:Int),(k:Int),(ls.take k).flatten)) ?_ ?_ (by omega),ya]
  ·intro k hk;obtain⟨e,he,_⟩:=Zh hk;have hf:=Zvl he;have hl:=ZCo ls (k+1);rw[hf,yj] at hl;unfold XT;dsimp only;rw[yW (ZD hk),Zs he,ya,yW (ZF (by omega) (by omega)),Zj (by omega),hf]
  ·unfold XT;dsimp only;rw[yX (by rw[Zx];decide),yag]
 ·intro k hk;obtain⟨e,he,_⟩:=Zh hk;have hf:=Zvl he;have hl:=ZCo ls (k+1);rw[hf,yj] at hl;unfold XS;dsimp only;rw[yW (ZD hk),Zs he,ya,Yj (z:=((ls.take k).flatten.length:Int)+(e.length:Int)) (by omega) (by omega),yX (ynd (by omega)),Zj (by omega),hf,yj];rfl
 ·unfold XS;dsimp only;rw[yX (by rw[Zx];decide),yag]
theorem Zw7{a b:yL yB}(h:a.length+b.length<=1000000000):Zbt yD a b=some (a++b):=by
 unfold Zbt;rw[Zvo (by simp;omega) (by simp),ya];simp
def Yu(n:Nat):yL yB:=if h:n < 128 then[yav n] else yav (n % 128+128)::Yu (n / 128)
termination_by n
decreasing_by omega
theorem ZbC{n:Nat}(h:n < 128):Yu n=[yav n]:=by rw[Yu,dif_pos h]
theorem ZlM{n:Nat}(h:¬n < 128):Yu n=yav (n % 128+128)::Yu (n / 128):=by rw[Yu,dif_neg h]
theorem ZCr:∀(j n:Nat),n < 128 ^ (j+1)->(Yu n).length<=j+1
 |0,n,h=>by rw[ZbC (by omega)];exact yl _
 |j+1,n,h=>by
  by_cases h0:n < 128
  ·rw[ZbC h0,List.length_singleton];omega
  ·rw[ZlM h0];have:=ZCr j (n / 128) (by rw[Nat.pow_succ] at h;omega);simp only[yao];omega
theorem Zz{n:Nat}(h:n<=9223372036854775807):(Yu n).length<=9:=ZCr 8 n (by omega)
theorem ZIo(n:Nat):Yu n≠[]:=by
 rw[Yu];split <;> simp
theorem ZGy{n:Nat}(h:n<=9223372036854775807):ZiH yD (n:Int)=some (Yu n):=by
 unfold ZiH;refine Exists.elim (Qa (step:=ZfS yD) (λs=>∃m:Nat,s.1=(m:Int)/\m<=n/\s.2++Yu m=Yu n) (λs=>s.1.toNat) (λx=>∃m:Nat,x.1=(m:Int)/\m < 128/\x.2++Yu m=Yu n) ?_ ((n:Int),([]:yL yB)) ⟨n,rfl,yl _,rfl⟩ (by dsimp only;omega)) ?_
 ·rintro⟨_,o⟩ ⟨m,rfl,hm,ho⟩;unfold ZfS;dsimp only at ho ⊢;have hr:=congrArg List.length ho;have hl:=Zz h;rw[yj] at hr;by_cases h1:m < 128
  ·right;rw[yX (ynd (by omega))];exact⟨_,rfl,m,rfl,h1,ho⟩
  ·left;rw[yW (yY (by omega)),yW (ZF (by omega) (by omega))];have e1:Int.tmod (m:Int) 128=((m % 128:Nat):Int):=rfl;have e2:Int.tdiv (m:Int) 128=((m / 128:Nat):Int):=rfl;rw[e1,e2,Yj (z:=((m % 128:Nat):Int)+128) (by omega) (by omega),Yj (z:=((m / 128:Nat):Int)) (by omega) (by omega)];refine⟨_,rfl,⟨m / 128,rfl,by omega, ?_⟩,by dsimp only;omega⟩;dsimp only;rw[<-ho,ZlM h1,yx];congr 1;rw[List.singleton_append];congr 1;unfold w8;congr 1;omega
 ·rintro⟨_,o⟩ ⟨h1,m,rfl,h2,h3⟩;dsimp only at h3 ⊢;have hr:=congrArg List.length h3;have hl:=Zz h;rw[yj] at hr;rw[h1,ya];dsimp only;rw[yW (ZF (by omega) (by omega)), <-h3,ZbC h2];congr 3;unfold w8;congr 1;omega
theorem Zj5{b:yL yB}{z:Int}(h0:0<=z)(h:z<=9223372036854775807)(hb:b.length<=1000000):WG yD b z=some (b++Yu z.toNat):=by
 obtain⟨n,rfl⟩:=Int.eq_ofNat_of_zero_le h0;have:=Zz (n:=n) (by omega);unfold WG;rw[yX (ynd (by omega)),ZGy (by omega),ya,Zw7 (by omega),ya,yaj]
theorem ZAW{b h:yL yB}(hb:b.length<=1000000)(hh:h.length<=1000000):Zd8 yD b h=some (b++h):=by
 unfold Zd8;rw[Zw7 (by omega),ya]
theorem Zy6{b c:yL yB}(hb:b.length<=1000000)(hc:c.length<=1000000):Zcu yD b c=some (b++(Yu c.length++c)):=by
 have:=Zz (n:=c.length) (by omega);unfold Zcu;rw[ZGy (by omega),ya,Zvo (by simp;omega) (by simp),ya];simp
def ZeZ(l:yL yB)(n k:Nat):yL yB:=l.take k++yac (n - k) 0
theorem Zmi{l:yL yB}{n k:Nat}(h:k < l.length)(h2:l.length<=n):(ZeZ l n k)[k]? =some 0:=by
 unfold ZeZ;have h3:(l.take k).length=k:=by simp;omega
 rw[yat (by omega),h3,List.getElem?_replicate];simp;omega
theorem Zmj{l:yL yB}{n k:Nat}{d:yB}(hx:l[k]? =some d)(h2:l.length<=n):(ZeZ l n k).set k d=ZeZ l n (k+1):=by
 have h:k < l.length:=(yo.1 hx).1;have h3:(l.take k).length=k:=by simp;omega
 unfold ZeZ;rw[YW hx,List.set_append_right _ _ (by omega),h3,Nat.sub_self];have e:n - k=(n - (k+1))+1:=by omega
 rw[e,List.replicate_succ];simp
theorem ZpC{l:yL yB}{n:Nat}(h:l.length=n):ZeZ l n n=l:=by
 unfold ZeZ;rw[<-h];simp
def QU(n:Nat):yL yB:=(List.range 8).map λi=>yav (n / 2 ^ (56 - 8*i))
theorem ZU(n:Nat):(QU n).length=8:=by simp[QU]
theorem Zjb(n:Nat){k:Nat}(hk:k < 8):(QU n)[k]? =some (yav (n / 2 ^ (56 - 8*k))):=by simp[QU,hk]
theorem ZoM(x:yU){m:Nat}:w8 ((ZI x m).toNat:Int)=yav (x.toNat / 2 ^ m):=by
 unfold w8 ZI;have h:x.toNat / 2 ^ m < 18446744073709551616:=Nat.lt_of_le_of_lt (Nat.div_le_self ..) (ybu _);rw[yax,yap h];apply UInt8.toNat_inj.1;rw[UInt8.toNat_ofNat',UInt8.toNat_ofNat'];omega
theorem Zvp{b:yL yB}(x:yU)(hb:b.length<=1000000):VD yD b x=some (b++QU x.toNat):=by
 unfold VD
 rw[show(b,x,(0:Int),([0,0,0,0,0,0,0,0]:yL yB))=(λk:Nat=>(b,x,(k:Int),ZeZ (QU x.toNat) 8 k)) 0 from rfl,
  ZC (x:=(b,QU x.toNat)) 8 (λk:Nat=>(b,x,(k:Int),ZeZ (QU x.toNat) 8 k)) ?_ ?_ (by omega),ya]
 ·dsimp only;rw[Zw7 (by rw[ZU];omega),ya]
 ·intro k hk;unfold Zbl;dsimp only;have hl:=ZU x.toNat
  rw[yW (yY (by omega)),Yj (z:=8*(k:Int)) (by omega) (by omega),Yj (z:=56 - 8*(k:Int)) (by omega) (by omega),yW (yY (by omega)),yW (Xr (by omega) (by omega)),
   yaj,Zmi (by omega) (by omega),ya,Zj (by omega)]
  have e:min (56 - 8*(k:Int)).toNat 64=56 - 8*k:=by omega
  rw[e,ZoM,Zmj (Zjb _ hk) (by omega)]
 ·unfold Zbl;dsimp only;rw[yX (by simp),ZpC (ZU _)]
def Zw8(b:ZH):Prop:=b.1.length<=12/\0<=b.2.1/\b.2.1<=1048576/\0<=b.2.2.1/\b.2.2.1<=1048576
def Zw9(b:ZH):Prop:=(∀p,p∈b.1->Zkt p.toNat)/\(b.2.2.2≠0->Zkt b.2.2.2.toNat)
def Vm(l:Z8):Prop:=0 < l.length/\l.length<=4/\∀b,b∈l->Zw8 b
def QV(l:Z8):Prop:=∀b,b∈l->Zw9 b
theorem ZAX(p:yU):QQ yD p=some (!decide (Zkt p.toNat)):=by
 unfold QQ;rw[ZGx,ya]
theorem ZGz{p:yU}(h:Zkt p.toNat):QQ yD p=some false:=by rw[ZAX,yY h];rfl
theorem ZLv{l:yL yU}(hl:l.length<=12)(h:∀p,p∈l->Zkt p.toNat):Qc yD l=some false:=by
 unfold Qc Zct
 rw[show(l,(l.length:Int),(0:Int))=(λk:Nat=>(l,(l.length:Int),(k:Int))) 0 from rfl,
  ZC (x:=.inr ()) l.length (λk:Nat=>(l,(l.length:Int),(k:Int))) ?_ ?_ (by omega),ya]
 ·rfl
 ·intro k hk;obtain⟨e,he,hm⟩:=Zh hk;unfold XW;dsimp only;rw[yW (ZD hk),Zs he,ya,ZGz (h e hm),ya,Zj (by omega)];rfl
 ·unfold XW;dsimp only;rw[yX (by rw[Zx];decide)]
theorem Zvq{z:Int}(h0:0<=z)(h1:z<=1048576):Qt yD z=some true:=by
 unfold Qt;rw[yW (yY h0),yY h1]
theorem Zny{l:Z8}(h:Vm l)(hp:QV l):VC yD l=some true:=by
 unfold VC;obtain⟨h0,h1,h2⟩:=h
 rw[show(l,(l.length:Int),(0:Int),l)=(λk:Nat=>(l,(l.length:Int),(k:Int),l)) 0 from rfl,
  ZC (x:=.inr l) l.length (λk:Nat=>(l,(l.length:Int),(k:Int),l)) ?_ ?_ (by omega),ya]
 ·dsimp only;rw[yW (yY (by omega)),yY (by omega)]
 ·intro k hk;obtain⟨e,he,hm⟩:=Zh hk;obtain⟨e1,e2,e3,e4,e5⟩:=h2 e hm;obtain⟨p1,p2⟩:=hp e hm;unfold Vd;dsimp only;rw[yW (ZD hk),Zs he,ya,yX (ynd (by omega)),ZLv e1 p1,ya,Zvq e2 e3,ya,Zvq e4 e5,ya,Zj (by omega),yX (by decide),yX (by decide),yX (by decide)];by_cases hz:e.2.2.2=0
  ·rw[yX (by simp[hz])]
  ·rw[yW (by simp[hz]),ZGz (p2 hz),ya,yX (by decide)]
 ·unfold Vd;dsimp only;rw[yX (by rw[Zx];decide)]
def TxWf(t:Tx):Prop:=(∀x,x∈t.1->x.1.1.length=32)/\t.2.2<=9223372036854775807
def Zy7(x:In):Prop:=0<=x.1.2/\x.1.2 < 64/\0<=x.2.1/\x.2.1 < 4/\x.2.2.1.length<=12
def ZCs(o:Out):Prop:=0<=o.1/\o.1<=1125899906842624/\Vm o.2/\QV o.2
def ZAY(t:Tx):Prop:=0 < t.1.length/\t.1.length<=64/\t.2.1.length<=64/\0<=t.2.2/\(∀x,x∈t.1->Zy7 x)/\∀o,o∈t.2.1->ZCs o
def cat{α:Type}(f:α->yL yB)(l:yL α):yL yB:=(l.map f).flatten
theorem QM{α:Type}{f:α->yL yB}{l:yL α}{k:Nat}{e:α}(h:l[k]? =some e):cat f (l.take (k+1))=cat f (l.take k)++f e:=by
 unfold cat
 rw[YW h,yau,List.flatten_append];simp
theorem Ztj{α:Type}{f:α->yL yB}{l:yL α}{e:α}:cat f (e::l)=f e++cat f l:=rfl
theorem Zxa{α:Type}{f:α->yL yB}{c:Nat}:∀{l:yL α},(∀x,x∈l->(f x).length<=c)->(cat f l).length<=l.length*c
 |[],_=>by simp[cat]
 |e::l,h=>by
  have h1:=h e (List.mem_cons_self ..);have h2:=Zxa (l:=l) λx hx=>h x (List.mem_cons_of_mem _ hx);rw[Ztj,yj,yao,Nat.succ_mul];omega
theorem VT{α:Type}{f:α->yL yB}{c n:Nat}{l:yL α}(h:∀x,x∈l->(f x).length<=c)(hn:l.length<=n)(k:Nat):(cat f (l.take k)).length<=n*c:=by
 refine ybj (Zxa λx hx=>h x (List.mem_of_mem_take hx)) (ybp c ?_);rw[yv];omega
def Ziq(p:yU):yL yB:=QU p.toNat
def brF(b:ZH):yL yB:=Yu b.1.length++(cat Ziq b.1++(Yu b.2.1.toNat++(Yu b.2.2.1.toNat++QU b.2.2.2.toNat)))
def Qj(l:Z8):yL yB:=Yu l.length++cat brF l
theorem ZlN{l:yL yU}(h:l.length<=12)(k:Nat):(cat Ziq (l.take k)).length<=96:=VT (c:=8) (λx _=>Nat.le_of_eq (ZU _)) h k
theorem ZoN{b:ZH}(h:b.1.length<=12/\0<=b.2.1/\b.2.1<=1048576/\0<=b.2.2.1/\b.2.2.1<=1048576):(brF b).length<=131:=by
 have h1:=ZlN h.1 b.1.length;rw[yag] at h1;have h2:=Zz (n:=b.1.length) (by omega);have h3:=Zz (n:=b.2.1.toNat) (by omega);have h4:=Zz (n:=b.2.2.1.toNat) (by omega);have h5:=ZU b.2.2.2.toNat
 unfold brF;simp only[yj];omega
theorem Zb1{l:Z8}(h:Vm l):(Qj l).length<=533:=by
 have h1:=VT (f:=brF) (c:=131) (λx hx=>ZoN (h.2.2 x hx)) h.2.1 l.length;rw[yag] at h1;have h2:=Zz (n:=l.length) (by have:=h.2.1;omega);unfold Qj;rw[yj];omega
theorem ZDK{c:yL yB}(hc:c.length<=100000){bs:yL ZH}{n i:Int}{ks:yL yU}{l:Z8}{e:ZH}(hk:ks.length<=12):
 Zf (Zat yD) yD (c,bs,n,i,ks,(ks.length:Int),(0:Int),l,e)=some (c++cat Ziq ks,bs,n,i,l,e):=by
 rw[show(c,bs,n,i,ks,(ks.length:Int),(0:Int),l,e)=(λk:Nat=>(c++cat Ziq (ks.take k),bs,n,i,ks,(ks.length:Int),(k:Int),l,e)) 0 by simp[cat]];refine ZC ks.length (λk:Nat=>(c++cat Ziq (ks.take k),bs,n,i,ks,(ks.length:Int),(k:Int),l,e)) ?_ ?_ (by omega)
 ·intro k hk2;obtain⟨e,he,_⟩:=Zh hk2;have hl:=ZlN hk k;unfold Zat
  dsimp only;rw[yW (ZD hk2),Zs he,ya,Zvp _ (by rw[yj];omega),ya,Zj (by omega),QM he,yx];rfl
 ·unfold Zat
  dsimp only;rw[yX (by rw[Zx];decide),yag]
theorem Znz{l:Z8}(h:Vm l)(hp:QV l):Zes yD l=some (Qj l):=by
 unfold Zes;have h0:=h.2.1;have h9:=Zz (n:=l.length) (by omega);rw[Zny h hp,ya,yX (by decide),Zj5 (by omega) (by omega) (by simp),ya,yy,yaj]
 rw[show(Yu l.length,l,(l.length:Int),(0:Int),l)=(λk:Nat=>(Yu l.length++cat brF (l.take k),l,(l.length:Int),(k:Int),l)) 0 by simp[cat],
  ZC (x:=(Qj l,l)) l.length (λk:Nat=>(Yu l.length++cat brF (l.take k),l,(l.length:Int),(k:Int),l)) ?_ ?_ (by omega),ya]
 ·intro k hk;obtain⟨e,he,hm⟩:=Zh hk;obtain⟨e1,e2,e3,e4,e5⟩:=h.2.2 e hm;have hl:=VT (f:=brF) (c:=131) (λx hx=>ZoN (h.2.2 x hx)) h.2.1 k;have hr:=Zz (n:=e.1.length) (by omega);have hr2:=Zz (n:=e.2.1.toNat) (by omega);have hr3:=Zz (n:=e.2.2.1.toNat) (by omega);have hk8:=ZlN e1 e.1.length;rw[yag] at hk8;unfold Zcw;dsimp only
  rw[yW (ZD hk),Zs he,ya,Zj5 (by omega) (by omega) (by rw[yj];omega),ya,yaj,
   ZDK (by simp only[yj];omega) e1,ya]
  dsimp only
  rw[Zj5 e2 (by omega) (by simp only[yj];omega),ya,Zj5 e4 (by omega) (by simp only[yj];omega),ya,
   Zvp _ (by simp only[yj];omega),ya,Zj (by omega),QM he]
  unfold brF;simp only[yx]
 ·unfold Zcw;dsimp only;rw[yX (by rw[Zx];decide),yag];rfl
def inF(x:In):yL yB:=x.1.1++Yu x.1.2.toNat
def ZbD(o:Out):yL yB:=Yu o.1.toNat++(Yu (Qj o.2).length++Qj o.2)
def ZdT(t:Tx):yL yB:=Yu t.1.length++(cat inF t.1++(Yu t.2.1.length++(cat ZbD t.2.1++Yu t.2.2.toNat)))
def ZcU(s:Sig):yL yB:=QU s.1.toNat++QU s.2.toNat
def Zb3(x:In):yL yB:=Yu x.2.1.toNat++(Yu x.2.2.1.length++(cat ZcU x.2.2.1++QU x.2.2.2.toNat))
def txF(t:Tx):yL yB:=ZdT t++cat Zb3 t.1
theorem Zmk{x:In}(h:x.1.1.length=32)(k:Zy7 x):(inF x).length<=41:=by
 have:=Zz (n:=x.1.2.toNat) (by have:=k.2.1;omega);unfold inF;rw[yj];omega
theorem Zjc{o:Out}(k:ZCs o):(ZbD o).length<=551:=by
 have h1:=Zb1 k.2.2.1;have h2:=Zz (n:=o.1.toNat) (by have:=k.2.1;omega);have h3:=Zz (n:=(Qj o.2).length) (by omega);unfold ZbD;simp only[yj];omega
theorem Ztk{l:yL Sig}(h:l.length<=12)(k:Nat):(cat ZcU (l.take k)).length<=192:=VT (c:=16) (λx _=>by unfold ZcU;rw[yj,ZU,ZU];exact yl _) h k
theorem ZlO{x:In}(k:Zy7 x):(Zb3 x).length<=218:=by
 obtain⟨_,_,k1,k2,k3⟩:=k;have h1:=Ztk k3 x.2.2.1.length;rw[yag] at h1;have h2:=Zz (n:=x.2.1.toNat) (by omega);have h3:=Zz (n:=x.2.2.1.length) (by omega);have h5:=ZU x.2.2.2.toNat
 unfold Zb3;simp only[yj];omega
theorem Ztl{t:Tx}(hw:TxWf t)(h:ZAY t):ZiI yD t=some (ZdT t)/\(ZdT t).length<=40000:=by
 obtain⟨ins,outs,note⟩:=t;obtain⟨w2,w3⟩:=hw;obtain⟨h1,h2,h3,h4,h5,h6⟩:=h;dsimp only at w2 w3 h1 h2 h3 h4 h5 h6;have li:=λk=>VT (f:=inF) (c:=41) (λx hx=>Zmk (w2 x hx) (h5 x hx)) h2 k;have lo:=λk=>VT (f:=ZbD) (c:=551) (λx hx=>Zjc (h6 x hx)) h3 k;have li1:=li ins.length;have lo1:=lo outs.length;rw[yag] at li1 lo1;have r1:=Zz (n:=ins.length) (by omega);have r2:=Zz (n:=outs.length) (by omega);have r3:=Zz (n:=note.toNat) (by omega);refine⟨?_,by unfold ZdT;simp only[yj];omega⟩;unfold ZiI;dsimp only;rw[Zj5 (by omega) (by omega) (by simp),ya,yy,yaj]
 rw[show(Yu ins.length,ins,(ins.length:Int),(0:Int),(ins,outs,note))=(λk:Nat=>(Yu ins.length++cat inF (ins.take k),ins,(ins.length:Int),(k:Int),(ins,outs,note))) 0 by simp[cat],
  ZC (x:=(Yu ins.length++cat inF ins,(ins,outs,note))) ins.length (λk:Nat=>(Yu ins.length++cat inF (ins.take k),ins,(ins.length:Int),(k:Int),(ins,outs,note))) ?_ ?_ (by omega),ya]
 ·dsimp only;rw[Zj5 (by omega) (by omega) (by rw[yj];omega),ya,yaj];generalize hp:Yu ins.length++cat inF ins++Yu outs.length=pre;have hpl:pre.length<=3000:=by rw[<-hp];simp only[yj];omega
  rw[show(pre,outs,(outs.length:Int),(0:Int),(ins,outs,note))=(λk:Nat=>(pre++cat ZbD (outs.take k),outs,(outs.length:Int),(k:Int),(ins,outs,note))) 0 by simp[cat],
   ZC (x:=(pre++cat ZbD outs,(ins,outs,note))) outs.length (λk:Nat=>(pre++cat ZbD (outs.take k),outs,(outs.length:Int),(k:Int),(ins,outs,note))) ?_ ?_ (by omega),ya]
  ·dsimp only;rw[Zj5 h4 w3 (by rw[yj];omega),ya, <-hp];unfold ZdT;simp only[yx]
  ·intro k hk;obtain⟨e,he,hm⟩:=Zh hk;have hlk:=lo k;have hok:=h6 e hm;have hlo:=hok.2.2.1;have hll:=Zb1 hlo;have hrl:=Zz (n:=e.1.toNat) (by have:=hok.2.1;omega);unfold ZfU;dsimp only
   rw[yW (ZD hk),Zs he,ya,Zj5 hok.1 (by have:=hok.2.1;omega) (by rw[yj];omega),ya,Znz hok.2.2.1 hok.2.2.2,ya,
    Zy6 (by simp only[yj];omega) (by omega),ya,Zj (by omega),QM he]
   unfold ZbD;simp only[yx]
  ·unfold ZfU;dsimp only;rw[yX (by rw[Zx];decide),yag]
 ·intro k hk;obtain⟨e,he,hm⟩:=Zh hk;have hlk:=li k;have h32:=w2 e hm;have hok:=h5 e hm;unfold ZfT;dsimp only
  rw[yW (ZD hk),Zs he,ya,ZAW (by rw[yj];omega) (by omega),ya,Zj5 hok.1 (by have:=hok.2.1;omega) (by simp only[yj];omega),ya,
   Zj (by omega),QM he]
  unfold inF;simp only[yx]
 ·unfold ZfT;dsimp only;rw[yX (by rw[Zx];decide),yag]
def Zff(l:yL Out):Int:=(l.map (·.1)).sum
theorem Zjd{l:yL Out}{k:Nat}{e:Out}(h:l[k]? =some e):Zff (l.take (k+1))=Zff (l.take k)+e.1:=by
 unfold Zff;rw[YW h,yau,List.sum_append];simp
theorem ZGA:∀{l:yL Int},(∀x,x∈l->0<=x)->0<=l.sum
 |[],_=>by simp
 |x::r,h=>by
  have:=ZGA (l:=r) λy hy=>h y (List.mem_cons_of_mem _ hy);have:=h x (List.mem_cons_self ..);rw[List.sum_cons];omega
def z32:yL yB:=yzz
theorem Q9(n:Nat):(Ze9 n).length=8:=rfl
theorem ZGB(n:yU):Qu yD n=some (Ze9 n.toNat):=by
 unfold Qu
 have e:=ZC (step:=Xl yD) 8 (λk:Nat=>(n,56 - 8*(k:Int),(Ze9 n.toNat).take k)) (x:=Ze9 n.toNat) (by
  intro k hk;have hb:(Ze9 n.toNat)[k]? =_:=ZAT n hk;have hl:((Ze9 n.toNat).take k).length<=8:=by rw[yv];exact ybj (Nat.min_le_right _ _) (yl _)
  unfold Xl;dsimp only;have q1:min (56 - 8*(k:Int)).toNat 64=56 - 8*k:=by omega
  rw[yW (yY (by omega)),yW (yY (by omega)),yW (ZF (by omega) (by omega)),Yj (z:=56 - 8*(k:Int) - 8) (by omega) (by omega),q1,show 56 - 8*(k:Int) - 8=56 - 8*((k+1:Nat):Int) by omega,List.take_add_one,hb];rfl) (by
  unfold Xl;dsimp only;rw[yX (ynd (by omega))];rfl) (by omega)
 have e:Zf (Xl yD) yD (n,(56:Int),([]:yL yB))=_:=e;rw[e,ya]
theorem ZDL(n:yU):Vn yD n=some (Ze9 n.toNat):=by
 unfold Vn
 have e:=ZC (step:=YI yD) 8 (λk:Nat=>(n,56 - 8*(k:Int),([]:yL yB),(Ze9 n.toNat).take k)) (x:=(([]:yL yB),Ze9 n.toNat)) (by
  intro k hk;have hb:(Ze9 n.toNat)[k]? =_:=ZAT n hk;have hl:((Ze9 n.toNat).take k).length<=8:=by rw[yv];exact ybj (Nat.min_le_right _ _) (yl _)
  unfold YI;dsimp only;have q1:min (56 - 8*(k:Int)).toNat 64=56 - 8*k:=by omega
  rw[yW (yY (by omega)),yW (yY (by omega)),yW (ZF (by omega) (by omega)),Yj (z:=56 - 8*(k:Int) - 8) (by omega) (by omega),q1,show 56 - 8*(k:Int) - 8=56 - 8*((k+1:Nat):Int) by omega,List.take_add_one,hb];rfl) (by
  unfold YI;dsimp only;rw[yX (ynd (by omega))];rfl) (by omega)
 have e:Zf (YI yD) yD (n,(56:Int),([]:yL yB),([]:yL yB))=_:=e;rw[e,ya]
def tgF(l:yL yB):yL yB:=Ze9 l.length++l
def Zj6(s:ByteArray)(ls:yL (yL yB)):yL yB:=Ze9 s.size++Zju s++cat tgF ls
theorem Zy8(s:ByteArray):(Zju s).length=s.size:=by
 unfold Zju;rw[Array.length_toList];rfl
theorem Zrd{ls:yL (yL yB)}(h2:ls.length<=10)(h3:∀l,l∈ls->l.length<=60000)(k:Nat):(cat tgF (ls.take k)).length<=10*60008:=
 VT (c:=60008) (λl hl=>by have:=h3 l hl;unfold tgF;rw[yj,Q9];omega) h2 k
theorem ZnA{s:ByteArray}{ls:yL (yL yB)}(h1:s.size<=100)(h2:ls.length<=10)(h3:∀l,l∈ls->l.length<=60000):QP yD s ls=some (Sha.sha (Zj6 s ls)):=by
 unfold QP;have hs:=Zy8 s;have p1:VW yD (s.size:Int) []=some (Ze9 s.size):=ZwT (b:=[]) (by simp);rw[p1,ya,yW (ZF (by rw[hs,Q9];omega) (by rw[hs,Q9];omega))]
 have e:=ZC (step:=ZaV yD) ls.length (λk:Nat=>(ls,(ls.length:Int),(k:Int),z32,Ze9 s.size++Zju s++cat tgF (ls.take k))) (x:=(z32,Zj6 s ls)) (by
  intro k hk;obtain⟨e,he,hm⟩:=Zh hk;have:=h3 e hm;have hc:=Zrd h2 h3 k;unfold ZaV;dsimp only;rw[yW (yY (by omega)),Zs he,ya,ZwT (by simp only[yj,Q9,hs];omega),ya,yW (ZF (by simp only[yj,Q9,hs];omega) (by simp only[yj,Q9,hs];omega)),Zj (by omega),QM he];simp only[tgF,yx]) (by
  unfold ZaV;dsimp only;rw[yX (by rw[Zx];decide),yag];rfl) (by omega)
 rw[show cat tgF (ls.take 0)=[] from rfl,yas] at e
 have e:Zf (ZaV yD) yD (ls,(ls.length:Int),(0:Int),yzz,Ze9 s.size++Zju s)=_:=e;have hc:=Zrd h2 h3 ls.length;rw[yag] at hc;rw[e,ya,ZCh (by show(Zj6 s ls).length<=_;unfold Zj6;simp only[yj,Q9,hs];omega),ya]
theorem Zj7{s:ByteArray}{ls:yL (yL yB)}(h1:s.size<=100)(h2:ls.length<=10)(h3:∀l,l∈ls->l.length<=60000):YA yD s ls=some (Sha.sha (Zj6 s ls)):=by
 unfold YA;have hs:=Zy8 s
 have w:∀n:Nat,n<=1000000->(w64 (n:Int)).toNat=n:=λn hn=>by
  unfold w64;rw[yax];omega
 have hs':s.data.toList.length=s.size:=hs;rw[ZDL,ya,w _ (by omega),yW (yY (by unfold maxLen;omega)),yW (ZF (by rw[hs',Q9];omega) (by rw[hs',Q9];omega))]
 have e:=ZC (step:=YZ yD) ls.length (λk:Nat=>(ls,(k:Int),z32,Ze9 s.size++Zju s++cat tgF (ls.take k))) (x:=(z32,Zj6 s ls)) (by
  intro k hk;obtain⟨e,he,hm⟩:=Zh hk;have:=h3 e hm;have hc:=Zrd h2 h3 k;unfold YZ;dsimp only;rw[yW (ZD hk),Zs he,ya,ZGB,ya,w _ (by omega),yW (ZF (by simp only[yj,Q9,hs];omega) (by simp only[yj,Q9,hs];omega)),ya,yW (ZF (by simp only[yj,Q9,hs];omega) (by simp only[yj,Q9,hs];omega)),Zj (by omega),QM he];simp only[tgF,yx]) (by
  unfold YZ;dsimp only;rw[yX (by rw[Zx];decide),yag];rfl) (by omega)
 rw[show cat tgF (ls.take 0)=[] from rfl,yas] at e
 have e:Zf (YZ yD) yD (ls,(0:Int),z32,Ze9 s.size++s.data.toList)=_:=e;have hc:=Zrd h2 h3 ls.length;rw[yag] at hc;show(Option.bind (Zf (YZ yD) yD (ls,(0:Int),z32,Ze9 s.size++s.data.toList)) λo85=>(X1 yD o85.2).bind λo86=>some o86)=_;rw[e,ya,Zy0 (by show(Zj6 s ls).length<=_;unfold Zj6;simp only[yj,Q9,hs];omega),ya]
theorem Zxb{n:Nat}(h:n < 256):w8 (n:Int)=yav n:=by
 unfold w8;congr 1;omega
theorem ZKp:∀(k n:Nat),n < 128 ^ (k+1)->n<=9223372036854775807->VK yD (k+1) (n:Int)=some (Yu n):=by
 intro k
 induction k with
 |zero=>
  intro n h h2;have h:n < 128:=by simpa using h
  show WI yD (VK yD 0) (n:Int)=_;unfold WI
  rw[yW (yY (by omega)),ZbC h,Zxb (by omega)]
 |succ k ih=>
  intro n h h2;show WI yD (VK yD (k+1)) (n:Int)=_;unfold WI;by_cases h0:n < 128
  ·rw[yW (yY (by omega)),ZbC h0,Zxb (by omega)]
  ·have hd:n / 128 < 128 ^ (k+1):=by
    rw[Nat.div_lt_iff_lt_mul (by decide)];rw[Nat.pow_succ] at h;exact h
   have e1:wi (Int.tdiv (n:Int) 128)=((n / 128:Nat):Int):=by
    rw[show Int.tdiv (n:Int) 128=((n / 128:Nat):Int) from rfl,Yj (by omega) (by omega)]
   have hl:=Zz (n:=n / 128) (by omega);rw[yX (ynd (by omega)),e1,ih _ hd (by omega),ya,yW (ZF (by omega) (by omega)),ZlM h0]
   have e2:w8 (Int.tmod (n:Int) 128)+128=yav (n % 128+128):=by
    rw[show Int.tmod (n:Int) 128=((n % 128:Nat):Int) from rfl,Zxb (by omega), <-UInt8.toNat_inj,UInt8.toNat_add,UInt8.toNat_ofNat',UInt8.toNat_ofNat']
    show(n % 128 % 256+128) % 256=_;omega
   rw[e2];rfl
theorem ZIp{n:Nat}(h:n<=9223372036854775807):Q1 yD (n:Int)=some (Yu n):=ZKp 11 n (by omega) h
theorem Zbn{b:yL yB}{z:Int}(h0:0<=z)(h:z<=9223372036854775807)(hb:b.length<=1000000):ZQ yD b z=some (b++Yu z.toNat):=by
 obtain⟨n,rfl⟩:=Int.eq_ofNat_of_zero_le h0;have hl:=Zz (n:=n) (by omega);unfold ZQ;rw[yW (ZF (by omega) (by omega)),yW (yY (by omega)),ZIp (by omega),ya,yW (ZF (by omega) (by omega)),yaj]
theorem ZGC{b:yL yB}{z:Int}(h0:0<=z)(h:z<=9223372036854775807)(hb:b.length<=1000000):Zay yD b z=some (b++Yu z.toNat):=Zbn h0 h hb
theorem Zg5{b:yL yB}(x:yU)(hb:b.length<=1000000):YB yD b x=some (b++QU x.toNat):=by
 unfold YB;rw[yW (ZF (by omega) (by omega))]
 have e:=ZC (step:=YT yD) 8 (λk:Nat=>(x,7 - (k:Int),b++(QU x.toNat).take k)) (x:=b++QU x.toNat) (by
  intro k hk;have hl:((QU x.toNat).take k).length<=8:=by rw[yv];omega
  unfold YT;dsimp only
  have q1:(min ((w64 (wi (8*(7 - (k:Int))))).toNat:Int).toNat 64)=56 - 8*k:=by
   rw[Yj (z:=8*(7 - (k:Int))) (by omega) (by omega)]
   have:(w64 (8*(7 - (k:Int)))).toNat=56 - 8*k:=by
    unfold w64;rw[yax];omega
   omega
  rw[yW (yY (by omega)),yW (ZF (by rw[yj];omega) (by rw[yj];omega)),Yj (z:=7 - (k:Int) - 1) (by omega) (by omega),q1,ZoM,show 7 - (k:Int) - 1=7 - ((k+1:Nat):Int) by omega,List.take_add_one,Zjb _ hk,yx];rfl) (by
  unfold YT;dsimp only;rw[yX (ynd (by omega)),ybr (by rw[ZU];exact yl _)]) (by omega)
 have e:Zf (YT yD) yD (x,(7:Int),b++[])=_:=e;rw[yas] at e;rw[e,ya]
theorem Ze0{b h:yL yB}(hb:b.length<=1000000)(hh:h.length=32):Ys yD b h=some (b++h):=by
 unfold Ys;rw[yW (ZF (by omega) (by omega))]
 have e:=ZC (step:=YJ yD) 32 (λk:Nat=>((k:Int),h,b++h.take k)) (x:=(h,b++h)) (by
  intro k hk;obtain⟨e,he,_⟩:=Zh (l:=h) (k:=k) (by omega);have hl:(h.take k).length<=32:=by rw[yv];omega
  unfold YJ;dsimp only;rw[yW (yY (by omega)),yW (Xr (by omega) (by omega)),yaj,he,ya,yW (ZF (by rw[yj];omega) (by rw[yj];omega)),Zj (by omega),List.take_add_one,he,yx];rfl) (by
  unfold YJ;dsimp only;rw[yX (ynd (by omega)),ybr (by omega)]) (by omega)
 have e:Zf (YJ yD) yD ((0:Int),h,b++[])=_:=e;rw[yas] at e;rw[e,ya]
theorem Zxc{b c:yL yB}(hb:b.length<=1000000)(hc:c.length<=1000000):WX yD b c=some (b++(Yu c.length++c)):=by
 unfold WX;have hl:=Zz (n:=c.length) (by omega);rw[ZGC (by omega) (by omega) hb,ya,yaj,yW (ZF (by rw[yj];omega) (by rw[yj];omega)),yx]
abbrev Zo:Type:=yL yB×Bool
def beF(l:yL yB):Nat->Nat
 |0=>0
 |k+1=>beF l k*256+((l[k]?).map UInt8.toNat).getD 0
theorem Zxd(l:yL yB):∀k,beF l k < 256 ^ k
 |0=>by simp[beF]
 |k+1=>by
  have:=Zxd l k
  have h:((l[k]?).map UInt8.toNat).getD 0 < 256:=by
   cases l[k]? with
   |none=>simp
   |some d=>exact d.toNat_lt
  rw[beF,Nat.pow_succ];omega
theorem ZCt(n:Nat):∀k,k<=8->n < 18446744073709551616->beF (QU n) k=n / 2 ^ (64 - 8*k)
 |0,_,h=>by rw[beF,Nat.div_eq_of_lt (by omega)]
 |k+1,hk,h=>by
  rw[beF,ZCt n k (by omega) h,Zjb n (by omega)];have e:(64 - 8*k)=(56 - 8*k)+8:=by omega
  have e2:64 - 8*(k+1)=56 - 8*k:=by omega
  rw[e,e2,Nat.pow_add, <-Nat.div_div_eq_div_mul];simp;omega
def Vv(r:Zo)(n:Nat):yL yB×Zo:=if r.2=true\/r.1.length < n then([],([],true)) else(r.1.take n,(r.1.drop n,r.2))
theorem Zml{n:Nat}{z:Int}(h0:0<=z)(h:z<=(n:Int)):VZ n (some z) none=true:=by simp[VZ,h0,h]
theorem Zmm{n:Nat}{z:Int}(h0:0<=z)(h:z<=(n:Int)):VZ n none (some z)=true:=by simp[VZ,h0,h]
theorem Zy9{l:yL yB}(h:l.length<=1000000000):Yw yD l=some l:=by
 unfold Yw;rw[yW (ZF (by omega) (by omega))]
theorem Zxe{z:Int}{r:Zo}(h0:0<=z)(h:r.1.length<=2000000):WJ yD z r=some (Vv r z.toNat):=by
 obtain⟨b,no⟩:=r;obtain⟨n,rfl⟩:=Int.eq_ofNat_of_zero_le h0;unfold WJ Vv VL;dsimp only at h ⊢;rw[yaj];by_cases h1:no=true
 ·grind
 by_cases h2:b.length < n
 ·grind
 rw[yX h1,yX (ynd (by omega)),yW (Zmm (by omega) (by omega)),Zy9 (by rw[yv];omega),ya,yW (Zml (by omega) (by omega)),yX (by rintro(h|h);exact h1 h;exact h2 h)]
theorem ZdU(r:Zo)(n:Nat):(Vv r n).1.length<=n/\(Vv r n).2.1.length<=r.1.length:=by
 unfold Vv
 all_goals grind
theorem Ztm{b r:yL yB}{n:Nat}(h:b.length=n):Vv (b++r,false) n=(b,(r,false)):=by
 subst h;unfold Vv;grind
def Ze1(r:Zo):yL yB×Zo:=((Vv r 32).1++yac (32 - (Vv r 32).1.length) 0,(Vv r 32).2)
theorem Zvr(r:Zo):(Ze1 r).1.length=32/\(Ze1 r).2.1.length<=r.1.length:=by
 have hl:=ZdU r 32;unfold Ze1;grind
theorem Zza{b r:yL yB}(h:b.length=32):Ze1 (b++r,false)=(b,(r,false)):=by
 unfold Ze1;rw[Ztm h,h];simp
def ZnB(r:Zo):yU×Zo:=(yai (beF (Vv r 8).1 (Vv r 8).1.length),(Vv r 8).2)
theorem ZGD{l:yL yB}{k:Nat}{d:yB}(hk:k < 8)(hx:l[k]? =some d):(Zag (yai (beF l k)) 8)|||(yai d.toNat)=yai (beF l (k+1)):=by
 have h1:=Zxd l k;have h2:256 ^ k<=256 ^ 7:=Nat.pow_le_pow_right (by omega) (by omega);have h3:=d.toNat_lt;apply yct.1;unfold Zag
 rw[UInt64.toNat_or,yax,yax,yax,yax,yap (a:=beF l k) (by omega),yap (a:=d.toNat) (by omega),yap (a:=beF l k*2 ^ 8) (by omega),beF,hx,
  ybt (beF l k) (2 ^ 8), <-ydc (by omega)]
 simp;omega
theorem Zea{r:Zo}(h:r.1.length<=2000000):XP yD r=some (ZnB r):=by
 unfold XP ZnB;rw[Zxe (by omega) h,ya];have hl:=ZdU r 8;rw[show(8:Int).toNat=8 from rfl]
 generalize Vv r 8=q at hl;obtain⟨l,s⟩:=q;dsimp only at hl ⊢
 rw[show((0:yU),l,(l.length:Int),(0:Int),s)=(λk:Nat=>(yai (beF l k),l,(l.length:Int),(k:Int),s)) 0 from rfl,
  ZC (x:=(yai (beF l l.length),s)) l.length (λk:Nat=>(yai (beF l k),l,(l.length:Int),(k:Int),s)) ?_ ?_ (by omega),ya]
 ·intro k hk;obtain⟨e,he,_⟩:=Zh hk;unfold V6;dsimp only;rw[yW (ZD hk),Zs he,ya,ZGD (by omega) he,Zj (by omega)]
 ·unfold V6;grind
theorem Zbh(r:Zo):(ZnB r).2.1.length<=r.1.length:=(ZdU r 8).2
theorem Zeb(x:yU)(r:yL yB):ZnB (QU x.toNat++r,false)=(x,(r,false)):=by
 unfold ZnB;rw[Ztm (ZU _),ZU];dsimp only;rw[ZCt _ 8 (by omega) (ybu _)];simp
def Wq(b:yL yB):Nat->Nat->Nat->Bool×Nat×Nat
 |0,k,_=>(false,0,k)
 |f+1,k,n=>match b[k]? with
  |none=>(false,0,k)
  |some d=>if 8 < k\/(0 < k/\d.toNat=0) then(false,0,k) else if d.toNat < 128 then(true,n+d.toNat % 128*128 ^ k,k+1) else Wq b f (k+1) (n+d.toNat % 128*128 ^ k)
theorem Zg6{b:yL yB}{f k n:Nat}(h:b.length<=k):Wq b (f+1) k n=(false,0,k):=by
 simp[Wq,ybi h]
theorem Zje{b:yL yB}{f k n:Nat}{d:yB}(hx:b[k]? =some d)(h:8 < k):Wq b (f+1) k n=(false,0,k):=by
 simp[Wq,hx,h]
theorem ZcV{b:yL yB}{f k n:Nat}{d:yB}(hx:b[k]? =some d)(_:¬8 < k)(h:0 < k/\d.toNat=0):Wq b (f+1) k n=(false,0,k):=by
 rw[Wq,hx];grind
theorem ZdV{b:yL yB}{f k n:Nat}{d:yB}(hx:b[k]? =some d)(h2:¬8 < k)(h3:¬(0 < k/\d.toNat=0))(h4:d.toNat < 128):Wq b (f+1) k n=(true,n+d.toNat % 128*128 ^ k,k+1):=by
 rw[Wq,hx];grind
theorem ZdW{b:yL yB}{f k n:Nat}{d:yB}(hx:b[k]? =some d)(h2:¬8 < k)(h3:¬(0 < k/\d.toNat=0))(h4:¬d.toNat < 128):Wq b (f+1) k n=Wq b f (k+1) (n+d.toNat % 128*128 ^ k):=by
 rw[Wq,hx];grind
theorem Ztn(n k:Nat)(d:yB)(hn:n < 128 ^ k)(hk:k<=8):n+d.toNat % 128*128 ^ k < 9223372036854775808:=by
 have h1:d.toNat % 128*128 ^ k<=127*128 ^ k:=ybp _ (by omega);have h2:128 ^ (k+1)<=128 ^ 9:=Nat.pow_le_pow_right (by omega) (by omega);grind
theorem ZpD(n k:Nat)(d:yB)(hn:n < 128 ^ k):n+d.toNat % 128*128 ^ k < 128 ^ (k+1):=by
 have h1:d.toNat % 128*128 ^ k<=127*128 ^ k:=ybp _ (by omega);grind
theorem Zzb(b:yL yB):∀(f k n:Nat),(Wq b f k n).1=true->(Wq b f k n).2.2<=b.length
 |0,k,n,h=>by simp[Wq] at h
 |f+1,k,n,h=>by
  by_cases h1:b.length<=k
  ·rw[Zg6 h1] at h;cases h
  have hx:=yad (Nat.lt_of_not_le h1);by_cases h2:8 < k
  ·rw[Zje hx h2] at h;cases h
  by_cases h3:0 < k/\b[k].toNat=0
  ·rw[ZcV hx h2 h3] at h;cases h
  by_cases h4:b[k].toNat < 128
  ·rw[ZdV hx h2 h3 h4];simp;omega
  ·rw[ZdW hx h2 h3 h4] at h ⊢;exact Zzb b f _ _ h
theorem Zzc(b:yL yB):∀(f k n:Nat),n < 128 ^ k->k<=9->(Wq b f k n).2.1<=9223372036854775807
 |0,k,n,h,_=>by simp[Wq]
 |f+1,k,n,h,hk=>by
  by_cases h1:b.length<=k
  ·rw[Zg6 h1];simp
  have hx:=yad (Nat.lt_of_not_le h1);by_cases h2:8 < k
  ·rw[Zje hx h2];simp
  by_cases h3:0 < k/\b[k].toNat=0
  ·rw[ZcV hx h2 h3];simp
  by_cases h4:b[k].toNat < 128
  ·rw[ZdV hx h2 h3 h4];have:=Ztn n k b[k] h (by omega);grind
  ·rw[ZdW hx h2 h3 h4];exact Zzc b f _ _ (ZpD n k _ h) (by omega)
theorem ZCu{a:yL yB}{k:Nat}{x:yB}{r:yL yB}(h:a.length=k):(a++x::r)[k]? =some x:=by
 grind
theorem ZoO{n:Nat}(h:n < 256):(yav n).toNat=n:=by simp[yap h]
theorem Zvs:∀(f n:Nat)(pre yJ:yL yB)(k acc:Nat),pre.length=k->k+(Yu n).length<=9->(Yu n).length<=f->(0 < k->0 < n)->
 Wq (pre++(Yu n++yJ)) f k acc=(true,acc+n*128 ^ k,k+(Yu n).length)
 |0,n,pre,yJ,k,acc,_,_,hf,_=>by
  have:=List.length_pos_iff.2 (ZIo n);omega
 |f+1,n,pre,yJ,k,acc,hp,hk,hf,h0=>by
  by_cases h:n < 128
  ·rw[ZbC h] at hk ⊢;have hx:(pre++([yav n]++yJ))[k]? =some (yav n):=ZCu hp;have e:(yav n).toNat=n:=ZoO (by omega);simp at hk;rw[ZdV hx (by omega) (by rw[e];omega) (by rw[e];exact h),e,yap h];rfl
  ·rw[ZlM h] at hk hf ⊢;have hx:(pre++((yav (n % 128+128)::Yu (n / 128))++yJ))[k]? =some (yav (n % 128+128)):=ZCu hp;have e:(yav (n % 128+128)).toNat=n % 128+128:=ZoO (by omega);simp only[yao] at hk hf ⊢;rw[ZdW hx (by omega) (by rw[e];omega) (by rw[e];omega),e];have:=Zvs f (n / 128) (pre++[yav (n % 128+128)]) yJ (k+1) (acc+(n % 128+128) % 128*128 ^ k) (by simp[hp]) (by omega) (by omega) (by omega);rw[yx] at this;simp only[List.cons_append,yy] at this ⊢;rw[this];have e2:n=n % 128+128*(n / 128):=by omega
   have e3:(n % 128+128) % 128=n % 128:=by omega
   rw[e3,Nat.pow_succ];refine Prod.ext rfl (Prod.ext ?_ (by simp;omega));show acc+n % 128*128 ^ k+n / 128*(128 ^ k*128)=acc+n*128 ^ k;rw[show n / 128*(128 ^ k*128)=128*(n / 128)*128 ^ k by rw[ybt (128 ^ k) 128, <-Nat.mul_assoc,ybt (n / 128) 128],Nat.add_assoc, <-Nat.add_mul, <-e2]
def Xz(r:Zo):Int×Zo:=if(Wq r.1 10 0 0).1=true then(((Wq r.1 10 0 0).2.1:Int),(r.1.drop (Wq r.1 10 0 0).2.2,r.2)) else(0,([],true))
theorem Wx{z:Int}(h0:0<=z)(hz:z<=9223372036854775807)(yJ:yL yB):Xz (Yu z.toNat++yJ,false)=(z,(yJ,false)):=by
 obtain⟨n,rfl⟩:=Int.eq_ofNat_of_zero_le h0;have hl:=Zz (n:=n) (by omega);have:=Zvs 10 n [] yJ 0 0 rfl (by omega) (by omega) (by omega);simp only[yy,yay,Nat.pow_zero,Nat.mul_one] at this;unfold Xz;grind
theorem Y6(r:Zo):0<=(Xz r).1/\(Xz r).1<=9223372036854775807/\(Xz r).2.1.length<=r.1.length:=by
 unfold Xz;split
 ·have:=Zzc r.1 10 0 0 (by omega) (by omega);grind
 ·simp
theorem ZGE{n k:Nat}{d:yB}(hn:n < 128 ^ k)(hk:k<=8):bits .or .i64 (n:Int) (wi (((d % 128).toNat:Int)*2 ^ (min (wi (7*(k:Int))).toNat 64)))=((n+d.toNat % 128*128 ^ k:Nat):Int):=by
 have e0:(wi (7*(k:Int)))=((7*k:Nat):Int):=by rw[Yj (by omega) (by omega)];omega
 have e1:min ((7*k:Nat):Int).toNat 64=7*k:=by omega
 have e2:128 ^ k=2 ^ (7*k):=by rw[Nat.pow_mul]
 have h1:=Ztn n k d hn hk
 have e3:((d % 128).toNat:Int)*2 ^ (7*k)=((d.toNat % 128*128 ^ k:Nat):Int):=by
  simp_all
 rw[e0,e1,e3,Yj (by omega) (by omega)];refine Go.Ev.Zrm (op:=.or) (k:=.i64) ?_ (by omega) ⟨by show-9223372036854775808<=_;omega,by show _<=9223372036854775807;omega⟩ (by omega) ⟨by show-9223372036854775808<=_;omega,by show _<=9223372036854775807;omega⟩ ⟨by show-9223372036854775808<=_;omega,by show _<=9223372036854775807;omega⟩;show some _=some _;congr 1;simp only[yaj];rw[e2] at hn ⊢;have:=ydc hn (d.toNat % 128);grind
theorem ZoP{b:yL yB}{no:Bool}{k:Nat}(hb:b.length<=2000000)(h:b.length<=k\/8 < k\/(0 < k/\b[k]? =some 0)):Ws yD (k:Int) (b,no)=some (true,(k:Int),(b,no)):=by
 unfold Ws;dsimp only;by_cases h1:b.length<=k
 ·grind
 rw[yX (ynd (by omega))];by_cases h2:8 < k
 ·grind
 rw[yX (ynd (by omega))];rcases h with h|h|⟨h,h3⟩
 ·grind
 ·grind
 rw[yW (yY (by omega)),Zs h3,ya];rfl
theorem ZDM{b:yL yB}{no:Bool}{k:Nat}{d:yB}(hb:b.length<=2000000)(hx:b[k]? =some d)(h2:¬8 < k)(h3:¬(0 < k/\d.toNat=0)):Ws yD (k:Int) (b,no)=some (false,(k:Int),(b,no)):=by
 unfold Ws;have h1:k < b.length:=(yo.1 hx).1;dsimp only;rw[yX (ynd (by omega)),yX (ynd (by omega))];by_cases h4:0 < k
 ·rw[yW (yY (by omega)),Zs hx,ya]
  have:(d==0)=false:=by
   rw[beq_eq_false_iff_ne];intro h;simp_all
  rw[this]
 grind
theorem Zzd{b:yL yB}{no:Bool}(hb:b.length<=2000000):∀(f k n m:Nat),k+f=10->f < m->n < 128 ^ k->
 Zf (WQ yD) m ((n:Int),(b,no),(k:Int))=some (if(Wq b f k n).1=true then .inr (((Wq b f k n).2.1:Int),(b,no),((Wq b f k n).2.2:Int)) else .inl ((0:Int),([],true),((Wq b f k n).2.2:Int)))
 |f,k,n,0,_,h,_=>by omega
 |0,k,n,m+1,h,_,_=>by
  unfold Zf WQ;dsimp only;rw[ZoP hb (.inr (.inl (by omega))),ya]
  rfl
 |f+1,k,n,m+1,h,hf,hn=>by
  unfold Zf WQ;dsimp only;by_cases h1:b.length<=k
  ·rw[Zg6 h1,ZoP hb (.inl h1),ya];rfl
  obtain⟨d,hx,_⟩:=Zh (l:=b) (k:=k) (by omega);by_cases h2:8 < k
  ·rw[Zje hx h2,ZoP hb (.inr (.inl h2)),ya];rfl
  by_cases h3:0 < k/\d.toNat=0
  ·rw[ZcV hx h2 h3,ZoP hb (.inr (.inr ⟨h3.1,by rw[hx,show d=0 from UInt8.toNat_inj.1 h3.2]⟩)),ya]
   rfl
  rw[ZDM hb hx h2 h3,ya];dsimp only
  rw[yX (by decide),Zs hx,ya,ZGE hn (by omega),
   yW (yY (by rw[Yj (by omega) (by omega)];omega)),Zj (by omega)]
  have hlt:decide (d < 128)=decide (d.toNat < 128):=by
   rw[Bool.eq_iff_iff,yN,yN,UInt8.lt_iff_toNat_lt];rfl
  rw[hlt];by_cases h4:d.toNat < 128
  ·rw[ZdV hx h2 h3 h4,yW (yY h4)];rfl
  ·rw[ZdW hx h2 h3 h4,yX (by rw[yN];exact h4)];exact Zzd hb f (k+1) _ m (by omega) (by omega) (ZpD n k d hn)
theorem QI{r:Zo}(h:r.1.length<=2000000):Z5 yD r=some (Xz r):=by
 obtain⟨b,no⟩:=r;unfold Z5 Xz;dsimp only at h ⊢;have:=Zzd (no:=no) h 10 0 0 yD (by omega) (by rw[ZfI];omega) (by omega);rw[show((0:Nat):Int)=0 from rfl] at this
 rw[this,ya];by_cases hg:(Wq b 10 0 0).1=true
 ·have hl:=Zzb b 10 0 0 hg;rw[yW hg,yW hg];dsimp only;rw[yW (Zml (by omega) (by omega)),yaj]
 grind
def Qf(r:Zo):yL yB×Zo:=if(Xz r).2.2=true then([],(Xz r).2) else Vv (Xz r).2 (Xz r).1.toNat
theorem Zto(r:Zo):(Qf r).1.length<=r.1.length/\(Qf r).2.1.length<=r.1.length:=by
 unfold Qf;have hl:=Y6 r;split
 ·grind
 ·have h2:=ZdU (Xz r).2 (Xz r).1.toNat
  refine⟨?_,by omega⟩;unfold Vv
  all_goals grind
theorem Zvt{c:yL yB}(hc:c.length<=2000000)(yJ:yL yB):Qf (Yu c.length++(c++yJ),false)=(c,(yJ,false)):=by
 unfold Qf;have:=Wx (z:=(c.length:Int)) (by omega) (by omega) (c++yJ);rw[yaj] at this;rw[this,yX (by simp),yaj,Ztm rfl]
theorem Zre{b:yL yB}(h:b.length<=2000000):ZgQ yD b=some (b,false):=by
 unfold ZgQ;rw[Zy9 (by omega),ya]
theorem ZDN{l:yL yU}(hl:l.length<=9223372036854775807):∃b,Qc yD l=some b/\(b=false->∀p,p∈l->Zkt p.toNat):=by
 unfold Qc Zct
 obtain⟨x,h1,h2⟩:=Z9 (step:=XW yD) l.length (λk s=>s=(l,(l.length:Int),(k:Int))/\∀j p,j < k->l[j]? =some p->Zkt p.toNat) (λx=>(∃k:Nat,x=.inl (k:Int))\/x=.inr ()/\∀p,p∈l->Zkt p.toNat) (i:=(l,(l.length:Int),(0:Int))) ⟨rfl,λj p hj=>by omega⟩ (by omega) (by
  rintro k _ hk ⟨rfl,hj⟩;obtain⟨e,he,_⟩:=Zh hk;unfold XW;dsimp only;rw[yW (ZD hk),Zs he,ya,ZAX,ya,Zj (by omega)];by_cases hp:Zkt e.toNat
  ·rw[yY hp];left;refine⟨_,rfl,rfl,λj p h3 h4=> ?_⟩;by_cases h5:j < k
   ·exact hj j p h5 h4
   ·have:j=k:=by omega
    subst this;rw[he] at h4;cases h4;exact hp
  ·rw[yZ hp];right;exact⟨_,rfl,.inl ⟨k,rfl⟩⟩) (by
  rintro _ ⟨rfl,hj⟩;unfold XW;dsimp only;rw[yX (by rw[Zx];decide)];refine⟨_,rfl,.inr ⟨rfl,λp hp=> ?_⟩⟩;obtain⟨j,hj1,hj2⟩:=ycl hp;exact hj j p hj1 (by rw[yad hj1,hj2]))
 rw[h1,ya];rcases h2 with⟨k,rfl⟩|⟨rfl,h2⟩
 all_goals simp_all
def LockWf(l:Z8):Prop:=l.length<=9223372036854775807/\∀b,b∈l->b.1.length<=9223372036854775807
theorem ZqE(z:Int):∃b,Qt yD z=some b/\(b=true->0<=z/\z<=1048576):=by
 unfold Qt;by_cases h:z >= 0
 ·simp_all
 ·rw[yX (by rw[yN];exact h)];grind
theorem Zg7{l:Z8}(hl:LockWf l):∃b,VC yD l=some b/\(b=true↔Vm l/\QV l):=by
 have key:∃b,VC yD l=some b/\(b=true->Vm l/\QV l):=by
  unfold VC;obtain⟨h0,h1⟩:=hl
  obtain⟨x,hx,hp⟩:=Z9 (step:=Vd yD) l.length (λk s=>s=(l,(l.length:Int),(k:Int),l)/\∀j b,j < k->l[j]? =some b->Zw8 b/\Zw9 b)
   (λx=>x=.inl (false,l)\/(x=.inr l/\∀b,b∈l->Zw8 b/\Zw9 b)) (i:=(l,(l.length:Int),(0:Int),l)) ⟨rfl,λj b hj=>by omega⟩ (by omega) (by
   rintro k _ hk ⟨rfl,hj⟩;obtain⟨e,he,hm⟩:=Zh hk
   have hnext:(Zw8 e/\Zw9 e)->∀j b,j < k+1->l[j]? =some b->Zw8 b/\Zw9 b:=by
    all_goals grind
   unfold Vd;dsimp only;rw[yW (ZD hk),Zs he,ya];by_cases k1:(e.1.length:Int) > 12
   ·right;rw[yW (yY k1)];exact⟨_,rfl,.inl rfl⟩
   rw[yX (by rw[yN];exact k1)];obtain⟨b,hb,hbp⟩:=ZDN (h1 e hm);rw[hb,ya]
   cases b with
   |true=>right;exact⟨_,rfl,.inl rfl⟩
   |false=>
    obtain⟨c,hc,hc2⟩:=ZqE e.2.1;obtain⟨d,hd,hd2⟩:=ZqE e.2.2.1;rw[yX (by decide),hc,ya,hd,ya]
    cases c with
    |false=>right;exact⟨_,rfl,.inl rfl⟩
    |true=>
     cases d with
     |false=>right;exact⟨_,rfl,.inl rfl⟩
     |true=>
      have hn:=λhz:e.2.2.2≠0->Zkt e.2.2.2.toNat=>hnext ⟨⟨by omega,(hc2 rfl).1,(hc2 rfl).2,(hd2 rfl).1,(hd2 rfl).2⟩,hbp rfl,hz⟩;rw[yX (by decide),yX (by decide),Zj (by omega)];by_cases hz:e.2.2.2=0
      ·rw[yX (by rw[hz];decide)];left;exact⟨_,rfl,rfl,hn λh=>absurd hz h⟩
      ·rw[yW (by simp[hz]),ZAX,ya];by_cases hpt:Zkt e.2.2.2.toNat
       ·rw[yY hpt];left;exact⟨_,rfl,rfl,hn λ_=>hpt⟩
       ·rw[yZ hpt];right;exact⟨_,rfl,.inl rfl⟩) (by
   rintro _ ⟨rfl,hj⟩;unfold Vd;dsimp only;rw[yX (by rw[Zx];decide)];refine⟨_,rfl,.inr ⟨rfl,λb hb=> ?_⟩⟩;obtain⟨j,hj1,hj2⟩:=ycl hb;exact hj j b hj1 (by rw[yad hj1,hj2]))
  rw[hx,ya];rcases hp with rfl|⟨rfl,hp⟩
  ·grind
  ·dsimp only;by_cases h2:(l.length:Int) > 0
   ·rw[yW (yY h2)];refine⟨_,rfl,λh3=>⟨⟨by omega, ?_,λb hb=>(hp b hb).1⟩,λb hb=>(hp b hb).2⟩⟩;grind
   simp_all
 obtain⟨b,h1,h2⟩:=key;refine⟨b,h1,h2,λh=> ?_⟩;rw[Zny h.1 h.2] at h1;grind
theorem Zec{α:Type}{l:yL α}{k:Nat}{e:α}(h:l[k]? =some e):l.drop k=e::l.drop (k+1):=by
 obtain⟨h1,h2⟩:=yo.1 h;rw[List.drop_eq_getElem_cons h1,h2]
theorem ZaP{α:Type}{f:α->yL yB}{l:yL α}{k:Nat}{e:α}(h:l[k]? =some e):cat f (l.drop k)=f e++cat f (l.drop (k+1)):=by
 rw[Zec h,Ztj]
theorem ZW{α:Type}{f:α->yL yB}{c n:Nat}{l:yL α}(h:∀x,x∈l->(f x).length<=c)(hn:l.length<=n)(k:Nat):(cat f (l.drop k)).length<=n*c:=by
 refine ybj (Zxa λx hx=>h x (List.mem_of_mem_drop hx)) (ybp c ?_);grind
theorem ZDO{a b:yL yB}(h:a.length<=2000000):∃r,Ye yD a b=some r:=by
 unfold Ye;by_cases hl:a.length=b.length
 ·rw[yX (by simp[hl])]
  obtain⟨x,h1,_⟩:=Z9 (step:=ZN yD) a.length (λk s=>s=(a,b,(a.length:Int),(k:Int))) (λ_=>True) (i:=(a,b,(a.length:Int),(0:Int))) rfl (by omega) (by
   rintro k _ hk rfl;obtain⟨e,he,_⟩:=Zh hk;obtain⟨f,hf,_⟩:=Zh (l:=b) (k:=k) (by omega);unfold ZN;dsimp only;rw[yW (ZD hk),Zs he,ya,Zs hf,ya,Zj (by omega)];split
   ·right;exact⟨_,rfl,ytt⟩
   ·left;exact⟨_,rfl,rfl⟩) (by
   rintro _ rfl;unfold ZN;dsimp only;rw[yX (by rw[Zx];decide)];exact⟨_,rfl,ytt⟩)
  rw[h1,ya]
  cases x with
  |inl y=>exact⟨_,rfl⟩
  |inr y=>exact⟨_,rfl⟩
 ·rw[yW (by simp;omega)];exact⟨_,rfl⟩
theorem Ztp{a:yL yB}(h:a.length<=2000000):Ye yD a a=some true:=by
 unfold Ye;rw[yX (by simp),show(a,a,(a.length:Int),(0:Int))=(λk:Nat=>(a,a,(a.length:Int),(k:Int))) 0 from rfl,ZC (x:=.inr ()) a.length (λk:Nat=>(a,a,(a.length:Int),(k:Int))) ?_ ?_ (by omega),ya]
 ·intro k hk;obtain⟨e,he,_⟩:=Zh hk;unfold ZN;dsimp only;rw[yW (ZD hk),Zs he,ya,ya,Zj (by omega),yX (by simp)]
 ·unfold ZN;grind
theorem ZDP{b:yL yB}{n i:Int}{l:Z8}{yJ:yL yB}{acc:yL ZH}{i1 i2:Int}{u:yU}{ks:yL yU}(hk:ks.length<=12)(hr:yJ.length<=100000):
 Zf (Wv yD) yD (b,n,i,(ks.length:Int),(0:Int),l,(cat Ziq ks++yJ,false),acc,i1,i2,u,([]:yL yU))=some (b,n,i,l,(yJ,false),acc,i1,i2,u,ks):=by
 refine ZC ks.length (λk:Nat=>(b,n,i,(ks.length:Int),(k:Int),l,(cat Ziq (ks.drop k)++yJ,false),acc,i1,i2,u,ks.take k)) ?_ ?_ (by omega)
 ·intro k hk2;obtain⟨e,he,_⟩:=Zh hk2;have hl:=ZW (f:=Ziq) (c:=8) (λx _=>Nat.le_of_eq (ZU _)) hk k;unfold Wv;dsimp only;rw[yW (ZD hk2),Zea (by dsimp only;rw[yj];omega),ya,ZaP he,yx];unfold Ziq;rw[Zeb,yW (ZF (by rw[yv];omega) (by rw[yv];omega)),Zj (by omega),YW he]
 ·unfold Wv;dsimp only;rw[yX (by rw[Zx];decide),ycm,yag];rfl
theorem ZpE{l:Z8}(h:Vm l)(hp:QV l):ZbA yD (Qj l)=some (l,true):=by
 have zB:=Zb1 h;unfold ZbA;rw[Zre (by omega),ya,QI (by dsimp only;omega),ya];have h0:=h.2.1
 have e0:Xz (Qj l,false)=((l.length:Int),(cat brF l,false)):=by
  have:=Wx (z:=(l.length:Int)) (by omega) (by omega) (cat brF l);rw[yaj] at this;exact this
 have hbl:∀k,(cat brF (l.drop k)).length<=4*131:=ZW (λx hx=>ZoN (h.2.2 x hx)) h0;rw[e0];dsimp only;generalize hb:Qj l=b at zB
 rw[show(b,(l.length:Int),(0:Int),([]:Z8),(cat brF l,false),([]:yL ZH))=(λk:Nat=>(b,(l.length:Int),(k:Int),([]:Z8),(cat brF (l.drop k),false),l.take k)) 0 from rfl,
  ZC (x:=(b,([]:Z8),(([]:yL yB),false),l)) l.length (λk:Nat=>(b,(l.length:Int),(k:Int),([]:Z8),(cat brF (l.drop k),false),l.take k)) ?_ ?_ (by omega),ya]
 ·dsimp only;rw[Zny h hp,ya,yX (by decide),Znz h hp,ya,hb,Ztp (by omega),ya];rfl
 ·intro k hk;obtain⟨e,he,hm⟩:=Zh hk;obtain⟨e1,e2,e3,e4,e5⟩:=h.2.2 e hm;have hl:=hbl k;have hl2:=hbl (k+1);have r2:=Zz (n:=e.2.1.toNat) (by omega);have r3:=Zz (n:=e.2.2.1.toNat) (by omega);have r4:=ZU e.2.2.2.toNat
  have hks:=ZW (f:=Ziq) (c:=8) (l:=e.1) (λx _=>Nat.le_of_eq (ZU _)) e1 0;rw[List.drop_zero] at hks;unfold VX;dsimp only;rw[yW (ZD hk),QI (by dsimp only;omega),ya,yX (by rw[yT];omega),ZaP he];unfold brF;simp only[yx];have q1:=Wx (z:=(e.1.length:Int)) (by omega) (by omega) (cat Ziq e.1++(Yu e.2.1.toNat++(Yu e.2.2.1.toNat++(QU e.2.2.2.toNat++cat brF (l.drop (k+1))))));rw[yaj] at q1;unfold brF at q1 hl2;rw[q1];dsimp only;rw[yX (ynd (by omega)),ZDP e1 (by simp only[yj];omega),ya];dsimp only;rw[QI (by simp only[yj];omega),ya,Wx e2 (by omega)];dsimp only;rw[QI (by simp only[yj];omega),ya,Wx e4 (by omega)];dsimp only;rw[Zea (by simp only[yj];omega),ya,Zeb,yW (ZF (by rw[yv];omega) (by rw[yv];omega)),Zj (by omega),YW he]
 ·unfold VX;dsimp only;rw[yX (by rw[Zx];decide),ycm,yag];rfl
theorem ZDQ{b:yL yB}{no:Bool}(hb:b.length<=2000000){k n:Nat}{d:yB}(hx:b[k]? =some d)(h2:k<=8)(h3:¬(0 < k/\d.toNat=0))(hn:n < 128 ^ k):
 ZJ yD ((n:Int),((128 ^ k:Nat):Int),(k:Int),(b,no))=some (if d.toNat < 128 then .inr (.inl (((n+d.toNat % 128*128 ^ k:Nat):Int),(b.drop (k+1),no))) else .inl (((n+d.toNat % 128*128 ^ k:Nat):Int),wi (128*((128 ^ k:Nat):Int)),((k+1:Nat):Int),(b,no))):=by
 have hk:k < b.length:=(yo.1 hx).1;have hd:=Ztn n k d hn h2
 have e1:wi ((n:Int)+(wi ((Int.tmod (d.toNat:Int) 128)*((128 ^ k:Nat):Int))))=((n+d.toNat % 128*128 ^ k:Nat):Int):=by
  have e2:Int.tmod (d.toNat:Int) 128*((128 ^ k:Nat):Int)=((d.toNat % 128*128 ^ k:Nat):Int):=by
   rw[show Int.tmod (d.toNat:Int) 128=((d.toNat % 128:Nat):Int) from rfl]
   push_cast
   rfl
  rw[e2,Yj (z:=((d.toNat % 128*128 ^ k:Nat):Int)) (by omega) (by omega),Yj (by omega) (by omega)]
  push_cast
  rfl
 have hcut:VZ b.length (some ((k+1:Nat):Int)) none=true:=Zml (by omega) (by omega);unfold ZJ;dsimp only;rw[yW (yY (by omega)),yW (yY (by omega)),Zs hx,ya,e1,Zj (by omega)]
 have hc:(if(decide ((d.toNat:Int) < 128))=true then if(VZ b.length (some ((k+1:Nat):Int)) none)=true then some (Sum.inr (Sum.inl (((n+d.toNat % 128*128 ^ k:Nat):Int),(b.drop (((k+1:Nat):Int).toNat),no)))) else none else some (Sum.inl (((n+d.toNat % 128*128 ^ k:Nat):Int),wi (128*((128 ^ k:Nat):Int)),((k+1:Nat):Int),(b,no))):yO ((Int×Int×Int×Zo)⊕((Int×Zo)⊕Zo)))=some (if d.toNat < 128 then .inr (.inl (((n+d.toNat % 128*128 ^ k:Nat):Int),(b.drop (k+1),no))) else .inl (((n+d.toNat % 128*128 ^ k:Nat):Int),wi (128*((128 ^ k:Nat):Int)),((k+1:Nat):Int),(b,no))):=by
  by_cases h4:d.toNat < 128
  ·rw[yW (yY (by omega)),yW hcut,yW h4,yaj]
  ·rw[yX (ynd (by omega)),yX h4]
 by_cases h0:d.toNat=0
 ·rw[yW (by rw[h0];rfl),yX (ynd (by omega))];exact hc
 ·rw[yX (by simp;omega)];exact hc
theorem Zvu{b:yL yB}{no:Bool}(hb:b.length<=2000000):∀(f k n m:Nat)(z:Int),k+f=10->f < m->n < 128 ^ k->(k<=8->z=((128 ^ k:Nat):Int))->
 ∃o,Zf (ZJ yD) m ((n:Int),z,(k:Int),(b,no))=some o/\((Wq b f k n).1=true->o=.inl (((Wq b f k n).2.1:Int),(b.drop (Wq b f k n).2.2,no)))/\((Wq b f k n).1=false->o=.inl ((0:Int),([],true))\/o=.inr (b,no))
 |f,k,n,0,_,_,h,_,_=>by omega
 |0,k,n,m+1,z,h,_,_,_=>by
  unfold Zf ZJ;dsimp only;refine⟨.inr (b,no), ?_,λhg=>by simp[Wq] at hg,λ_=>.inr rfl⟩;by_cases h1:(k:Int) < (b.length:Int)
  ·rw[yW (yY h1),yX (ynd (by omega))];rfl
  ·rw[yX (by rw[yN];exact h1)]
   rfl
 |f+1,k,n,m+1,z,h,hf,hn,hz=>by
  by_cases h1:b.length<=k
  ·rw[Zg6 h1];unfold Zf ZJ;dsimp only;rw[yX (ynd (by omega))];exact⟨_,rfl,λhg=>(by cases hg),λ_=>.inr rfl⟩
  obtain⟨d,hx,_⟩:=Zh (l:=b) (k:=k) (by omega);by_cases h2:8 < k
  ·rw[Zje hx h2];unfold Zf ZJ;dsimp only;rw[yW (yY (by omega)),yX (ynd (by omega))];exact⟨_,rfl,λhg=>(by cases hg),λ_=>.inr rfl⟩
  have hz:=hz (by omega);subst hz;by_cases h3:0 < k/\d.toNat=0
  ·rw[ZcV hx h2 h3];unfold Zf ZJ Yh;dsimp only;rw[yW (yY (by omega)),yW (yY (by omega)),Zs hx,ya,yW (by rw[h3.2];rfl),yW (yY (by omega))];exact⟨_,rfl,λhg=>(by cases hg),λ_=>.inl rfl⟩
  unfold Zf;rw[ZDQ hb hx (by omega) h3 hn,ya];by_cases h4:d.toNat < 128
  ·rw[ZdV hx h2 h3 h4,yW h4];exact⟨_,rfl,λ_=>rfl,λhg=>(by cases hg)⟩
  ·rw[ZdW hx h2 h3 h4,yX h4];refine Zvu hb f (k+1) _ m _ (by omega) (by omega) (ZpD n k d hn) (λhk=> ?_);have h5:128 ^ (k+1)<=128 ^ 8:=Nat.pow_le_pow_right (by omega) hk
   have h6:(128:Int)*((128 ^ k:Nat):Int)=((128 ^ (k+1):Nat):Int):=by
    rw[Nat.pow_succ]
    push_cast
    omega
   rw[h6,Yj (by omega) (by omega)]
theorem X9{r:Zo}(h:r.1.length<=2000000):Zu yD r=some (Xz r):=by
 obtain⟨b,no⟩:=r;obtain⟨o,h1,h2,h3⟩:=Zvu (no:=no) h 10 0 0 yD 1 (by omega) (by rw[ZfI];omega) (by omega) (λ_=>rfl);unfold Zu Xz;rw[show((0:Int),(1:Int),(0:Int),(b,no))=(((0:Nat):Int),(1:Int),((0:Nat):Int),(b,no)) from rfl,h1,ya]
 dsimp only
 cases hg:(Wq b 10 0 0).1 with
 |true=>rw[h2 hg,yW rfl]
 |false=>
  rw[yX (by decide)];rcases h3 hg with rfl|rfl <;> rfl
theorem Ztq{z:Int}{r:Zo}(h0:0<=z)(h:r.1.length<=2000000):YC yD z r=some (Vv r z.toNat):=by
 obtain⟨b,no⟩:=r;obtain⟨n,rfl⟩:=Int.eq_ofNat_of_zero_le h0;unfold YC Vv Yh;dsimp only at h ⊢
 cases no with
 |true=>rw[yW rfl,yW (.inl rfl)];rfl
 |false=>
  rw[yX (by decide),yaj];by_cases h1:b.length < n
  ·rw[yW (yY (by omega)),yW (.inr h1)];rfl
  ·rw[yX (ynd (by omega)),yW (Zmm (by omega) (by omega)),yW (ZF (by rw[yv];omega) (by rw[yv];omega)),yW (Zml (by omega) (by omega)),yX (by simp;omega)]
theorem Zed{r:Zo}(h:r.1.length<=2000000):Z3 yD r=some (ZnB r):=by
 unfold Z3 ZnB;rw[Ztq (by omega) h,ya,show(8:Int).toNat=8 from rfl]
 have hl:=(ZdU r 8).1;generalize (Vv r 8).1=l at hl;generalize (Vv r 8).2=q
 have e:=ZC (step:=Yr yD) l.length (λk:Nat=>(l,yai (beF l k),(k:Int),q)) (x:=(yai (beF l l.length),q)) (by
  intro k hk;obtain⟨d,hx,_⟩:=Zh hk;unfold Yr;dsimp only;rw[yW (ZD hk),Zs hx,ya,Zj (by omega)]
  have e1:256*yai (beF l k)+yai d.toNat=yai (beF l (k+1)):=by
   have h1:=Zxd l k;have h2:256 ^ k<=256 ^ 7:=Nat.pow_le_pow_right (by omega) (by omega);have h3:=d.toNat_lt;apply yct.1;rw[UInt64.toNat_add,UInt64.toNat_mul,yax,yax,yax,beF,hx];show(256*_ % _+_) % _=_;simp;omega
  rw[e1]) (by
  unfold Yr;dsimp only;rw[yX (by rw[Zx];decide)]) (by omega)
 have e:Zf (Yr yD) yD (l,(0:yU),(0:Int),q)=_:=e;rw[e,ya]
theorem Zze{e:ZH}(hw:e.1.length<=9223372036854775807):∃b,VI yD e=some b/\(b=true↔Zw8 e/\Zw9 e):=by
 unfold VI;by_cases c1:(e.1.length:Int) > 12
 ·rw[yW (yY c1)];exact⟨_,rfl,λh=>(by cases h),λh=>by have:=h.1.1;omega⟩
 rw[yX (by rw[yN];exact c1)];by_cases c2:e.2.1 < 0
 ·rw[yW (yY c2)];exact⟨_,rfl,λh=>(by cases h),λh=>by have:=h.1.2.1;omega⟩
 rw[yX (by rw[yN];exact c2)];by_cases c3:e.2.1 > 1048576
 ·rw[yW (yY c3)];exact⟨_,rfl,λh=>(by cases h),λh=>by have:=h.1.2.2.1;omega⟩
 rw[yX (by rw[yN];exact c3)];by_cases c4:e.2.2.1 < 0
 ·rw[yW (yY c4)];exact⟨_,rfl,λh=>(by cases h),λh=>by have:=h.1.2.2.2.1;omega⟩
 rw[yX (by rw[yN];exact c4)];by_cases c5:e.2.2.1 > 1048576
 ·rw[yW (yY c5)];exact⟨_,rfl,λh=>(by cases h),λh=>by have:=h.1.2.2.2.2;omega⟩
 rw[yX (by rw[yN];exact c5)];have ok:Zw8 e:=⟨by omega,by omega,by omega,by omega,by omega⟩
 obtain⟨x,h1,h2⟩:=Z9 (step:=XM yD) e.1.length (λk s=>s=((k:Int),e)/\∀j p,j < k->e.1[j]? =some p->Zkt p.toNat) (λx=>(x=.inl (false,e)/\¬Zw9 e)\/(x=.inr e/\∀p,p∈e.1->Zkt p.toNat)) (i:=((0:Int),e)) ⟨rfl,λj p hj=>by omega⟩ (by omega) (by
  rintro k _ hk ⟨rfl,hj⟩;obtain⟨d,hd,hm⟩:=Zh hk;unfold XM;dsimp only;rw[yW (ZD hk),Zs hd,ya,Zvn,ya];by_cases hp:Zkt d.toNat
  ·left;rw[yY hp,yX (by decide),Zj (by omega)];refine⟨_,rfl,rfl,λj p h3 h4=> ?_⟩;by_cases h5:j < k
   ·exact hj j p h5 h4
   ·have:j=k:=by omega
    subst this;rw[hd] at h4;cases h4;exact hp
  ·right;rw[yZ hp,yW (by decide)];exact⟨_,rfl,.inl ⟨rfl,λh=>hp (h.1 d hm)⟩⟩) (by
  rintro _ ⟨rfl,hj⟩;unfold XM;dsimp only;rw[yX (by rw[Zx];decide)];refine⟨_,rfl,.inr ⟨rfl,λp hp=> ?_⟩⟩;obtain⟨j,j1,j2⟩:=ycl hp;exact hj j p j1 (by rw[yad j1,j2]))
 rw[h1,ya];rcases h2 with⟨rfl,h2⟩|⟨rfl,h2⟩
 ·exact⟨_,rfl,λh=>(by cases h),λh=>absurd h.2 h2⟩
 ·dsimp only;rw[Zvn,ya];by_cases h0:e.2.2.2=0
  ·rw[yW (beq_iff_eq.2 h0)];exact⟨_,rfl,λ_=>⟨ok,h2,λh=>absurd h0 h⟩,λ_=>rfl⟩
  ·rw[yX (by rw[yT];exact h0)];refine⟨_,rfl,λh=>⟨ok,h2,λ_=>yF h⟩,λh=>yY (h.2.2 h0)⟩
theorem Zf0{l:Z8}(hl:LockWf l):∃b,Xk yD l=some b/\(b=true↔Vm l/\QV l):=by
 obtain⟨w0,w1⟩:=hl;unfold Xk;by_cases c1:(l.length:Int) < 1
 ·rw[yW (yY c1)];exact⟨_,rfl,λh=>(by cases h),λh=>by have:=h.1.1;omega⟩
 rw[yX (by rw[yN];exact c1)];by_cases c2:(l.length:Int) > 4
 ·rw[yW (yY c2)];exact⟨_,rfl,λh=>(by cases h),λh=>by have:=h.1.2.1;omega⟩
 rw[yX (by rw[yN];exact c2)]
 obtain⟨x,h1,h2⟩:=Z9 (step:=X2 yD) l.length (λk s=>s=((k:Int),l)/\∀j b,j < k->l[j]? =some b->Zw8 b/\Zw9 b) (λx=>(x=.inl (false,l)/\¬(Vm l/\QV l))\/(x=.inr l/\∀b,b∈l->Zw8 b/\Zw9 b)) (i:=((0:Int),l)) ⟨rfl,λj p hj=>by omega⟩ (by omega) (by
  rintro k _ hk ⟨rfl,hj⟩;obtain⟨d,hd,hm⟩:=Zh hk;obtain⟨b,b1,b2⟩:=Zze (w1 d hm);unfold X2;dsimp only;rw[yW (ZD hk),Zs hd,ya,b1,ya]
  cases b with
  |true=>
   left;rw[yX (by decide),Zj (by omega)];refine⟨_,rfl,rfl,λj p h3 h4=> ?_⟩;by_cases h5:j < k
   ·exact hj j p h5 h4
   ·have:j=k:=by omega
    subst this;rw[hd] at h4;cases h4
    exact b2.1 rfl
  |false=>
   right;rw[yW (by decide)];exact⟨_,rfl,.inl ⟨rfl,λh=>by have:=b2.2 ⟨h.1.2.2 d hm,h.2 d hm⟩;cases this⟩⟩) (by
  rintro _ ⟨rfl,hj⟩;unfold X2;dsimp only;rw[yX (by rw[Zx];decide)];refine⟨_,rfl,.inr ⟨rfl,λp hp=> ?_⟩⟩;obtain⟨j,j1,j2⟩:=ycl hp;exact hj j p j1 (by rw[yad j1,j2]))
 rw[h1,ya];rcases h2 with⟨rfl,h2⟩|⟨rfl,h2⟩
 ·exact⟨_,rfl,λh=>(by cases h),λh=>absurd h h2⟩
 ·exact⟨_,rfl,λ_=>⟨⟨by omega,by omega,λb hb=>(h2 b hb).1⟩,λb hb=>(h2 b hb).2⟩,λ_=>rfl⟩
theorem Zzf{l:Z8}(h:Vm l)(hp:QV l):Xk yD l=some true:=by
 obtain⟨b,b1,b2⟩:=Zf0 (l:=l) ⟨by have:=h.2.1;omega,λb hb=>by have:=(h.2.2 b hb).1;omega⟩;rw[b1,b2.2 ⟨h,hp⟩]
theorem ZAZ{c:yL yB}(hc:c.length<=100000){i:Int}{l:Z8}{e:ZH}(hk:e.1.length<=12):
 Zf (Xc yD) yD (c,i,(0:Int),l,e)=some (c++cat Ziq e.1,i,l,e):=by
 have q:=ZC (step:=Xc yD) e.1.length (λk:Nat=>(c++cat Ziq (e.1.take k),i,(k:Int),l,e)) (x:=(c++cat Ziq e.1,i,l,e)) (by
  intro k hk2;obtain⟨d,hd,_⟩:=Zh hk2;have hl:=ZlN hk k;unfold Xc;dsimp only;rw[yW (ZD hk2),Zs hd,ya,Zg5 _ (by rw[yj];omega),ya,Zj (by omega),QM hd,yx];rfl) (by
  unfold Xc;dsimp only;rw[yX (by rw[Zx];decide),yag]) (by omega)
 rw[show cat Ziq (e.1.take 0)=[] from rfl,yas] at q
 exact q
theorem ZlP{l:Z8}(h:Vm l)(hp:QV l):WO yD l=some (Qj l):=by
 unfold WO;have h0:=h.2.1;have h9:=Zz (n:=l.length) (by omega);rw[Zzf h hp,ya,yX (by decide),Zbn (by omega) (by omega) (by simp),ya,yy,yaj]
 have q:=ZC (step:=Xd yD) l.length (λk:Nat=>(Yu l.length++cat brF (l.take k),(k:Int),l)) (x:=(Qj l,l)) (by
  intro k hk;obtain⟨e,he,hm⟩:=Zh hk;obtain⟨e1,e2,e3,e4,e5⟩:=h.2.2 e hm;have hl:=VT (f:=brF) (c:=131) (λx hx=>ZoN (h.2.2 x hx)) h.2.1 k;have hr:=Zz (n:=e.1.length) (by omega);have hr2:=Zz (n:=e.2.1.toNat) (by omega);have hr3:=Zz (n:=e.2.2.1.toNat) (by omega);have hk8:=ZlN e1 e.1.length;rw[yag] at hk8;unfold Xd;dsimp only
  rw[yW (ZD hk),Zs he,ya,Zbn (by omega) (by omega) (by rw[yj];omega),ya,yaj,
   ZAZ (by simp only[yj];omega) e1,ya]
  dsimp only
  rw[Zbn e2 (by omega) (by simp only[yj];omega),ya,Zbn e4 (by omega) (by simp only[yj];omega),ya,
   Zg5 _ (by simp only[yj];omega),ya,Zj (by omega),QM he]
  unfold brF;simp only[yx]) (by
  unfold Xd;dsimp only;rw[yX (by rw[Zx];decide),yag];rfl) (by omega)
 rw[show cat brF (l.take 0)=[] from rfl,yas] at q
 have q:Zf (Xd yD) yD (Yu l.length,(0:Int),l)=_:=q;rw[q,ya]
theorem ZGF{b:yL yB}{n i m:Int}{l:Z8}{r:Zo}{acc:yL ZH}{i1 i2:Int}{u:yU}(hm:m<=12)(hr:r.1.length<=2000000):
 ∃r' w,Zf (Wv yD) yD (b,n,i,m,(0:Int),l,r,acc,i1,i2,u,([]:yL yU))=some (b,n,i,l,r',acc,i1,i2,u,w)/\r'.1.length<=2000000/\w.length<=12:=by
 obtain⟨x,h1,r',w,rfl,h2⟩:=Z9 (step:=Wv yD) m.toNat (λk s=>∃r' w,s=(b,n,i,m,(k:Int),l,r',acc,i1,i2,u,w)/\r'.1.length<=2000000/\w.length=k) (λx=>∃r' w,x=(b,n,i,l,r',acc,i1,i2,u,w)/\r'.1.length<=2000000/\w.length<=12)
  (i:=(b,n,i,m,(0:Int),l,r,acc,i1,i2,u,([]:yL yU))) ⟨r,[],rfl,hr,rfl⟩ (by omega) (by
  rintro k _ hk ⟨r',w,rfl,h1,h2⟩;left;have hl:=Zbh r';unfold Wv;dsimp only;rw[yW (yY (by omega)),Zea h1,ya,yW (ZF (by omega) (by omega)),Zj (by omega)];exact⟨_,rfl,_,_,rfl,by omega,by simp[h2]⟩) (by
  rintro _ ⟨r',w,rfl,h1,h2⟩;unfold Wv;dsimp only;rw[yX (ynd (by omega))];exact⟨_,rfl,_,_,rfl,h1,by omega⟩)
 exact⟨r',w,h1,h2⟩
theorem ZGG{a b:yL yB}(h:a.length<=2000000):Ye yD a b=some (decide (a=b)):=by
 obtain⟨r,hr⟩:=ZDO (a:=a) (b:=b) h;by_cases hab:a=b
 ·subst hab;rw[Ztp h,yY rfl]
 ·rw[yZ hab];unfold Ye;by_cases hl:a.length=b.length
  ·rw[yX (by simp[hl])]
   obtain⟨x,h1,h2⟩:=Z9 (step:=ZN yD) a.length (λk s=>s=(a,b,(a.length:Int),(k:Int))/\a.take k=b.take k) (λx=>x=.inl false) (i:=(a,b,(a.length:Int),(0:Int))) ⟨rfl,rfl⟩ (by omega) (by
    rintro k _ hk ⟨rfl,ht⟩;obtain⟨e,he,_⟩:=Zh hk;obtain⟨f,hf,_⟩:=Zh (l:=b) (k:=k) (by omega);unfold ZN;dsimp only;rw[yW (ZD hk),Zs he,ya,Zs hf,ya,Zj (by omega)];by_cases hef:e=f
    ·left;rw[yX (by simp[hef])];exact⟨_,rfl,rfl,by rw[List.take_add_one,List.take_add_one,ht,he,hf,hef]⟩
    ·right;rw[yW (bne_iff_ne.2 hef)];exact⟨_,rfl,rfl⟩) (by
    rintro _ ⟨rfl,ht⟩;rw[yag,hl,yag] at ht;exact absurd ht hab)
   rw[h1,ya,h2]
  ·rw[yW (by simp;omega)]
theorem Zxf{b:yL yB}(hb:b.length<=2000000):∃l ok,ZbA yD b=some (l,ok)/\(ok=true->Vm l/\QV l/\Qj l=b)/\(ok=false->l=[]):=by
 unfold ZbA;rw[Zre hb,ya,QI hb,ya];have hnl:=Y6 (b,false);generalize Xz (b,false)=q at hnl;obtain⟨n,r⟩:=q;dsimp only at hnl ⊢
 obtain⟨x,h1,r',acc,rfl,h2,h3⟩:=Z9 (step:=VX yD) (min n.toNat 4) (λk s=>∃r acc,s=(b,n,(k:Int),([]:Z8),r,acc)/\r.1.length<=2000000/\acc.length=k/\∀e,e∈acc->e.1.length<=12) (λx=>∃r acc,x=(b,([]:Z8),r,acc)/\acc.length<=4/\∀e,e∈acc->e.1.length<=12)
  (i:=(b,n,(0:Int),([]:Z8),r,([]:yL ZH))) ⟨r,[],rfl,by omega,rfl,λe he=>by cases he⟩ (by omega) (by
  rintro k _ hk ⟨r,acc,rfl,h1,h2,h3⟩;have hl:=Y6 r;unfold VX;dsimp only;rw[yW (yY (by omega)),QI h1,ya,yX (by rw[yT];omega)];by_cases hk12:(Xz r).1 > 12
  ·right;rw[yW (yY hk12)];exact⟨_,rfl,_,_,rfl,by omega,h3⟩
  ·left;rw[yX (by rw[yN];exact hk12)];obtain⟨r2,w,e1,e2,e3⟩:=ZGF (b:=b) (n:=n) (i:=(k:Int)) (m:=(Xz r).1) (l:=[]) (r:=(Xz r).2) (acc:=acc) (i1:=0) (i2:=0) (u:=0) (by omega) (by omega);have hl2:=Y6 r2;have hl3:=Y6 (Xz r2).2;have hl4:=Zbh (Xz (Xz r2).2).2;rw[e1,ya];dsimp only;rw[QI e2,ya,QI (by omega),ya,Zea (by omega),ya,yW (ZF (by omega) (by omega)),Zj (by omega)];refine⟨_,rfl,_,_,rfl,by omega,by simp[h2],λe he=> ?_⟩;rcases ycp.1 he with he|he
   ·exact h3 e he
   ·rw[ybc.1 he];exact e3) (by
  rintro _ ⟨r,acc,rfl,h1,h2,h3⟩;unfold VX;dsimp only;by_cases hn:((min n.toNat 4:Nat):Int) < n
  ·rw[yW (yY hn),QI h1,ya,yW (by rw[yT];omega)];exact⟨_,rfl,_,_,rfl,by omega,h3⟩
  ·rw[yX (by rw[yN];exact hn)];exact⟨_,rfl,_,_,rfl,by omega,h3⟩)
 rw[h1,ya];dsimp only;have hw:LockWf acc:=⟨by omega,λe he=>by have:=h3 e he;omega⟩;obtain⟨k,hk1,hk2⟩:=Zg7 hw;rw[hk1,ya]
 cases k with
 |false=>exact⟨_,_,rfl,λh=>(by cases h),λ_=>rfl⟩
 |true=>
  have hk:=hk2.1 rfl;have zB:=Zb1 hk.1;rw[yX (by decide),Znz hk.1 hk.2,ya,ZGG (by omega),ya];by_cases hz:Qj acc=b
  ·rw[yY hz,yX (by decide)];exact⟨_,_,rfl,λ_=>⟨hk.1,hk.2,hz⟩,λh=>(by cases h)⟩
  ·rw[yZ hz,yW (by decide)];exact⟨_,_,rfl,λh=>(by cases h),λ_=>rfl⟩
open Classical in
noncomputable def rdF(b:yL yB):Z8×Bool:=if h:∃l,Vm l/\QV l/\Qj l=b then(h.choose,true) else([],false)
theorem ZCv{b:yL yB}(hb:b.length<=2000000):ZbA yD b=some (rdF b):=by
 obtain⟨l,ok,h1,h2,h3⟩:=Zxf hb;unfold rdF;by_cases h:∃l,Vm l/\QV l/\Qj l=b
 ·obtain⟨c1,c2,c3⟩:=h.choose_spec;have:=ZpE c1 c2;rw[c3] at this;rw[dif_pos h,this]
 ·rw[dif_neg h,h1]
  cases ok with
  |false=>rw[h3 rfl]
  |true=>exact absurd ⟨l,h2 rfl⟩ h
theorem ZDR{n i m:Int}{l:Z8}{r:Zo}{acc:yL ZH}{i1 i2:Int}{u:yU}(hr:r.1.length<=2000000):
 ∃r' w,Zf (ZY yD) yD (n,i,m,(0:Int),r,l,acc,i1,i2,u,([]:yL yU))=some (n,i,r',l,acc,i1,i2,u,w)/\r'.1.length<=2000000/\w.length<=13:=by
 obtain⟨x,h1,r',w,rfl,h2⟩:=Z9 (step:=ZY yD) (min m.toNat 13) (λk s=>∃r' w,s=(n,i,m,(k:Int),r',l,acc,i1,i2,u,w)/\r'.1.length<=2000000/\w.length=k) (λx=>∃r' w,x=(n,i,r',l,acc,i1,i2,u,w)/\r'.1.length<=2000000/\w.length<=13)
  (i:=(n,i,m,(0:Int),r,l,acc,i1,i2,u,([]:yL yU))) ⟨r,[],rfl,hr,rfl⟩ (by omega) (by
  rintro k _ hk ⟨r',w,rfl,h1,h2⟩;left;have hl:=Zbh r';unfold ZY;dsimp only;rw[yW (yY (by omega)),yW (yY (by omega)),Zed h1,ya,yW (ZF (by omega) (by omega)),Zj (by omega)];exact⟨_,rfl,_,_,rfl,by omega,by simp[h2]⟩) (by
  rintro _ ⟨r',w,rfl,h1,h2⟩;unfold ZY;dsimp only;by_cases hm:((min m.toNat 13:Nat):Int) < m
  ·rw[yW (yY hm),yX (ynd (by omega))];exact⟨_,rfl,_,_,rfl,h1,by omega⟩
  ·rw[yX (by rw[yN];exact hm)];exact⟨_,rfl,_,_,rfl,h1,by omega⟩)
 exact⟨r',w,h1,h2⟩
theorem Zzg{r:Zo}(hr:r.1.length<=2000000):∃l r',XO yD r=some (l,r')/\l.length<=5/\∀e,e∈l->e.1.length<=13:=by
 unfold XO;have hnl:=Y6 r;rw[X9 hr,ya];generalize Xz r=q at hnl;obtain⟨n,r1⟩:=q;dsimp only at hnl ⊢
 obtain⟨x,h1,r',acc,rfl,h2,h3⟩:=Z9 (step:=Yy yD) (min n.toNat 5) (λk s=>∃r acc,s=(n,(k:Int),r,([]:Z8),acc)/\r.1.length<=2000000/\acc.length=k/\∀e,e∈acc->e.1.length<=13) (λx=>∃r acc,x=(r,([]:Z8),acc)/\acc.length<=5/\∀e,e∈acc->e.1.length<=13)
  (i:=(n,(0:Int),r1,([]:Z8),([]:yL ZH))) ⟨r1,[],rfl,by omega,rfl,λe he=>by cases he⟩ (by omega) (by
  rintro k _ hk ⟨r,acc,rfl,h1,h2,h3⟩;left;have hl:=Y6 r;unfold Yy;dsimp only;rw[yW (yY (by omega)),yW (yY (by omega)),X9 h1,ya];obtain⟨r2,w,e1,e2,e3⟩:=ZDR (n:=n) (i:=(k:Int)) (m:=(Xz r).1) (l:=[]) (r:=(Xz r).2) (acc:=acc) (i1:=0) (i2:=0) (u:=0) (by omega);have hl2:=Y6 r2;have hl3:=Y6 (Xz r2).2;have hl4:=Zbh (Xz (Xz r2).2).2;rw[e1,ya];dsimp only;rw[X9 e2,ya,X9 (by omega),ya,Zed (by omega),ya,yW (ZF (by omega) (by omega)),Zj (by omega)];refine⟨_,rfl,_,_,rfl,by omega,by simp[h2],λe he=> ?_⟩;rcases ycp.1 he with he|he
  ·exact h3 e he
  ·rw[ybc.1 he];exact e3) (by
  rintro _ ⟨r,acc,rfl,h1,h2,h3⟩;unfold Yy;dsimp only;by_cases hn:((min n.toNat 5:Nat):Int) < n
  ·rw[yW (yY hn),yX (ynd (by omega))];exact⟨_,rfl,_,_,rfl,by omega,h3⟩
  ·rw[yX (by rw[yN];exact hn)];exact⟨_,rfl,_,_,rfl,by omega,h3⟩)
 rw[h1,ya];exact⟨_,_,rfl,h2,h3⟩
theorem ZA0{n i:Int}{l:Z8}{yJ:yL yB}{acc:yL ZH}{i1 i2:Int}{u:yU}{ks:yL yU}(hk:ks.length<=12)(hr:yJ.length<=100000):
 Zf (ZY yD) yD (n,i,(ks.length:Int),(0:Int),(cat Ziq ks++yJ,false),l,acc,i1,i2,u,([]:yL yU))=some (n,i,(yJ,false),l,acc,i1,i2,u,ks):=by
 refine ZC ks.length (λk:Nat=>(n,i,(ks.length:Int),(k:Int),(cat Ziq (ks.drop k)++yJ,false),l,acc,i1,i2,u,ks.take k)) ?_ ?_ (by omega)
 ·intro k hk2;obtain⟨e,he,_⟩:=Zh hk2;have hl:=ZW (f:=Ziq) (c:=8) (λx _=>Nat.le_of_eq (ZU _)) hk k;unfold ZY;dsimp only;rw[yW (ZD hk2),yW (yY (by omega)),Zed (by dsimp only;rw[yj];omega),ya,ZaP he,yx];unfold Ziq;rw[Zeb,yW (ZF (by rw[yv];omega) (by rw[yv];omega)),Zj (by omega),YW he]
 ·unfold ZY;dsimp only;rw[yX (by rw[Zx];decide),ycm,yag];rfl
theorem Zxg{l:Z8}(h:Vm l)(hp:QV l):XO yD (Qj l,false)=some (l,([],false)):=by
 have zB:=Zb1 h;unfold XO;rw[X9 (by dsimp only;omega),ya];have h0:=h.2.1
 have e0:Xz (Qj l,false)=((l.length:Int),(cat brF l,false)):=by
  have:=Wx (z:=(l.length:Int)) (by omega) (by omega) (cat brF l);rw[yaj] at this;exact this
 have hbl:∀k,(cat brF (l.drop k)).length<=4*131:=ZW (λx hx=>ZoN (h.2.2 x hx)) h0;rw[e0];dsimp only
 rw[show((l.length:Int),(0:Int),(cat brF l,false),([]:Z8),([]:yL ZH))=(λk:Nat=>((l.length:Int),(k:Int),(cat brF (l.drop k),false),([]:Z8),l.take k)) 0 from rfl,
  ZC (x:=((([]:yL yB),false),([]:Z8),l)) l.length (λk:Nat=>((l.length:Int),(k:Int),(cat brF (l.drop k),false),([]:Z8),l.take k)) ?_ ?_ (by omega),ya]
 ·intro k hk;obtain⟨e,he,hm⟩:=Zh hk;obtain⟨e1,e2,e3,e4,e5⟩:=h.2.2 e hm;have hl:=hbl k;have hl2:=hbl (k+1);have r2:=Zz (n:=e.2.1.toNat) (by omega);have r3:=Zz (n:=e.2.2.1.toNat) (by omega);have r4:=ZU e.2.2.2.toNat
  have hks:=ZW (f:=Ziq) (c:=8) (l:=e.1) (λx _=>Nat.le_of_eq (ZU _)) e1 0;rw[List.drop_zero] at hks;unfold Yy;dsimp only;rw[yW (ZD hk),yW (yY (by omega)),X9 (by dsimp only;omega),ya,ZaP he];unfold brF;simp only[yx];have q1:=Wx (z:=(e.1.length:Int)) (by omega) (by omega) (cat Ziq e.1++(Yu e.2.1.toNat++(Yu e.2.2.1.toNat++(QU e.2.2.2.toNat++cat brF (l.drop (k+1))))));rw[yaj] at q1;unfold brF at q1 hl2;rw[q1];dsimp only;rw[ZA0 e1 (by simp only[yj];omega),ya];dsimp only;rw[X9 (by simp only[yj];omega),ya,Wx e2 (by omega)];dsimp only;rw[X9 (by simp only[yj];omega),ya,Wx e4 (by omega)];dsimp only;rw[Zed (by simp only[yj];omega),ya,Zeb,yW (ZF (by rw[yv];omega) (by rw[yv];omega)),Zj (by omega),YW he]
 ·unfold Yy;dsimp only;rw[yX (by rw[Zx];decide),ycm,yag];rfl
theorem ZdX(a b:yL yB):((V1 a).data.toList==(V1 b).data.toList)=decide (a=b):=by
 have:(V1 a).data.toList=a/\(V1 b).data.toList=b:=⟨rfl,rfl⟩;rw[this.1,this.2];by_cases h:a=b
 ·rw[yY h,beq_iff_eq.2 h]
 ·rw[yZ h,beq_eq_false_iff_ne.2 h]
theorem ZoQ{b:yL yB}(h:b.length<=2000000):Vg yD b=some (b,false):=by
 unfold Vg;rw[yW (ZF (by omega) (by omega))]
theorem Zzh{b:yL yB}(hb:b.length<=2000000):Vh yD b=some (rdF b):=by
 unfold rdF;by_cases h:∃l,Vm l/\QV l/\Qj l=b
 ·obtain⟨c1,c2,c3⟩:=h.choose_spec;rw[dif_pos h];have hp:=Zxg c1 c2;have hy:=ZlP c1 c2;have hr:=Zzf c1 c2;generalize h.choose=l at c1 c2 c3 hp hy hr;unfold Vh;rw[ZoQ hb,ya, <-c3,hp,ya];dsimp only;rw[hr,ya,yX (by decide),hy,ya,ZdX,yY rfl];rfl
 ·rw[dif_neg h];obtain⟨l,r',p1,p2,p3⟩:=Zzg (r:=(b,false)) hb;obtain⟨z,z1,z2⟩:=Zf0 (l:=l) ⟨by omega,λe he=>by have:=p3 e he;omega⟩;unfold Vh;rw[ZoQ hb,ya,p1,ya];dsimp only;rw[z1,ya]
  cases z with
  |false=>rfl
  |true=>
   obtain⟨k1,k2⟩:=z2.1 rfl;rw[yX (by decide),ZlP k1 k2,ya,ZdX,yZ (λe=>h ⟨l,k1,k2,e⟩)];rfl
theorem Zvv{t:Tx}(hw:TxWf t)(h:ZAY t):WP yD t=some (ZdT t):=by
 obtain⟨ins,outs,note⟩:=t;obtain⟨w1,w2⟩:=hw;obtain⟨t1,t2,t3,t4,t5,t6⟩:=h;dsimp only at w1 w2 t1 t2 t3 t4 t5 t6;have r1:=Zz (n:=ins.length) (by omega);have r2:=Zz (n:=outs.length) (by omega);have ci:∀k,(cat inF (ins.take k)).length<=64*41:=VT (λx hx=>Zmk (w1 x hx) (t5 x hx)) t2;have co:∀k,(cat ZbD (outs.take k)).length<=64*551:=VT (λx hx=>Zjc (t6 x hx)) t3;have ci':=ci ins.length;rw[yag] at ci';have co':=co outs.length;rw[yag] at co';unfold WP;dsimp only;rw[Zbn (by omega) (by omega) (by simp),ya,yy,yaj]
 have q:=ZC (step:=Xe yD) ins.length (λk:Nat=>(Yu ins.length++cat inF (ins.take k),(k:Int),(ins,outs,note))) (x:=(Yu ins.length++cat inF ins,(ins,outs,note))) (by
  intro k hk;obtain⟨e,he,hm⟩:=Zh hk;have hc:=ci k;have h32:=w1 e hm;have hi:=t5 e hm;unfold Xe;dsimp only;rw[yW (ZD hk),Zs he,ya,Ze0 (by rw[yj];omega) h32,ya,ya,Zbn hi.1 (by have:=hi.2.1;omega) (by simp only[yj];omega),ya,Zj (by omega),QM he];unfold inF;simp only[yx]) (by
  unfold Xe;dsimp only;rw[yX (by rw[Zx];decide),yag]) (by omega)
 rw[show cat inF (ins.take 0)=[] from rfl,yas] at q
 have q:Zf (Xe yD) yD (Yu ins.length,(0:Int),(ins,outs,note))=_:=q;rw[q,ya];dsimp only;rw[Zbn (by omega) (by omega) (by rw[yj];omega),ya,yaj]
 have p:=ZC (step:=Xf yD) outs.length (λk:Nat=>(Yu ins.length++cat inF ins++Yu outs.length++cat ZbD (outs.take k),(k:Int),(ins,outs,note))) (x:=(Yu ins.length++cat inF ins++Yu outs.length++cat ZbD outs,(ins,outs,note))) (by
  intro k hk;obtain⟨e,he,hm⟩:=Zh hk;have hc:=co k;obtain⟨o1,o2,o3,o4⟩:=t6 e hm;have hl:=Zb1 o3;have hr:=Zz (n:=e.1.toNat) (by omega);unfold Xf;dsimp only;rw[yW (ZD hk),Zs he,ya,Zbn o1 (by omega) (by simp only[yj];omega),ya,ya,ZlP o3 o4,ya,Zxc (by simp only[yj];omega) (by omega),ya,Zj (by omega),QM he];unfold ZbD;simp only[yx]) (by
  unfold Xf;dsimp only;rw[yX (by rw[Zx];decide),yag]) (by omega)
 rw[show cat ZbD (outs.take 0)=[] from rfl,yas] at p
 have p:Zf (Xf yD) yD (Yu ins.length++cat inF ins++Yu outs.length,(0:Int),(ins,outs,note))=_:=p;rw[p,ya];dsimp only;rw[Zbn t4 w2 (by simp only[yj];omega),ya];unfold ZdT;simp only[yx]
theorem Zrf(p q:Prop)[Decidable p][Decidable q]{b:Bool}(h:b=decide (p/\q)):(if decide p=true then some (decide q) else some false)=some b:=by
 subst h;by_cases h1:p
 ·rw[yW (yY h1)];by_cases h2:q
  ·rw[yY h2,yY ⟨h1,h2⟩]
  ·rw[yZ h2,yZ λh=>h2 h.2]
 ·rw[yX (by rw[yN];exact h1),yZ λh=>h1 h.1]
theorem ZCw{p q:Prop}[Decidable p][Decidable q][Decidable (p/\q)]{x:yO Bool}(h:x=some (decide q)):(if decide p=true then x else some false)=some (decide (p/\q)):=by
 rw[h];exact Zrf p q (by congr)
def Zko(n:Nat)(ok:Nat->Prop):Prop:=∀k,k < n->ok k
theorem Zjf{I X:Type}{step:I->yO (I⊕X)}(n:Nat)(st:Nat->I)(ok:Nat->Prop)(good:X)(bad:Nat->X)
 (h1:∀k,k < n->(∀j,j < k->ok j)->ok k->step (st k)=some (.inl (st (k+1)))) (h2:∀k,k < n->(∀j,j < k->ok j)->¬ok k->step (st k)=some (.inr (bad k))) (he:(∀j,j < n->ok j)->step (st n)=some (.inr good)) (hn:n < 18446744073709551616):
 ∃x,Zf step yD (st 0)=some x/\(Zko n ok/\x=good\/¬Zko n ok/\∃k,x=bad k):=by
 refine Z9 (step:=step) n (λk s=>s=st k/\∀j,j < k->ok j) _ (i:=st 0) ⟨rfl,λj h=>by omega⟩ hn ?_ ?_
 ·rintro k _ hk ⟨rfl,hj⟩;by_cases h:ok k
  ·left;refine⟨_,h1 k hk hj h,rfl,λj hjk=> ?_⟩;by_cases e:j=k
   ·rw[e];exact h
   ·exact hj j (by omega)
  ·right;exact⟨_,h2 k hk hj h,.inr ⟨λq=>h (q k hk),k,rfl⟩⟩
 ·rintro _ ⟨rfl,hj⟩;exact⟨_,he hj,.inl ⟨hj,rfl⟩⟩
theorem ZpF{K V:Type}[DecidableEq K](k:K)(v:V)(k':K):∀m:yL (K×V),Zek (Zkq m k v) k'=if k'=k then some v else Zek m k'
 |[]=>rfl
 |q::m=>by
  have ih:=ZpF k v k' m;unfold Zkq;by_cases h:k=q.1
  ·rw[yW h];unfold Zek;by_cases h2:k'=k
   ·rw[yW h2,yW h2]
   ·rw[yX h2,yX h2,yX (by rw[<-h];exact h2)]
  ·rw[yX h];unfold Zek;by_cases h3:k'=q.1
   ·rw[yW h3,yW h3,yX (by rw[h3];exact λq=>h q.symm)]
   ·rw[yX h3,yX h3,ih]
def ZlQ(l:yL In):yL (Xs×Bool):=l.foldl (λm x=>Zkq m x.1 true) []
theorem ZCx{l:yL In}{k:Nat}{x:In}(h:l[k]? =some x):ZlQ (l.take (k+1))=Zkq (ZlQ (l.take k)) x.1 true:=by
 rw[YW h,ZlQ,List.foldl_append];rfl
theorem Ztr(l:yL In)(p:Xs):∀k,k<=l.length->(Zek (ZlQ (l.take k)) p=some true/\(∃j y,j < k/\l[j]? =some y/\y.1=p))\/(Zek (ZlQ (l.take k)) p=none/\∀j y,j < k->l[j]? =some y->y.1≠p)
 |0,_=>.inr ⟨rfl,λj y h=>by omega⟩
 |k+1,hk=>by
  obtain⟨x,hx,_⟩:=Zh (l:=l) (k:=k) (by omega);rw[ZCx hx,ZpF];by_cases h:p=x.1
  ·rw[yW h];exact .inl ⟨rfl,k,x,by omega,hx,h.symm⟩
  ·rw[yX h];rcases Ztr l p k (by omega) with⟨h1,j,y,h2,h3,h4⟩|⟨h1,h2⟩
   ·exact .inl ⟨h1,j,y,by omega,h3,h4⟩
   ·refine .inr ⟨h1,λj y h3 h4=> ?_⟩;by_cases e:j=k
    ·subst e;rw[hx] at h4;cases h4;exact λq=>h q.symm
    ·exact h2 j y (by omega) h4
def ZoR(w:XA):Prop:=0<=w.1/\w.1 < 4/\w.2.1.length<=12
instance(w:XA):Decidable (ZoR w):=by unfold ZoR;infer_instance
theorem ZGH(w:XA):Zeo yD w=some (decide (ZoR w)):=by
 unfold Zeo;refine(ZCw (q:=w.1 < 4/\(w.2.1.length:Int)<=12) (Zrf _ _ rfl)).trans (congrArg some (decide_eq_decide.2 ?_));unfold ZoR;omega
theorem ZCy(w:XA):WW yD w=some (decide (ZoR w)):=by
 unfold WW;refine(ZCw (q:=w.1<=3/\(w.2.1.length:Int)<=12) (Zrf _ _ rfl)).trans (congrArg some (decide_eq_decide.2 ?_));unfold ZoR;omega
def ZDS(l:yL In)(k:Nat):Prop:=∀x,l[k]? =some x->(0<=x.1.2/\x.1.2 < 64)/\ZoR x.2/\∀j y,j < k->l[j]? =some y->y.1≠x.1
theorem ZDT(t:Tx)(hl:t.1.length<=100):∃x,Zf (ZaY yD) yD (t.1,(t.1.length:Int),(0:Int),t,([]:yL (Xs×Bool)))=some x/\(Zko t.1.length (ZDS t.1)/\x=.inr (t,ZlQ t.1)\/¬Zko t.1.length (ZDS t.1)/\∃k:Nat,x=.inl (false,t,ZlQ (t.1.take k))):=by
 refine Zjf t.1.length (λk:Nat=>(t.1,(t.1.length:Int),(k:Int),t,ZlQ (t.1.take k))) (ZDS t.1) (Sum.inr (t,ZlQ t.1)) (λk=>Sum.inl (false,t,ZlQ (t.1.take k))) ?_ ?_ ?_ (by omega)
 ·intro k hk _ hok;obtain⟨x,hx,_⟩:=Zh hk;obtain⟨o1,o2,o3⟩:=hok x hx;unfold ZaY;dsimp only;rw[yW (ZD hk),Zs hx,ya];rcases Ztr t.1 x.1 k (by omega) with⟨_,j,y,h2,h3,h4⟩|⟨h1,_⟩
  ·exact absurd h4 (o3 j y h2 h3)
  ·rw[h1];unfold Zk0;dsimp only;rw[yX (show¬decide (x.1.2 < 0)=true by rw[yN];omega),yX (show¬decide (x.1.2 >= 64)=true by rw[yN];omega),ZGH,ya,yY o2,yX (by decide),Zj (by omega),ZCx hx]
 ·intro k hk _ hno;obtain⟨x,hx,_⟩:=Zh hk;unfold ZaY;dsimp only;rw[yW (ZD hk),Zs hx,ya];rcases Ztr t.1 x.1 k (by omega) with⟨h1,_⟩|⟨h1,h2⟩
  ·rw[h1];unfold Zk0;dsimp only;rw[yW rfl]
  ·rw[h1];unfold Zk0;dsimp only;by_cases c1:x.1.2 < 0
   ·rw[yW (yY c1)]
   ·rw[yX (show¬decide (x.1.2 < 0)=true by rw[yN];exact c1)];by_cases c2:x.1.2 >= 64
    ·rw[yW (yY c2)]
    ·rw[yX (show¬decide (x.1.2 >= 64)=true by rw[yN];exact c2),ZGH,ya];by_cases c3:ZoR x.2
     ·refine absurd ?_ hno;intro x' hx';rw[hx] at hx';cases hx';exact⟨⟨by omega,by omega⟩,c3,h2⟩
     ·rw[yZ c3,yW (by decide)]
 ·intro _;unfold ZaY;dsimp only;rw[yX (by rw[Zx];decide),yag]
theorem Zvw(t:Tx){k:Nat}(hk:k<=100)(hkl:k<=t.1.length)(x:In):∃r,Zf (YD yD) yD ((k:Int),(0:Int),t,x)=some r/\((∀j y,j < k->t.1[j]? =some y->y.1≠x.1)/\r=.inr ((k:Int),t,x)\/(¬∀j y,j < k->t.1[j]? =some y->y.1≠x.1)/\r=.inl (false,t,x)):=by
 obtain⟨r,r1,r2⟩:=Zjf (step:=YD yD) k (λj:Nat=>((k:Int),(j:Int),t,x)) (λj=>∀y,t.1[j]? =some y->y.1≠x.1) (.inr ((k:Int),t,x)) (λ_=>.inl (false,t,x)) (by
  intro j hj _ hok;obtain⟨y,hy,_⟩:=Zh (l:=t.1) (k:=j) (by omega);unfold YD;dsimp only;rw[yW (ZD hj),Zs hy,ya,yX (by rw[yN];exact hok y hy),Zj (by omega)]) (by
  intro j hj _ hno;obtain⟨y,hy,_⟩:=Zh (l:=t.1) (k:=j) (by omega)
  have h:y.1=x.1:=by
   by_cases h:y.1=x.1
   ·exact h
   ·refine absurd ?_ hno;intro y' hy';rw[hy] at hy';cases hy';exact h
  unfold YD;dsimp only;rw[yW (ZD hj),Zs hy,ya,yW (yY h)]) (by
  intro _;unfold YD;dsimp only;rw[yX (by rw[Zx];decide)]) (by omega)
 refine⟨r,r1, ?_⟩;rcases r2 with⟨h1,h2⟩|⟨h1,_,h2⟩
 ·exact .inl ⟨λj y hj hy=>h1 j hj y hy,h2⟩
 ·exact .inr ⟨λq=>h1 λj hj y hy=>q j y hj hy,h2⟩
theorem ZDU(t:Tx)(hl:t.1.length<=100):∃x,Zf (Xa yD) yD ((0:Int),t)=some x/\(Zko t.1.length (ZDS t.1)/\x=.inr t\/¬Zko t.1.length (ZDS t.1)/\∃k:Nat,x=.inl (false,t)):=by
 refine Zjf t.1.length (λk:Nat=>((k:Int),t)) (ZDS t.1) (Sum.inr t) (λ_=>Sum.inl (false,t)) ?_ ?_ ?_ (by omega)
 ·intro k hk _ hok;obtain⟨x,hx,_⟩:=Zh hk;obtain⟨o1,o2,o3⟩:=hok x hx;unfold Xa;dsimp only;rw[yW (ZD hk),Zs hx,ya,yX (show¬decide (x.1.2 < 0)=true by rw[yN];omega),yX (show¬decide (x.1.2 > 63)=true by rw[yN];omega),ZCy,ya,yY o2,yX (by decide)];obtain⟨r,r1,⟨_,rfl⟩|⟨h,_⟩⟩:=Zvw t (k:=k) (by omega) (by omega) x
  ·rw[r1,ya];dsimp only;rw[Zj (by omega)]
  ·exact absurd o3 h
 ·intro k hk _ hno;obtain⟨x,hx,_⟩:=Zh hk;unfold Xa;dsimp only;rw[yW (ZD hk),Zs hx,ya];by_cases c1:x.1.2 < 0
  ·rw[yW (yY c1)]
  ·rw[yX (show¬decide (x.1.2 < 0)=true by rw[yN];exact c1)];by_cases c2:x.1.2 > 63
   ·rw[yW (yY c2)]
   ·rw[yX (show¬decide (x.1.2 > 63)=true by rw[yN];exact c2),ZCy,ya];by_cases c3:ZoR x.2
    ·rw[yY c3,yX (by decide)];obtain⟨r,r1,⟨h,rfl⟩|⟨h,rfl⟩⟩:=Zvw t (k:=k) (by omega) (by omega) x
     ·refine absurd ?_ hno;intro x' hx';rw[hx] at hx';cases hx';exact⟨⟨by omega,by omega⟩,c3,h⟩
     ·rw[r1,ya]
    ·rw[yZ c3,yW (by decide)]
 ·intro _;unfold Xa;dsimp only;rw[yX (by rw[Zx];decide)]
theorem Zzi(z:Int):ZjK yD z=some (decide (0<=z/\z<=1125899906842624)):=Zrf (z >= 0) (z<=1125899906842624) rfl
theorem Zzj{a b:Int}(h0:0<=a)(h1:a<=1125899906842624):ZoB yD a b=some (if(0<=b/\b<=1125899906842624)/\a+b<=1125899906842624 then(a+b,true) else(0,false)):=by
 unfold ZoB;rw[Zzi,ya,yY (p:=0<=a/\a<=1125899906842624) ⟨h0,h1⟩,yX (show¬(!true)=true by decide),Zzi,ya];by_cases hb:0<=b/\b<=1125899906842624
 ·rw[yY hb,yX (show¬(!true)=true by decide),Yj (z:=1125899906842624 - b) (by omega) (by omega),Yj (z:=a+b) (by omega) (by omega)];by_cases h:a+b<=1125899906842624
  ·rw[yX (show¬decide (a > 1125899906842624 - b)=true by rw[yN];omega),yW ⟨hb,h⟩]
  ·rw[yW (show decide (a > 1125899906842624 - b)=true from yY (by omega)),yX λq=>h q.2]
 ·rw[yZ hb,yW (show(!false)=true by decide),yX λq=>hb q.1]
structure TxL(t:Tx):Prop where
 ins:t.1.length<=70
 outs:t.2.1.length<=70
 locks:∀o,o∈t.2.1->LockWf o.2
def ZGI(o:Out):Prop:=(0<=o.1/\o.1<=1125899906842624)/\Vm o.2/\QV o.2
def Zzk(l:yL Out)(k:Nat):Prop:=∀o,l[k]? =some o->ZGI o/\Zff (l.take (k+1))<=1125899906842624
def Zts(l:yL Out)(k:Nat):Prop:=∀o,l[k]? =some o->ZGI o
theorem Zxh{l:yL Out}:∀k,k<=l.length->(∀j,j < k->Zts l j)->0<=Zff (l.take k)/\Zff (l.take k)<=k*1125899906842624
 |0,_,_=>by simp[Zff]
 |k+1,hk,h=>by
  obtain⟨o,ho,_⟩:=Zh (l:=l) (k:=k) (by omega);have ih:=Zxh k (by omega) λj hj=>h j (by omega);have hc:=(h k (by omega) o ho).1;rw[Zjd ho];omega
theorem ZA1{t:Tx}(hl:TxL t)(m:yL (Xs×Bool)):∃x,Zf (ZaZ yD) yD ((0:Int),t.2.1,(t.2.1.length:Int),(0:Int),t,m)=some x/\(Zko t.2.1.length (Zzk t.2.1)/\x=.inr (t,m)\/¬Zko t.2.1.length (Zzk t.2.1)/\∃k:Nat,x=.inl (false,t,m)):=by
 have hw:=hl.outs
 have sm:∀k,k<=t.2.1.length->(∀j,j < k->Zzk t.2.1 j)->0<=Zff (t.2.1.take k)/\Zff (t.2.1.take k)<=1125899906842624:=by
  intro k hk h;refine⟨(Zxh k hk λj hj o ho=>(h j hj o ho).1).1, ?_⟩
  cases k with
  |zero=>simp[Zff]
  |succ k=>
   obtain⟨o,ho,_⟩:=Zh (l:=t.2.1) (k:=k) (by omega);exact(h k (by omega) o ho).2
 refine Zjf t.2.1.length (λk:Nat=>(Zff (t.2.1.take k),t.2.1,(t.2.1.length:Int),(k:Int),t,m)) (Zzk t.2.1) (Sum.inr (t,m)) (λ_=>Sum.inl (false,t,m)) ?_ ?_ ?_ (by omega)
 ·intro k hk hj hok;obtain⟨o,ho,hm⟩:=Zh hk;obtain⟨⟨o1,o2⟩,o3⟩:=hok o ho;rw[Zjd ho] at o3;obtain⟨s0,s1⟩:=sm k (by omega) hj;obtain⟨b,b1,b2⟩:=Zg7 (hl.locks o hm);unfold ZaZ;dsimp only;rw[yW (ZD hk),Zs ho,ya,Zzj s0 s1,yW ⟨o1,o3⟩,ya,yX (by simp),b1,ya,b2.2 o2,yX (by decide),Zj (by omega),Zjd ho]
 ·intro k hk hj hno;obtain⟨o,ho,hm⟩:=Zh hk;obtain⟨s0,s1⟩:=sm k (by omega) hj;obtain⟨b,b1,b2⟩:=Zg7 (hl.locks o hm);unfold ZaZ;dsimp only;rw[yW (ZD hk),Zs ho,ya,Zzj s0 s1,ya];by_cases c:(0<=o.1/\o.1<=1125899906842624)/\Zff (t.2.1.take k)+o.1<=1125899906842624
  ·rw[yW c,yX (by simp),b1,ya]
   cases b with
   |true=>
    refine absurd ?_ hno;intro o' ho';rw[ho] at ho';cases ho';rw[Zjd ho]
    exact⟨⟨c.1,b2.1 rfl⟩,c.2⟩
   |false=>rw[yW (by decide)]
  ·rw[yX c,yW (by simp)]
 ·intro _;unfold ZaZ;dsimp only;rw[yX (by rw[Zx];decide)]
theorem ZA2{t:Tx}(hl:TxL t):∃x,Zf (Xb yD) yD ((0:Int),(0:Int),t)=some x/\(Zko t.2.1.length (Zts t.2.1)/\x=.inr (Zff t.2.1,t)\/¬Zko t.2.1.length (Zts t.2.1)/\∃k:Nat,x=.inl (false,t)):=by
 have hw:=hl.outs;refine Zjf t.2.1.length (λk:Nat=>(Zff (t.2.1.take k),(k:Int),t)) (Zts t.2.1) (Sum.inr (Zff t.2.1,t)) (λ_=>Sum.inl (false,t)) ?_ ?_ ?_ (by omega)
 ·intro k hk hj hok;obtain⟨o,ho,hm⟩:=Zh hk;obtain⟨o1,o2⟩:=hok o ho;obtain⟨s0,s1⟩:=Zxh k (by omega) hj;obtain⟨b,b1,b2⟩:=Zf0 (hl.locks o hm);have hk70:(k:Int)<=70:=by omega
  unfold Xb;dsimp only;rw[yW (ZD hk),Zs ho,ya,yX (show¬decide (o.1 < 0)=true by rw[yN];omega),yX (show¬decide (o.1 > 1125899906842624)=true by rw[yN];omega),b1,ya,b2.2 o2,yX (by decide),Zj (by omega),Zjd ho,Yj (z:=Zff (t.2.1.take k)+o.1) (by omega) (by omega)]
 ·intro k hk hj hno;obtain⟨o,ho,hm⟩:=Zh hk;obtain⟨b,b1,b2⟩:=Zf0 (hl.locks o hm);unfold Xb;dsimp only;rw[yW (ZD hk),Zs ho,ya];by_cases c1:o.1 < 0
  ·rw[yW (yY c1)]
  ·rw[yX (show¬decide (o.1 < 0)=true by rw[yN];exact c1)];by_cases c2:o.1 > 1125899906842624
   ·rw[yW (yY c2)]
   ·rw[yX (show¬decide (o.1 > 1125899906842624)=true by rw[yN];exact c2),b1,ya]
    cases b with
    |true=>
     refine absurd ?_ hno;intro o' ho';rw[ho] at ho';cases ho'
     exact⟨⟨by omega,by omega⟩,b2.1 rfl⟩
    |false=>rw[yW (by decide)]
 ·intro _;unfold Xb;dsimp only;rw[yX (by rw[Zx];decide),yag]
theorem Zzl{l:yL Out}(hl:l.length<=70):Zko l.length (Zzk l)↔Zko l.length (Zts l)/\Zff l<=1125899906842624:=by
 constructor
 ·intro h;refine⟨λk hk o ho=>(h k hk o ho).1, ?_⟩
  cases hn:l.length with
  |zero=>
   rw[ybn hn]
   simp[Zff]
  |succ k=>
   obtain⟨o,ho,_⟩:=Zh (l:=l) (k:=k) (by omega);have:=(h k (by omega) o ho).2
   rwa [show k+1=l.length by omega,yag] at this
 ·rintro⟨h1,h2⟩ k hk o ho;refine⟨h1 k hk o ho, ?_⟩
  have zL:∀e,e∈l->0<=e.1:=by
   intro e he;obtain⟨j,j1,j2⟩:=ycl he;exact(h1 j j1 e (by rw[yad j1,j2])).1.1
  have hs:Zff l=Zff (l.take (k+1))+Zff (l.drop (k+1)):=by
   have q:=congrArg Zff (ybl (k+1) l);rw[<-q];unfold Zff;rw[yau,List.sum_append]
  have hd:0<=Zff (l.drop (k+1)):=ZGA (by
   intro x hx;obtain⟨e,he,rfl⟩:=ycb.1 hx;exact zL e (List.mem_of_mem_drop he))
  omega
theorem Zf1{t:Tx}(hl:TxL t):∃b:Bool,Qd yD t=some b/\Z0 yD t=some b/\(b=true->ZAY t):=by
 unfold Qd Z0;by_cases c1:(t.1.length:Int) < 1
 ·rw[yW (yY c1),yW (yY c1)];exact⟨false,rfl,rfl,λh=>by cases h⟩
 have c1':¬decide ((t.1.length:Int) < 1)=true:=by rw[yN];exact c1
 rw[yX c1',yX c1'];by_cases c2:(t.1.length:Int) > 64
 ·rw[yW (yY c2),yW (yY c2)];exact⟨false,rfl,rfl,λh=>by cases h⟩
 have c2':¬decide ((t.1.length:Int) > 64)=true:=by rw[yN];exact c2
 rw[yX c2',yX c2'];by_cases c3:(t.2.1.length:Int) > 64
 ·rw[yW (yY c3),yW (yY c3)];exact⟨false,rfl,rfl,λh=>by cases h⟩
 have c3':¬decide ((t.2.1.length:Int) > 64)=true:=by rw[yN];exact c3
 rw[yX c3',yX c3'];by_cases c4:t.2.2 < 0
 ·rw[yW (yY c4),yW (yY c4)];exact⟨false,rfl,rfl,λh=>by cases h⟩
 have c4':¬decide (t.2.2 < 0)=true:=by rw[yN];exact c4
 rw[yX c4',yX c4'];have h70:=hl.ins;obtain⟨x,x1,x2⟩:=ZDT t (by omega);obtain⟨y,y1,y2⟩:=ZDU t (by omega);rw[x1,y1,ya,ya];rcases x2 with⟨hI,rfl⟩|⟨hI,k,rfl⟩
 ·rcases y2 with⟨_,rfl⟩|⟨hI',_⟩
  ·dsimp only;obtain⟨x,x1,x2⟩:=ZA1 hl (ZlQ t.1);obtain⟨y,y1,y2⟩:=ZA2 hl;rw[x1,y1,ya,ya];rcases x2 with⟨hO,rfl⟩|⟨hO,k,rfl⟩
   ·obtain⟨hO1,hO2⟩:=(Zzl hl.outs).1 hO;rcases y2 with⟨_,rfl⟩|⟨hO',_⟩
    ·dsimp only;rw[yY hO2];refine⟨true,rfl,rfl,λ_=>⟨by omega,by omega,by omega,by omega,λx hx=> ?_,λo ho=> ?_⟩⟩
     ·obtain⟨j,j1,j2⟩:=ycl hx;obtain⟨q1,q2,_⟩:=hI j j1 x (by rw[yad j1,j2]);exact⟨q1.1,q1.2,q2.1,q2.2.1,q2.2.2⟩
     ·obtain⟨j,j1,j2⟩:=ycl ho;obtain⟨q1,q2⟩:=hO1 j j1 o (by rw[yad j1,j2]);exact⟨q1.1,q1.2,q2.1,q2.2⟩
    ·exact absurd hO1 hO'
   ·rcases y2 with⟨hO',rfl⟩|⟨_,_,rfl⟩
    ·dsimp only;rw[yZ (p:=Zff t.2.1<=1125899906842624) λq=>hO ((Zzl hl.outs).2 ⟨hO',q⟩)];exact⟨false,rfl,rfl,λh=>by cases h⟩
    ·exact⟨false,rfl,rfl,λh=>by cases h⟩
  ·exact absurd hI hI'
 ·rcases y2 with⟨hI',_⟩|⟨_,_,rfl⟩
  ·exact absurd hI' hI
  ·exact⟨false,rfl,rfl,λh=>by cases h⟩
theorem Zvx{t:Tx}(h:(ZdT t).length<=40000):∀x,x∈[ZdT t]->x.length<=60000:=λx hx=>by
 rw[ybc.1 hx];omega
theorem ZpG{r:Zo}{n:Nat}(h:(Vv r n).2.2=false):r.2=false/\r.1=(Vv r n).1++(Vv r n).2.1/\(Vv r n).1.length=n:=by
 unfold Vv at h ⊢;by_cases c:r.2=true\/r.1.length < n
 ·rw[yW c] at h;cases h
 ·rw[yX c] at h ⊢;have c1:¬r.2=true:=λq=>c (.inl q);have c2:¬r.1.length < n:=λq=>c (.inr q);refine⟨by simpa using c1,(ybl n r.1).symm, ?_⟩;show(r.1.take n).length=n;rw[yv];omega
theorem ZDV{r:Zo}(h:(Ze1 r).2.2=false):r.2=false/\r.1=(Ze1 r).1++(Ze1 r).2.1:=by
 obtain⟨h1,h2,h3⟩:=ZpG (r:=r) (n:=32) h;refine⟨h1, ?_⟩;unfold Ze1;rw[h3,Nat.sub_self,List.replicate_zero,yas];exact h2
theorem ZGJ:∀(l:yL yB),l.length<=8->∀k,k<=l.length->∀j,j < k->∃d,l[j]? =some d/\beF l k / 256 ^ (k - 1 - j) % 256=d.toNat:=by
 intro l hl k
 induction k with
 |zero=>intro _ j hj;omega
 |succ k ih=>
  intro hk j hj;obtain⟨d,hd,_⟩:=Zh (l:=l) (k:=k) (by omega)
  have e:beF l (k+1)=beF l k*256+d.toNat:=by
   show beF l k*256+((l[k]?).map UInt8.toNat).getD 0=_;rw[hd];rfl
  have hd2:d.toNat < 256:=UInt8.toNat_lt d;by_cases hjk:j=k
  ·subst hjk;refine⟨d,hd, ?_⟩;rw[e,show j+1 - 1 - j=0 by omega,Nat.pow_zero,Nat.div_one];omega
  ·obtain⟨c,c1,c2⟩:=ih (by omega) j (by omega);refine⟨c,c1, ?_⟩;rw[e,show k+1 - 1 - j=(k - 1 - j)+1 by omega,Nat.pow_succ,ybt (256 ^ (k - 1 - j)), <-Nat.div_div_eq_div_mul,show(beF l k*256+d.toNat) / 256=beF l k by omega];exact c2
theorem ZGK{l:yL yB}(h:l.length=8):QU (beF l 8)=l:=by
 apply List.ext_getElem?;intro j;by_cases hj:j < 8
 ·obtain⟨d,d1,d2⟩:=ZGJ l (by omega) 8 (by omega) j hj;rw[Zjb _ hj,d1];refine congrArg some (UInt8.toNat_inj.1 ?_);rw[UInt8.toNat_ofNat']
  rw[<-d2,show(2:Nat) ^ (56 - 8*j)=256 ^ (8 - 1 - j) by
   rw[show(256:Nat)=2 ^ 8 from rfl, <-Nat.pow_mul]
   congr 1;omega]
 ·rw[ybi (by rw[ZU];omega),ybi (by omega)]
theorem ZGL{r:Zo}(h:(ZnB r).2.2=false):r.2=false/\r.1=QU (ZnB r).1.toNat++(ZnB r).2.1:=by
 obtain⟨h1,h2,h3⟩:=ZpG (r:=r) (n:=8) h;refine⟨h1, ?_⟩;unfold ZnB;dsimp only;rw[h3];have hb:=Zxd (Vv r 8).1 8
 rw[show(yai (beF (Vv r 8).1 8)).toNat=beF (Vv r 8).1 8 by
  rw[yax];exact yap (Nat.lt_of_lt_of_eq hb (by decide)),ZGK h3]
 exact h2
theorem Zvy(b:yL yB):∀(f k n:Nat),(Wq b f k n).1=true->∃m,(Wq b f k n).2.1=n+m*128 ^ k/\b.drop k=Yu m++b.drop (Wq b f k n).2.2/\(0 < k->0 < m)
 |0,k,n,h=>by simp[Wq] at h
 |f+1,k,n,h=>by
  by_cases h1:b.length<=k
  ·rw[Zg6 h1] at h;cases h
  have hx:=yad (Nat.lt_of_not_le h1);generalize b[k]=d at hx;have hd:=UInt8.toNat_lt d;by_cases h2:8 < k
  ·rw[Zje hx h2] at h;cases h
  by_cases h3:0 < k/\d.toNat=0
  ·rw[ZcV hx h2 h3] at h;cases h
  by_cases h4:d.toNat < 128
  ·rw[ZdV hx h2 h3 h4];refine⟨d.toNat,by dsimp only;rw[yap h4], ?_,λhk=>by omega⟩;dsimp only;rw[ZbC h4,Zec hx];simp
  ·rw[ZdW hx h2 h3 h4] at h ⊢;obtain⟨m,m1,m2,m3⟩:=Zvy b f (k+1) _ h;have m3:=m3 (by omega);refine⟨d.toNat % 128+m*128, ?_, ?_,λ_=>by omega⟩
   ·rw[m1,Nat.add_mul,Nat.pow_succ,Nat.mul_assoc,ybt 128,Nat.add_assoc]
   ·rw[ZlM (by omega),show(d.toNat % 128+m*128) / 128=m by omega,show(d.toNat % 128+m*128) % 128+128=d.toNat by omega,Zec hx,m2];simp
theorem Zzm{r:Zo}(h:(Xz r).2.2=false):r.2=false/\r.1=Yu (Xz r).1.toNat++(Xz r).2.1:=by
 unfold Xz at h ⊢;by_cases c:(Wq r.1 10 0 0).1=true
 ·rw[yW c] at h ⊢;obtain⟨m,m1,m2,_⟩:=Zvy r.1 10 0 0 c;refine⟨h, ?_⟩;dsimp only;rw[m1,Nat.pow_zero,Nat.mul_one,yay,yaj];exact m2
 ·rw[yX c] at h;cases h
theorem ZA3{r:Zo}(h:(Qf r).2.2=false):r.2=false/\r.1=Yu (Qf r).1.length++((Qf r).1++(Qf r).2.1):=by
 unfold Qf at h ⊢;by_cases c:(Xz r).2.2=true
 ·rw[yW c] at h;dsimp only at h;rw[c] at h;cases h
 ·rw[yX c] at h ⊢;obtain⟨h1,h2,h3⟩:=ZpG h;obtain⟨g1,g2⟩:=Zzm (r:=r) (by simpa using c);refine⟨g1, ?_⟩;rw[h3, <-h2];exact g2
theorem Zzn{r:Zo}(h:r.1.length<=2000000):Q4 yD r=some (Ze1 r):=by
 unfold Q4 Ze1;rw[Zxe (by omega) h,ya];have hl:=ZdU r 32;rw[show(32:Int).toNat=32 from rfl,yW (by rw[yi];exact⟨yY hl.1,rfl⟩)]
 generalize (Vv r 32).1=l at hl;rw[List.take_zero,yy,show yzz=yac 32 0 from rfl,List.drop_replicate,yay]
theorem Zzo{r:Zo}(h:r.1.length<=2000000):QG yD r=some (Qf r):=by
 unfold QG Qf;have hl:=Y6 r;rw[QI h,ya];by_cases h1:(Xz r).2.2=true
 ·rw[yW h1,yW h1]
 ·rw[yX h1,yX h1,Zxe hl.1 (by omega),ya]
theorem ZoS{α:Type}{f:α->yL yB}{l:yL α}{e:α}:cat f (l++[e])=cat f l++f e:=by
 unfold cat
 rw[yau,List.flatten_append];simp
def Red(r r':Zo)(bs:yL yB):Prop:=r'.2=false->r.2=false/\r.1=bs++r'.1
theorem Red.refl(r:Zo):Red r r []:=λh=>⟨h,rfl⟩
theorem Red.trans{a b c:Zo}{x y:yL yB}(h:Red a b x)(k:Red b c y):Red a c (x++y):=λq=>by
 obtain⟨k1,k2⟩:=k q;obtain⟨h1,h2⟩:=h k1;exact⟨h1,by rw[h2,k2,yx]⟩
theorem ZoT(r:Zo):Red r (Xz r).2 (Yu (Xz r).1.toNat):=λh=>Zzm h
theorem ZGM(r:Zo):Red r (Ze1 r).2 (Ze1 r).1:=λh=>ZDV h
theorem Zxi(r:Zo):Red r (ZnB r).2 (QU (ZnB r).1.toNat):=λh=>ZGL h
theorem ZDW(r:Zo):Red r (Qf r).2 (Yu (Qf r).1.length++(Qf r).1):=λh=>by
 obtain⟨h1,h2⟩:=ZA3 h;exact⟨h1,by rw[yx];exact h2⟩
def ZlR(m:Int)(r:Zo):Int×Zo:=(if(Xz r).1 > m then-1 else(Xz r).1,(Xz r).2)
theorem Zmn{m:Int}{r:Zo}(h:r.1.length<=2000000):ZdR yD m r=some (ZlR m r):=by
 unfold ZdR ZlR;rw[QI h,ya];by_cases hk:(Xz r).1 > m
 ·rw[yW (yY hk),yW hk]
 ·rw[yX (by rw[yN];exact hk),yX hk]
theorem Ztt{m:Int}(h0:0<=m)(r:Zo):(ZlR m r).1<=m/\ -1<=(ZlR m r).1/\(ZlR m r).2.1.length<=r.1.length:=by
 have h:=Y6 r;unfold ZlR;dsimp only;split <;> omega
theorem Zxj{m z:Int}(h0:0<=z)(h1:z<=m)(hm:m<=1000)(yJ:yL yB):ZlR m (Yu z.toNat++yJ,false)=(z,(yJ,false)):=by
 unfold ZlR;rw[Wx h0 (by omega),yX (by omega)]
theorem Ztu{m:Int}(r:Zo)(h:0<=(ZlR m r).1):Red r (ZlR m r).2 (Yu (ZlR m r).1.toNat):=by
 unfold ZlR at h ⊢;by_cases c:(Xz r).1 > m
 ·rw[yW c] at h;omega
 ·rw[yX c];exact ZoT r
theorem ZGN{b:yL yB}(h:(rdF b).2=true):Vm (rdF b).1/\QV (rdF b).1/\Qj (rdF b).1=b:=by
 unfold rdF at h ⊢;split
 ·rename_i q;exact q.choose_spec
 ·rename_i q;rw[dif_neg q] at h;cases h
theorem ZKq{n0 n nt:Int}{T:Tx}{r:Zo}(hn:n<=64)(hr:r.1.length<=2000000):
 ∃v ins r',Zf (VN yD) yD (n0,n,(0:Int),T,nt,([]:yL Out),([]:yL Unit),([]:yL In),([]:yL In),r)=some (n0,T,nt,([]:yL Out),v,([]:yL In),ins,r')/\r'.1.length<=2000000/\ins.length=n.toNat/\(∀x,x∈ins->x.1.1.length=32)/\Red r r' (cat inF ins):=by
 obtain⟨x,h1,v,ins,r',rfl,h2⟩:=Z9 (step:=VN yD) n.toNat (λk s=>∃v ins r',s=(n0,n,(k:Int),T,nt,([]:yL Out),v,([]:yL In),ins,r')/\r'.1.length<=2000000/\ins.length=k/\(∀x,x∈ins->x.1.1.length=32)/\Red r r' (cat inF ins))
  (λx=>∃v ins r',x=(n0,T,nt,([]:yL Out),v,([]:yL In),ins,r')/\r'.1.length<=2000000/\ins.length=n.toNat/\(∀x,x∈ins->x.1.1.length=32)/\Red r r' (cat inF ins)) (i:=(n0,n,(0:Int),T,nt,([]:yL Out),([]:yL Unit),([]:yL In),([]:yL In),r)) ⟨[],[],r,rfl,hr,rfl,(λx hx=>by cases hx),Red.refl r⟩ (by omega) (by
  rintro k _ hk ⟨v,ins,r',rfl,h1,h2,h3,h4⟩;left;have hl:=Zvr r';have hl2:=Y6 (Ze1 r').2;unfold VN;dsimp only;rw[yW (yY (by omega)),Zzn h1,ya,QI (by omega),ya,yW (ZF (by simp;omega) (by simp;omega)),Zj (by omega)];refine⟨_,rfl,_,_,_,rfl,by omega,by simp[h2],λx hx=> ?_, ?_⟩
  ·rcases ycp.1 hx with hx|hx
   ·exact h3 x hx
   ·rw[ybc.1 hx];exact hl.1
  ·rw[ZoS];exact h4.trans ((ZGM r').trans (ZoT _))) (by
  rintro _ ⟨v,ins,r',rfl,h1,h2,h3⟩;unfold VN;dsimp only;rw[yX (ynd (by omega))];exact⟨_,rfl,_,_,_,rfl,h1,h2,h3⟩)
 exact⟨v,ins,r',h1,h2⟩
theorem ZIq{n0 m0 m nt:Int}{T:Tx}{v:yL Unit}{ins:yL In}{r:Zo}(hm:m<=64)(hr:r.1.length<=2000000):
 ∃x,Zf (VO yD) yD (n0,m0,m,(0:Int),T,nt,([]:yL Out),v,([]:yL In),ins,r)=some x/\
  ((∃y,x=.inl (false,(([]:yL In),([]:yL Out),(0:Int)),y))\/∃outs r',x=.inr (n0,m0,T,nt,outs,v,([]:yL In),ins,r')/\r'.1.length<=2000000/\outs.length=m.toNat/\(∀o,o∈outs->Vm o.2)/\Red r r' (cat ZbD outs)):=by
 refine Z9 (step:=VO yD) m.toNat (λk s=>∃outs r',s=(n0,m0,m,(k:Int),T,nt,outs,v,([]:yL In),ins,r')/\r'.1.length<=2000000/\outs.length=k/\(∀o,o∈outs->Vm o.2)/\Red r r' (cat ZbD outs)) _ ⟨[],r,rfl,hr,rfl,(λx hx=>by cases hx),Red.refl r⟩ (by omega) ?_ ?_
 ·rintro k _ hk ⟨outs,r',rfl,h1,h2,h3,h4⟩;have hl:=Y6 r';have hl2:=Zto (Xz r').2;have h5:=ZCv (b:=(Qf (Xz r').2).1) (by omega);unfold VO;dsimp only;rw[yW (yY (by omega)),QI h1,ya,Zzo (by omega),ya,h5,ya]
  cases ok:(rdF (Qf (Xz r').2).1).2 with
  |false=>right;exact⟨_,rfl,.inl ⟨_,rfl⟩⟩
  |true=>
   left;obtain⟨q1,q2,q3⟩:=ZGN ok;rw[yX (by simp),yW (ZF (by omega) (by omega)),Zj (by omega)];refine⟨_,rfl,_,_,rfl,by omega,by simp[h2],λo ho=> ?_, ?_⟩
   ·rcases ycp.1 ho with ho|ho
    ·exact h3 o ho
    ·rw[ybc.1 ho];exact q1
   ·rw[ZoS];refine h4.trans ?_;unfold ZbD;dsimp only;rw[q3];exact(ZoT r').trans (ZDW _)
 ·rintro _ ⟨outs,r',rfl,h1,h2,h3⟩;unfold VO;dsimp only;rw[yX (ynd (by omega))];exact⟨_,rfl,.inr ⟨_,_,rfl,h1,h2,h3⟩⟩
theorem ZIr{n0 m0 i0 len i s nt:Int}{T:Tx}{outs:yL Out}{v:yL Unit}{pre post:yL In}{fr:Xs}{br:Int}{sec:yU}{r:Zo}(hs:s<=12)(hi:i0.toNat=pre.length)(hr:r.1.length<=2000000):
 ∃r' w,Zf (VP yD) yD (n0,m0,i0,len,i,s,(0:Int),T,nt,outs,v,pre,post,fr,br,sec,r,([]:yL Sig))=some (n0,m0,(i0.toNat:Int),len,i,T,nt,outs,v,pre,post,fr,br,sec,r',w)/\r'.1.length<=2000000/\w.length=s.toNat/\Red r r' (cat ZcU w):=by
 obtain⟨x,h1,r',w,rfl,h2⟩:=Z9 (step:=VP yD) s.toNat (λk t=>∃j0 r' w,t=(n0,m0,j0,len,i,s,(k:Int),T,nt,outs,v,pre,post,fr,br,sec,r',w)/\j0.toNat=pre.length/\r'.1.length<=2000000/\w.length=k/\Red r r' (cat ZcU w))
  (λx=>∃r' w,x=(n0,m0,(i0.toNat:Int),len,i,T,nt,outs,v,pre,post,fr,br,sec,r',w)/\r'.1.length<=2000000/\w.length=s.toNat/\Red r r' (cat ZcU w)) (i:=(n0,m0,i0,len,i,s,(0:Int),T,nt,outs,v,pre,post,fr,br,sec,r,([]:yL Sig))) ⟨i0,r,[],rfl,hi,hr,rfl,Red.refl r⟩ (by omega) (by
  rintro k _ hk ⟨j0,r',w,rfl,h0,h1,h2,h3⟩;left;have hl:=Zbh r';have hl2:=Zbh (ZnB r').2;unfold VP;dsimp only;rw[yW (yY (by omega)),yW (yY h0),Zea h1,ya,Zea (by omega),ya,yW (ZF (by omega) (by omega)),Zj (by omega),h0,yW (yY rfl)];refine⟨_,rfl,((pre.length:Nat):Int),_,_,rfl,by omega,by omega,by simp[h2], ?_⟩;rw[ZoS];exact h3.trans ((Zxi r').trans (Zxi _))) (by
  rintro _ ⟨j0,r',w,rfl,h0,h1,h2,h3⟩;unfold VP;dsimp only;rw[yX (ynd (by omega)),h0,hi];exact⟨_,rfl,_,_,rfl,h1,h2,h3⟩)
 exact⟨r',w,h1,h2⟩
theorem ZIs{n0 m0 nt:Int}{T:Tx}{outs:yL Out}{v:yL Unit}{ins:yL In}{r:Zo}(hn:ins.length<=64)(hr:r.1.length<=2000000):
 ∃x,Zf (VQ yD) yD (n0,m0,((ins.length:Nat):Int),(0:Int),T,nt,outs,v,([]:yL In),ins,r)=some x/\
  ((∃y,x=.inl (false,(([]:yL In),([]:yL Out),(0:Int)),y))\/∃pre r',x=.inr (n0,m0,T,nt,outs,v,pre,([]:yL In),r')/\r'.1.length<=2000000/\pre.map (λx=>x.1)=ins.map (λx=>x.1)/\Red r r' (cat Zb3 pre)):=by
 refine Z9 (step:=VQ yD) ins.length (λk s=>∃pre post r',s=(n0,m0,((ins.length:Nat):Int),(k:Int),T,nt,outs,v,pre,post,r')/\r'.1.length<=2000000/\pre.length=k/\pre.length+post.length=ins.length/\(pre++post).map (λx=>x.1)=ins.map (λx=>x.1)/\Red r r' (cat Zb3 pre)) _
  ⟨[],ins,r,rfl,hr,rfl,by simp,rfl,Red.refl r⟩ (by omega) ?_ ?_
 ·rintro k _ hk ⟨pre,post,r',rfl,h1,h2,h3,h4,h5⟩
  cases post with
  |nil=>rw[yck] at h3;omega
  |cons e post=>
   rw[yao] at h3;have hl:=Y6 r';have hl2:=Ztt (m:=12) (by omega) (Xz r').2;unfold VQ;dsimp only[ZwB];rw[yW (ZD hk),yW (yY (by omega)),yW (Xr (by omega) (by omega)),QI h1,ya,yW (yY (by omega)),Zmn (by omega),ya];by_cases hs:(ZlR 12 (Xz r').2).1 < 0
   ·right;rw[yW (yY hs)];exact⟨_,rfl,.inl ⟨_,rfl⟩⟩
   left;obtain⟨r2,w,e1,e2,e3,e4⟩:=ZIr (n0:=n0) (m0:=m0) (i0:=(((k:Int).toNat:Nat):Int)) (len:=((ins.length:Nat):Int)) (i:=(k:Int)) (s:=(ZlR 12 (Xz r').2).1) (nt:=nt) (T:=T) (outs:=outs) (v:=v) (pre:=pre) (post:=post) (fr:=e.1) (br:=(Xz r').1) (sec:=e.2.2.2) (r:=(ZlR 12 (Xz r').2).2) (by omega) (by omega) (by omega);have hl3:=Zbh r2;rw[yX (by rw[yN];exact hs),e1,ya];dsimp only;rw[Zea e2,ya,yW (yY (by omega)),Zj (by omega)];refine⟨_,rfl,_,_,_,rfl,by omega,by simp[h2],by simp;omega, ?_, ?_⟩
   ·rw[<-h4];simp
   ·rw[ZoS];refine h5.trans ?_;unfold Zb3;dsimp only;rw[e3];exact(ZoT r').trans ((Ztu _ (by omega)).trans (e4.trans (Zxi r2)))
 ·rintro _ ⟨pre,post,r',rfl,h1,h2,h3,h4,h5⟩
  cases post with
  |cons e post=>rw[yao] at h3;omega
  |nil=>
   unfold VQ;dsimp only;rw[yX (by rw[Zx];decide)];rw[yas] at h4;exact⟨_,rfl,.inr ⟨_,_,rfl,h1,h4,h5⟩⟩
def TxR(t:Tx):Prop:=Qd yD t=some true/\ZAY t/\TxWf t
theorem ZA4{b:yL yB}(hb:b.length<=2000000):∃t ok,ZgV yD b=some (t,ok)/\(ok=true->TxR t/\txF t=b)/\(ok=false->t=([],[],0)):=by
 unfold ZgV;have hu:=Ztt (m:=64) (by omega) (b,false);dsimp only at hu;rw[Zre hb,ya,Zmn (by dsimp only;omega),ya];have hn:=Ztu (m:=64) (b,false);generalize ZlR 64 (b,false)=q at hu hn;obtain⟨n,r0⟩:=q;dsimp only at hu hn ⊢;obtain⟨v,ins,r1,h1,h2,h3,h4,h5⟩:=ZKq (n0:=n) (n:=n) (nt:=0) (T:=(([]:yL In),([]:yL Out),(0:Int))) (r:=r0) (by omega) (by omega);have hu2:=Ztt (m:=64) (by omega) r1;rw[h1,ya];dsimp only;rw[Zmn h2,ya];have hm:=Ztu (m:=64) r1;generalize ZlR 64 r1=q at hu2 hm;obtain⟨m,r2⟩:=q;dsimp only at hu2 hm ⊢;obtain⟨x,q1,q2⟩:=ZIq (n0:=n) (m0:=m) (m:=m) (nt:=0) (T:=(([]:yL In),([]:yL Out),(0:Int))) (v:=v) (ins:=ins) (r:=r2) (by omega) (by omega);rw[q1,ya];rcases q2 with⟨y,rfl⟩|⟨outs,r3,rfl,q2,q3,q4,q5⟩
 ·exact⟨_,_,rfl,λh=>(by cases h),λ_=>rfl⟩
 dsimp only;have hnl:=Y6 r3;have hnr:=ZoT r3;rw[QI q2,ya,yck,yay];generalize Xz r3=q at hnl hnr;obtain⟨note,r4⟩:=q;dsimp only at hnl hnr ⊢;obtain⟨z,p1,p2⟩:=ZIs (n0:=n) (m0:=m) (nt:=note) (T:=(([]:yL In),([]:yL Out),(0:Int))) (outs:=outs) (v:=v) (ins:=ins) (r:=r4) (by omega) (by omega);rw[p1,ya];rcases p2 with⟨y,rfl⟩|⟨pre,r5,rfl,p2,p3,p4⟩
 ·exact⟨_,_,rfl,λh=>(by cases h),λ_=>rfl⟩
 dsimp only;rw[yW (by rfl)];unfold Zbm Q5
 have hpl:pre.length=ins.length:=by
  have:=congrArg List.length p3
  rwa [yaa,yaa] at this
 have hlw:∀o,o∈outs->LockWf o.2:=λo ho=>by
  obtain⟨g1,g2,g3⟩:=q4 o ho;exact⟨by omega,λb hb=>by have:=(g3 b hb).1;omega⟩
 obtain⟨k,hk,_,hk2⟩:=Zf1 (t:=(pre,outs,note)) ⟨by dsimp only;omega,by dsimp only;omega,hlw⟩;rw[ya,ya,hk,ya];by_cases c1:n < 0
 ·rw[yW (yY c1)];exact⟨_,_,rfl,λh=>(by cases h),λ_=>rfl⟩
 rw[yX (by rw[yN];exact c1)];by_cases c2:m < 0
 ·rw[yW (yY c2)];exact⟨_,_,rfl,λh=>(by cases h),λ_=>rfl⟩
 rw[yX (by rw[yN];exact c2)]
 cases c3:r5.2 with
 |true=>
  rw[yW (by rfl)]
  exact⟨_,_,rfl,λh=>(by cases h),λ_=>rfl⟩
 |false=>
  rw[yX (by simp)];by_cases c4:(r5.1.length:Int) > 0
  ·rw[yW (yY c4)];exact⟨_,_,rfl,λh=>(by cases h),λ_=>rfl⟩
  rw[yX (by rw[yN];exact c4)]
  cases k with
  |false=>
   rw[yW (by decide)]
   exact⟨_,_,rfl,λh=>(by cases h),λ_=>rfl⟩
  |true=>
   rw[yX (by decide)];refine⟨_,_,rfl,λ_=>⟨⟨hk,hk2 rfl,⟨λx hx=> ?_,hnl.2.1⟩⟩, ?_⟩,λh=>by cases h⟩
   ·have hx':x.1∈ins.map (λx=>x.1):=by
     rw[<-p3];exact ycb.2 ⟨x,hx,rfl⟩
    obtain⟨y,hy,hyx⟩:=ycb.1 hx';rw[<-hyx];exact h4 y hy
   ·obtain⟨g1,g2⟩:=((hn (by omega)).trans (h5.trans ((hm (by omega)).trans (q5.trans (hnr.trans p4))))) c3;have h0:r5.1=[]:=ybn (by omega);rw[h0,yas] at g2;dsimp only at g2
    have e:∀a:yL In,cat inF a=((a.map λx=>x.1).map λp:Xs=>p.1++Yu p.2.toNat).flatten:=λa=>by
     unfold cat
     rw[List.map_map];rfl
    rw[g2];unfold txF ZdT;dsimp only;rw[e pre,e ins,p3,hpl,h3,q3];simp only[yx]
def ZlS(x:In):In:=(x.1,(0,[],0))
theorem ZGO{n0 nt:Int}{T:Tx}{ins:yL In}{yJ:yL yB}(hn:ins.length<=64)(hw:∀x,x∈ins->x.1.1.length=32)(hok:∀x,x∈ins->Zy7 x)(hr:yJ.length<=100000):
 Zf (VN yD) yD (n0,(ins.length:Int),(0:Int),T,nt,([]:yL Out),([]:yL Unit),([]:yL In),([]:yL In),(cat inF ins++yJ,false))=some (n0,T,nt,([]:yL Out),yac ins.length (),([]:yL In),ins.map ZlS,(yJ,false)):=by
 refine ZC ins.length (λk:Nat=>(n0,(ins.length:Int),(k:Int),T,nt,([]:yL Out),yac k (),([]:yL In),(ins.take k).map ZlS,(cat inF (ins.drop k)++yJ,false))) ?_ ?_ (by omega)
 ·intro k hk;obtain⟨e,he,hm⟩:=Zh hk;have hl:=ZW (f:=inF) (c:=41) (λx hx=>Zmk (hw x hx) (hok x hx)) hn k;have hl2:=ZW (f:=inF) (c:=41) (λx hx=>Zmk (hw x hx) (hok x hx)) hn (k+1);obtain⟨k1,k2,_⟩:=hok e hm;have r1:=Zz (n:=e.1.2.toNat) (by omega);have h32:=hw e hm;unfold VN;dsimp only;rw[yW (ZD hk),Zzn (by simp only[yj];omega),ya,ZaP he];unfold inF at hl2 ⊢;rw[yx,yx,Zza h32];dsimp only;rw[QI (by simp only[yj];omega),ya,Wx k1 (by omega),yW (ZF (by simp;omega) (by simp;omega)),Zj (by omega),YW he,yau];rfl
 ·unfold VN;dsimp only;rw[yX (by rw[Zx];decide),ycm,yag];rfl
theorem ZDX{n0 m0 nt:Int}{T:Tx}{v:yL Unit}{ins:yL In}{outs:yL Out}{yJ:yL yB}(hn:outs.length<=64)(hok:∀x,x∈outs->ZCs x)(hr:yJ.length<=100000):
 Zf (VO yD) yD (n0,m0,(outs.length:Int),(0:Int),T,nt,([]:yL Out),v,([]:yL In),ins,(cat ZbD outs++yJ,false))=some (.inr (n0,m0,T,nt,outs,v,([]:yL In),ins,(yJ,false))):=by
 refine ZC outs.length (λk:Nat=>(n0,m0,(outs.length:Int),(k:Int),T,nt,outs.take k,v,([]:yL In),ins,(cat ZbD (outs.drop k)++yJ,false))) ?_ ?_ (by omega)
 ·intro k hk;obtain⟨e,he,hm⟩:=Zh hk;have hl:=ZW (f:=ZbD) (c:=551) (λx hx=>Zjc (hok x hx)) hn k;have hl2:=ZW (f:=ZbD) (c:=551) (λx hx=>Zjc (hok x hx)) hn (k+1);obtain⟨k1,k2,k3,k4⟩:=hok e hm;have hll:=Zb1 k3;have r1:=Zz (n:=e.1.toNat) (by omega);have r2:=Zz (n:=(Qj e.2).length) (by omega);unfold VO;dsimp only;rw[yW (ZD hk),QI (by simp only[yj];omega),ya,ZaP he];unfold ZbD at hl2 ⊢;simp only[yx];rw[Wx k1 (by omega)];dsimp only;rw[Zzo (by simp only[yj];omega),ya,Zvt (by omega)];dsimp only;rw[ZpE k3 k4,ya];dsimp only;rw[yX (by decide),yW (ZF (by rw[yv];omega) (by rw[yv];omega)),Zj (by omega),YW he]
 ·unfold VO;dsimp only;rw[yX (by rw[Zx];decide),ycm,yag];rfl
theorem ZDY{n0 m0 len i nt:Int}{T:Tx}{outs:yL Out}{v:yL Unit}{pre post:yL In}{fr:Xs}{br:Int}{sec:yU}{l:yL Sig}{yJ:yL yB}(hs:l.length<=12)(hr:yJ.length<=100000):
 Zf (VP yD) yD (n0,m0,((pre.length:Nat):Int),len,i,(l.length:Int),(0:Int),T,nt,outs,v,pre,post,fr,br,sec,(cat ZcU l++yJ,false),([]:yL Sig))=some (n0,m0,((pre.length:Nat):Int),len,i,T,nt,outs,v,pre,post,fr,br,sec,(yJ,false),l):=by
 refine ZC l.length (λk:Nat=>(n0,m0,((pre.length:Nat):Int),len,i,(l.length:Int),(k:Int),T,nt,outs,v,pre,post,fr,br,sec,(cat ZcU (l.drop k)++yJ,false),l.take k)) ?_ ?_ (by omega)
 ·intro k hk;obtain⟨e,he,hm⟩:=Zh hk;have hsl:∀x,x∈l->(ZcU x).length<=16:=λx _=>by unfold ZcU;rw[yj,ZU,ZU];exact yl _
  have hl:=ZW (f:=ZcU) (c:=16) hsl hs k;have hl2:=ZW (f:=ZcU) (c:=16) hsl hs (k+1);have hu:=ZU e.2.toNat
  unfold VP;dsimp only;rw[yW (ZD hk),yW (yY (yaj _)),Zea (by simp only[yj];omega),ya,ZaP he];unfold ZcU at hl2 ⊢;rw[yx,yx,Zeb];dsimp only;rw[Zea (by simp only[yj];omega),ya,Zeb,yW (ZF (by rw[yv];omega) (by rw[yv];omega)),yW (yY (yaj _)),Zj (by omega),YW he,yaj]
 ·unfold VP;dsimp only;rw[yX (by rw[Zx];decide),ycm,yag,yaj];rfl
theorem ZDZ{n0 m0 nt:Int}{T:Tx}{outs:yL Out}{v:yL Unit}{ins:yL In}(hn:ins.length<=64)(hok:∀x,x∈ins->Zy7 x):
 Zf (VQ yD) yD (n0,m0,((ins.length:Nat):Int),(0:Int),T,nt,outs,v,([]:yL In),ins.map ZlS,(cat Zb3 ins,false))=some (.inr (n0,m0,T,nt,outs,v,ins,([]:yL In),([],false))):=by
 refine ZC ins.length (λk:Nat=>(n0,m0,((ins.length:Nat):Int),(k:Int),T,nt,outs,v,ins.take k,(ins.drop k).map ZlS,(cat Zb3 (ins.drop k),false))) ?_ ?_ (by omega)
 ·intro k hk;obtain⟨e,he,hm⟩:=Zh hk;have hl:=ZW (f:=Zb3) (c:=218) (λx hx=>ZlO (hok x hx)) hn k;have hl2:=ZW (f:=Zb3) (c:=218) (λx hx=>ZlO (hok x hx)) hn (k+1);obtain⟨_,_,k1,k2,k3⟩:=hok e hm;have hs:=VT (f:=ZcU) (c:=16) (λs _=>by unfold ZcU;rw[yj,ZU,ZU];exact yl _) k3 e.2.2.1.length;rw[yag] at hs;have r1:=Zz (n:=e.2.1.toNat) (by omega);have r2:=Zz (n:=e.2.2.1.length) (by omega);have r3:=ZU e.2.2.2.toNat
  have ht:(ins.take k).length=k:=by rw[yv];omega
  unfold VQ;dsimp only;rw[yW (ZD hk),yW (yY (by omega)),Zec he,List.map_cons];dsimp only[ZwB];rw[yW (Xr (by omega) (by rw[yaa,ybf,ht];omega)),QI (by rw[<-Zec he];dsimp only;omega),ya,yW (yY (by omega)),Ztj];unfold Zb3 at hl2 ⊢;simp only[yx];rw[Wx k1 (by omega)];dsimp only;rw[Zmn (by simp only[yj];omega),ya];have q1:=Zxj (m:=12) (z:=(e.2.2.1.length:Int)) (by omega) (by omega) (by omega) (cat ZcU e.2.2.1++(QU e.2.2.2.toNat++cat Zb3 (ins.drop (k+1))));rw[yaj] at q1;unfold Zb3 at q1;rw[q1];dsimp only;rw[yX (ynd (by omega))];have e1:(((k:Int).toNat:Nat):Int)=(((ins.take k).length:Nat):Int):=by omega
  rw[e1,ZDY k3 (by simp only[yj];omega),ya];dsimp only;rw[Zea (by simp only[yj];omega),ya,Zeb,yW (yY (by omega)),Zj (by omega),YW he];rfl
 ·unfold VQ;dsimp only;rw[yX (by rw[Zx];decide),ycm,yag];rfl
theorem ZCz{t:Tx}(hw:TxWf t)(h:ZAY t):(txF t).length<=60000:=by
 have h1:=(Ztl hw h).2;have h2:=VT (f:=Zb3) (c:=218) (λx hx=>ZlO (h.2.2.2.2.1 x hx)) h.2.1 t.1.length;rw[yag] at h2;unfold txF;rw[yj];omega
theorem Zxk{t:Tx}(hR:TxR t):ZgV yD (txF t)=some (t,true):=by
 obtain⟨hr,h,hw⟩:=hR;have zB:=ZCz hw h;obtain⟨ins,outs,note⟩:=t;obtain⟨w2,w3⟩:=hw;obtain⟨h1,h2,h3,h4,h5,h6⟩:=h;dsimp only at w2 w3 h1 h2 h3 h4 h5 h6;unfold ZgV;rw[Zre (by omega),ya,Zmn (by dsimp only;omega),ya];unfold txF ZdT at zB ⊢;simp only[yx,yj] at zB ⊢;have q1:=Zxj (m:=64) (z:=(ins.length:Int)) (by omega) (by omega) (by omega) (cat inF ins++(Yu outs.length++(cat ZbD outs++(Yu note.toNat++cat Zb3 ins))));rw[yaj] at q1;rw[q1];dsimp only;rw[ZGO h2 w2 h5 (by simp only[yj];omega),ya];dsimp only;have q2:=Zxj (m:=64) (z:=(outs.length:Int)) (by omega) (by omega) (by omega) (cat ZbD outs++(Yu note.toNat++cat Zb3 ins));rw[yaj] at q2;rw[Zmn (by simp only[yj];omega),ya,q2];dsimp only;rw[ZDX h3 h6 (by simp only[yj];omega),ya];dsimp only;rw[QI (by simp only[yj];omega),ya,Wx h4 w3,yck,yay,yaa];dsimp only;rw[ZDZ h2 h5,ya];dsimp only;rw[yW List.isEmpty_nil,yX (ynd (by omega)),yX (ynd (by omega))];unfold Zbm Q5;rw[ya,yX (by decide),ya,yX (by decide),hr,ya,yX (by decide)]
theorem ZIt{t u:Tx}(ht:TxR t)(hu:TxR u)(h:txF t=txF u):t=u:=by
 have h1:=Zxk ht;rw[h,Zxk hu] at h1;cases h1;rfl
open Classical in
noncomputable def trF(b:yL yB):Tx×Bool:=if h:∃t,TxR t/\txF t=b then(h.choose,true) else(([],[],0),false)
theorem ZGP{b:yL yB}{t:Tx}(h:TxR t/\txF t=b):trF b=(t,true):=by
 have hx:∃t,TxR t/\txF t=b:=⟨t,h⟩;unfold trF;rw[dif_pos hx,ZIt hx.choose_spec.1 h.1 (hx.choose_spec.2.trans h.2.symm)]
theorem ZGQ{b:yL yB}(h:¬∃t,TxR t/\txF t=b):trF b=(([],[],0),false):=by
 unfold trF;rw[dif_neg h]
theorem ZGR{b:yL yB}(hb:b.length<=2000000):ZgV yD b=some (trF b):=by
 obtain⟨t,ok,h1,h2,h3⟩:=ZA4 hb;rw[h1]
 cases ok with
 |true=>rw[ZGP (h2 rfl)]
 |false=>
  rw[h3 rfl];by_cases hx:∃t,TxR t/\txF t=b
  ·obtain⟨u,hu,e⟩:=hx;have:=Zxk hu;rw[e,h1] at this;cases this
  ·rw[ZGQ hx]
theorem ZpH{a b:yL yB}(ha:a.length<=60000)(hb:b.length<=60000):∀l,l∈[a,b]->l.length<=60000:=by
 intro l hl;simp only[List.mem_cons,List.not_mem_nil,or_false] at hl;rcases hl with rfl|rfl <;> assumption
noncomputable def smF(key:yL yB)(i:Nat):yL yB:=Sha.sha (Zj6 ZyW [key,QU i])
theorem Zxl(key:yL yB)(i:Nat):(smF key i).length=32:=Sha.ZLx _
noncomputable def stN(key:yL yB):Nat->yL yB
 |0=>[]
 |k+1=>stN key k++smF key k
theorem Zee(key:yL yB):∀k,(stN key k).length=32*k
 |0=>rfl
 |k+1=>by
  show(stN key k++smF key k).length=_;rw[yj,Zee key k,Zxl];omega
theorem ZCA(key:yL yB)(k:Nat):∀d,∃r,stN key (k+d)=stN key k++r
 |0=>⟨[],by simp⟩
 |d+1=>by
  obtain⟨r,h⟩:=ZCA key k d
  exact⟨r++smF key (k+d),by
   show stN key (k+d)++smF key (k+d)=_;rw[h,yx]⟩
theorem Zzp(key:yL yB){n k m:Nat}(h1:n<=32*k)(h2:n<=32*m):(stN key k).take n=(stN key m).take n:=by
 have one:∀a b,a<=b->n<=32*a->(stN key b).take n=(stN key a).take n:=by
  intro a b hab ha;obtain⟨r,hr⟩:=ZCA key a (b - a);rw[show a+(b - a)=b by omega] at hr;rw[hr,List.take_append_of_le_length (by rw[Zee];exact ha)]
 rcases Nat.le_total k m with h|h
 ·exact(one k m h h1).symm
 ·exact one m k h h2
noncomputable def ZpI(key:yL yB)(n:Nat):yL yB:=(stN key n).take n
theorem ZoU(key:yL yB)(n:Nat):(ZpI key n).length=n:=by
 unfold ZpI;rw[yv,Zee];omega
theorem ZIu{no:yU}{key:yL yB}(hk:key.length<=50000):Zbk yD no key=some (smF key no.toNat,no+1,key):=by
 unfold Zbk;generalize yzz=z
 rw[show((0:Int),no,key,z,([0,0,0,0,0,0,0,0]:yL yB))=(λk:Nat=>((k:Int),no,key,z,ZeZ (QU no.toNat) 8 k)) 0 from rfl,
  ZC (x:=(no,key,z,QU no.toNat)) 8 (λk:Nat=>((k:Int),no,key,z,ZeZ (QU no.toNat) 8 k)) ?_ ?_ (by omega),ya]
 ·dsimp only;rw[ZnA (by decide) (by simp) (ZpH (by omega) (by rw[ZU];omega)),ya];rfl
 ·intro k hk;unfold Qs;dsimp only;have hl:=ZU no.toNat
  rw[yW (yY (by omega)),Yj (z:=8*(k:Int)) (by omega) (by omega),Yj (z:=56 - 8*(k:Int)) (by omega) (by omega),yW (yY (by omega)),yW (Xr (by omega) (by omega)),
   yaj,Zmi (by omega) (by omega),ya,Zj (by omega)]
  have e:min (56 - 8*(k:Int)).toNat 64=56 - 8*k:=by omega
  rw[e,ZoM,Zmj (Zjb _ hk) (by omega)]
 ·unfold Qs;dsimp only;rw[yX (by simp),ZpC (ZU _)]
theorem ZD0{key:yL yB}{n:Nat}(hk:key.length<=50000)(hn:n<=65536):∃v,QL yD key (n:Int)=some (v,ZpI key n):=by
 unfold QL Znp
 have hb:(true&&Zn6 (wi ((n:Int)+32)) 1)=true:=by
  rw[Yj (by omega) (by omega),Bool.true_and];unfold Zn6 lenB;rw[yi,yi];exact⟨yY (by omega),yY (by unfold bytesBound;omega),yY (by unfold maxLen;omega)⟩
 rw[yX (ynd (by omega)),yX (ynd (by omega)),yW hb,ya];dsimp only
 obtain⟨x,h1,v,m,no,rfl,h2⟩:=Z9 (step:=Vc yD) 2049 (λk s=>∃v,s=((n:Int),key,([]:yL Unit),([]:yL yB),v,stN key k,yai k,key)) (λx=>∃v m no,x=((n:Int),key,([]:yL Unit),([]:yL yB),v,stN key m,no,key)/\n<=32*m) (i:=((n:Int),key,([]:yL Unit),([]:yL yB),([]:yL Unit),([]:yL yB),(0:yU),key)) ⟨_,rfl⟩ (by omega) (by
  rintro k _ hk2 ⟨v,rfl⟩;have hl2:=Zee key k;unfold Vc;dsimp only;by_cases hl:((stN key k).length:Int) < (n:Int)
  ·left
   have e:(yai k).toNat=k:=by
    rw[yax];exact yap (by omega)
   have e2:yai k+1=yai (k+1):=by
    apply yct.1;rw[UInt64.toNat_add,e,yax];rfl
   rw[yW (yY hl),ZIu hk,ya,e,e2];dsimp only;rw[yW (ZF (by rw[Zxl];omega) (by rw[Zxl];omega))];exact⟨_,rfl,_,rfl⟩
  ·right;rw[yX (by rw[yN];exact hl)];exact⟨_,rfl,_,_,_,rfl,by omega⟩) (by
  rintro _ ⟨v,rfl⟩;have hl2:=Zee key 2049;unfold Vc;dsimp only;rw[yX (ynd (by omega))];exact⟨_,rfl,_,_,_,rfl,by omega⟩)
 rw[h1,ya];dsimp only;have hl2:=Zee key m;rw[yW (by rw[yi];exact⟨yY (by omega),yY (by omega)⟩),yaj];refine⟨_,congrArg some (congrArg (Prod.mk _) ?_)⟩;exact Zzp key h2 (by omega)
def ZcY(s b:yL yB):yL yB:=List.zipWith (· ^^^ ·) s b
def Zud(s b:yL yB)(k:Nat):yL yB:=(ZcY s b).take k++s.drop k
theorem ZcW{s b:yL yB}(h:s.length=b.length):(ZcY s b).length=b.length:=by unfold ZcY;rw[List.length_zipWith];omega
theorem ZGS{s b:yL yB}{k:Nat}{x:yB}(h:s.length=b.length)(hx:s[k]? =some x):(Zud s b k)[k]? =some x:=by
 have hk:=(yo.1 hx).1;have hl:=ZcW h;unfold Zud;rw[yat (by rw[yv];omega),yv,List.getElem?_drop];rw[<-hx];congr 1;omega
theorem ZGT{s b:yL yB}{k:Nat}{x y:yB}(h:s.length=b.length)(hx:s[k]? =some x)(hy:b[k]? =some y):(Zud s b k).set k (x^^^y)=Zud s b (k+1):=by
 have hk:=(yo.1 hx).1;have hl:=ZcW h
 have hz:(ZcY s b)[k]? =some (x^^^y):=by
  unfold ZcY;rw[List.getElem?_zipWith,hx,hy]
 unfold Zud;rw[YW hz,List.set_append_right _ _ (by rw[yv];omega),yv,Zec hx,yx];congr 1;rw[show k - min k (ZcY s b).length=0 by omega];rfl
theorem Zzq{s b:yL yB}{k:Nat}(h:s.length=b.length):(Zud s b k).length=b.length:=by
 have hl:=ZcW h;unfold Zud;rw[yj,yv,ybf];omega
theorem Ztv:∀{s b:yL yB},s.length=b.length->ZcY s (ZcY s b)=b
 |[],[],_=>rfl
 |x::s,y::b,h=>by
  have ih:=Ztv (s:=s) (b:=b) (by simpa using h);unfold ZcY at ih ⊢;rw[List.zipWith_cons_cons,List.zipWith_cons_cons,ih];congr 1;rw[<-UInt8.xor_assoc,UInt8.xor_self,UInt8.zero_xor]
theorem ZIv{key b:yL yB}(hk:key.length<=50000)(hb:b.length<=65536):ZjJ yD key b=some (ZcY (ZpI key b.length) b):=by
 obtain⟨v,h⟩:=ZD0 hk hb;have hl:=ZoU key b.length;generalize ZpI key b.length=s at h hl;unfold ZjJ;rw[h,ya];dsimp only
 rw[show(b,(b.length:Int),(0:Int),key,v,s)=(λk:Nat=>(b,(b.length:Int),(k:Int),key,v,Zud s b k)) 0 from rfl,
  ZC (x:=(key,v,ZcY s b)) b.length (λk:Nat=>(b,(b.length:Int),(k:Int),key,v,Zud s b k)) ?_ ?_ (by omega),ya]
 ·intro k hk;obtain⟨y,hy,_⟩:=Zh hk;obtain⟨x,hx,_⟩:=Zh (l:=s) (k:=k) (by omega);unfold Zd7;dsimp only;rw[yW (ZD hk),yW (Xr (by omega) (by rw[Zzq hl];omega)),yaj,ZGS hl hx,ya,Zs hy,ya,ya,Zj (by omega),ZGT hl hx hy,yW (Xr (by omega) (by rw[Zzq hl];omega))]
 ·unfold Zd7;dsimp only;rw[yX (by rw[Zx];decide)];unfold Zud;rw[ybr (by rw[ZcW hl];exact yl _),List.drop_of_length_le (by omega),yas]
noncomputable def tg8(key h:yL yB):yL yB:=(Sha.sha (Zj6 ZGm [key,h])).take 8
theorem ZCB(key h:yL yB):(tg8 key h).length=8:=by
 unfold tg8;rw[yv,Sha.ZLx];rfl
theorem ZA5{key h:yL yB}(hk:key.length<=50000)(hh:h.length<=60000):ZiE yD key h=some (tg8 key h):=by
 unfold ZiE;rw[ZnA (by decide) (by simp) (ZpH (by omega) hh),ya];have:=ZCB key h;unfold tg8 at this ⊢;rw[yW (yY (by omega)),List.take_take,Nat.min_self]
noncomputable def ZpJ(key b:yL yB):yL yB×Bool:=if 8<=b.length/\tg8 key (b.take (b.length - 8))=b.drop (b.length - 8) then(ZcY (ZpI key (b.length - 8)) (b.take (b.length - 8)),true) else([],false)
theorem Zzr(key b:yL yB):(ZpJ key b).1.length<=b.length:=by
 unfold ZpJ;split
 ·rw[ZcW (by rw[ZoU,yv];omega),yv];omega
 ·simp
theorem ZIw{key b:yL yB}(hk:key.length<=50000)(hb:b.length<=50000):ZjX yD key b=some (ZpJ key b):=by
 unfold ZjX ZpJ;rw[Yj (z:=(b.length:Int) - 8) (by omega) (by omega)];by_cases h1:(b.length:Int) - 8 < 0
 ·rw[yW (yY h1),yX λq=>by omega]
 have e:((b.length:Int) - 8).toNat=b.length - 8:=by omega
 rw[yX (by rw[yN];exact h1),yX (ynd (by omega)),yW (Zmm (by omega) (by omega)),e,ZA5 hk (by rw[yv];omega),ya,yW (Zml (by omega) (by omega)),yW (yY (by rw[ybf];omega)),ybr (l:=b.drop (b.length - 8)) (by rw[ybf];omega)];dsimp only;by_cases h2:tg8 key (b.take (b.length - 8))=b.drop (b.length - 8)
 ·have hl:(b.take (b.length - 8)).length=b.length - 8:=by rw[yv];omega
  rw[yY h2,yX (by decide),yW (Zmm (by omega) (by omega)),ZIv hk (by omega),ya,yW ⟨by omega,h2⟩,hl]
 ·rw[yZ h2,yW (by decide),yX λq=>h2 q.2]
theorem ZpK:∀s b:yL yB,ZcY s b=ZcY b s
 |[],[]=>rfl
 |[],_::_=>rfl
 |_::_,[]=>rfl
 |x::s,y::b=>by
  have ih:=ZpK s b;unfold ZcY at ih ⊢;rw[List.zipWith_cons_cons,List.zipWith_cons_cons,ih,UInt8.xor_comm]
theorem Zzs{s b:yL yB}{k:Nat}{x y:yB}(hx:s[k]? =some x)(hy:b[k]? =some y):(ZcY s b)[k]? =some (x^^^y):=by
 unfold ZcY;rw[List.getElem?_zipWith,hx,hy]
theorem ZGU{a b:yL yB}(h:a.length=b.length)(hl:a.length<=1000000):QA yD a b=some (ZcY a b):=by
 unfold QA;have hx:=ZcW h
 have e:=ZC (step:=Wo yD) a.length (λk:Nat=>(a,b,(k:Int),(ZcY a b).take k)) (x:=ZcY a b) (by
  intro k hk;obtain⟨x,h1,_⟩:=Zh (l:=a) (k:=k) hk;obtain⟨y,h2,_⟩:=Zh (l:=b) (k:=k) (by omega);unfold Wo;dsimp only;rw[yW (ZD hk),Zs h1,ya,Zs h2,ya,yW (ZF (by rw[yv];omega) (by rw[yv];omega)),Zj (by omega),YW (Zzs h1 h2)]) (by
  unfold Wo;dsimp only;rw[yX (by rw[Zx];decide),ybr (by omega)]) (by omega)
 rw[List.take_zero] at e;exact(congrArg (Option.bind · _) e).trans rfl
theorem ZD1{a b:yL yB}(h:a.length=b.length)(hl:a.length<=1000000):Vq yD a b=some (ZcY a b):=by
 unfold Vq;have hx:=ZcW h
 have e:=ZC (step:=Xv yD) a.length (λk:Nat=>(a,b,(k:Int),([]:yL yB),(ZcY a b).take k)) (x:=(([]:yL yB),ZcY a b)) (by
  intro k hk;obtain⟨x,h1,_⟩:=Zh (l:=a) (k:=k) hk;obtain⟨y,h2,_⟩:=Zh (l:=b) (k:=k) (by omega);unfold Xv;dsimp only;rw[yW (ZD hk),Zs h1,ya,Zs h2,ya,yW (ZF (by rw[yv];omega) (by rw[yv];omega)),Zj (by omega),YW (Zzs h1 h2)]) (by
  unfold Xv;dsimp only;rw[yX (by rw[Zx];decide),ybr (by omega)]) (by omega)
 rw[List.take_zero] at e;exact(congrArg (Option.bind · _) e).trans rfl
theorem ZD2(n:yU):V4 yD n=some (QU n.toNat):=by
 unfold V4
 have e:=ZC (step:=X3 yD) 8 (λk:Nat=>(n,(k:Int),(QU n.toNat).take k)) (x:=QU n.toNat) (by
  intro k hk;unfold X3;dsimp only
  have q1:(min ((w64 (wi (56 - wi (8*(k:Int))))).toNat:Int).toNat 64)=56 - 8*k:=by
   rw[Yj (z:=8*(k:Int)) (by omega) (by omega),Yj (z:=56 - 8*(k:Int)) (by omega) (by omega)]
   have:(w64 (56 - 8*(k:Int))).toNat=56 - 8*k:=by
    unfold w64;rw[yax];omega
   omega
  rw[yW (yY (by omega)),yW (ZF (by rw[yv];omega) (by rw[yv];omega)),Zj (by omega),q1,ZoM,YW (Zjb _ hk)]) (by
  unfold X3;dsimp only;rw[yX (ynd (by omega)),ybr (by rw[ZU];exact yl _)]) (by omega)
 rw[List.take_zero] at e;exact(congrArg (Option.bind · _) e).trans rfl
theorem ZA6{n k:Nat}{key h:yL yB}{i:yU}(hn:n<=65536)(hk:32*k < n)(hh:h.length=32)(he:smF key k=h):
 ∃y,Zf (YU yD) yD ((n:Int),i,(0:Int),key,stN key k,h)=some ((n:Int),i,key,(stN key (k+1)).take n,y):=by
 have hl:=Zee key k
 have hs:stN key (k+1)=stN key k++h:=by
  show stN key k++smF key k=_;rw[he]
 have hl2:=Zee key (k+1)
 obtain⟨x,h1,y,rfl⟩:=Z9 (step:=YU yD) 32 (λj s=>s=((n:Int),i,(j:Int),key,(stN key (k+1)).take (32*k+j),h)/\32*k+j<=n) (λx=>∃y,x=((n:Int),i,key,(stN key (k+1)).take n,y))
  (i:=((n:Int),i,(0:Int),key,stN key k,h)) ⟨by rw[Nat.add_zero,hs, <-hl,List.take_left' rfl];rfl,by omega⟩ (by omega) (by
  rintro j _ hj ⟨rfl,hjn⟩;unfold YU;dsimp only;rw[yW (yY (by omega))];have hlt:((stN key (k+1)).take (32*k+j)).length=32*k+j:=by rw[yv];omega
  by_cases c:32*k+j < n
  ·left;obtain⟨x,hx,_⟩:=Zh (l:=h) (k:=j) (by omega)
   have hx2:(stN key (k+1))[32*k+j]? =some x:=by
    rw[hs,yat (by omega),hl, <-hx];congr 1;omega
   rw[hlt,yW (yY (by omega)),yW (Xr (by omega) (by omega)),yaj,hx,ya,yW (ZF (by omega) (by omega)),Zj (by omega), <-YW hx2];exact⟨_,rfl,rfl,by omega⟩
  ·right;rw[hlt,yX (ynd (by omega)),show 32*k+j=n by omega];exact⟨_,rfl,_,rfl⟩) (by
  rintro _ ⟨rfl,hjn⟩;unfold YU;dsimp only;rw[yX (ynd (by omega)),ybr (l:=stN key (k+1)) (i:=32*k+32) (by omega),ybr (l:=stN key (k+1)) (i:=n) (by omega)];exact⟨_,rfl,_,rfl⟩)
 exact⟨y,h1⟩
theorem Ztw{key:yL yB}{n:Nat}(hk:key.length<=50000)(hn:n<=65536):WC yD key (n:Int)=some (ZpI key n):=by
 unfold WC;rw[yX (ynd (by omega)),yX (ynd (by omega))]
 obtain⟨x,h1,m,rfl,h2⟩:=Z9 (step:=XN yD) 2049 (λk s=>s=((n:Int),yai k,key,(stN key k).take n)) (λx=>∃m,x=(key,(stN key m).take n)/\n<=32*m) (i:=((n:Int),(0:yU),key,([]:yL yB))) (by
  show _=((n:Int),(0:yU),key,([]:yL yB).take n);rw[List.take_nil]) (by omega) (by
  rintro k _ hk2 rfl;have hl:=Zee key k;unfold XN;dsimp only;by_cases c:32*k < n
  ·left
   have e:(yai k).toNat=k:=by
    rw[yax];exact yap (by omega)
   have e2:yai k+1=yai (k+1):=by
    apply yct.1;rw[UInt64.toNat_add,e,yax];rfl
   have hs:smF key k=Sha.sha (Zj6 ZyW [key,QU k]):=rfl;obtain⟨y,q⟩:=ZA6 (i:=yai k) hn c (Sha.ZLx (Zj6 ZyW [key,QU k])) hs;rw[ybr (by omega),yW (yY (by omega)),ZD2,ya,e,Zj7 (by decide) (by simp) (ZpH (by omega) (by rw[ZU];omega)),ya,q,ya, <-e2];exact⟨_,rfl,rfl⟩
  ·right;rw[yX (by rw[yN,yv];omega)];exact⟨_,rfl,_,rfl,by omega⟩) (by
  rintro _ rfl;have hl:=Zee key 2049;unfold XN;dsimp only;rw[yX (by rw[yN,yv];omega)];exact⟨_,rfl,_,rfl,by omega⟩)
 rw[h1,ya];exact congrArg some (Zzp key h2 (by omega))
noncomputable def slF(key plain:yL yB):yL yB:=ZcY (ZpI key plain.length) plain++tg8 key (ZcY (ZpI key plain.length) plain)
theorem ZGV{key plain:yL yB}(hk:key.length<=50000)(hp:plain.length<=59000):QB yD key plain=some (slF key plain):=by
 unfold QB slF;have hl:=ZoU key plain.length;have hx:=ZcW hl;rw[yX (ynd (by omega)),Ztw hk (by omega),ya,ZD1 hl.symm (by omega),ya,ZpK plain,Zj7 (by decide) (by simp) (ZpH (by omega) (by omega)),ya];have h8:=ZCB key (ZcY (ZpI key plain.length) plain);unfold tg8 at h8 ⊢;rw[yW (ZF (by omega) (by omega))]
theorem ZD3{key b:yL yB}(hk:key.length<=50000)(hb:b.length<=50000):QC yD key b=some (ZpJ key b):=by
 unfold QC ZpJ;rw[Yj (z:=(b.length:Int) - 8) (by omega) (by omega)];by_cases h1:(b.length:Int) - 8 < 0
 ·rw[yW (yY h1),yX λq=>by omega]
 have e:((b.length:Int) - 8).toNat=b.length - 8:=by omega
 have e':(b.length:Int) - 8=((b.length - 8:Nat):Int):=by omega
 have hl:(b.take (b.length - 8)).length=b.length - 8:=by rw[yv];omega
 have hs:=ZoU key (b.length - 8);have hx:=ZcW (s:=ZpI key (b.length - 8)) (b:=b.take (b.length - 8)) (by omega);have ht:ZcY (ZpI key (b.length - 8)) (ZcY (ZpI key (b.length - 8)) (b.take (b.length - 8)))=b.take (b.length - 8):=Ztv (by omega);rw[yX (by rw[yN];exact h1),yX (ynd (by omega)),yW (Zmm (by omega) (by omega)),e,e',Ztw hk (by omega),ya,ZGU (by omega) (by omega),ya,ZpK (b.take (b.length - 8)),ZGV hk (by omega),ya];dsimp only;rw[ZdX];unfold slF;rw[hx,hl,ht];by_cases h2:tg8 key (b.take (b.length - 8))=b.drop (b.length - 8)
 ·rw[h2,ybl,yY rfl,yX (by decide),yW ⟨by omega,rfl⟩]
 ·rw[yZ λq=>h2 (by
   have:=congrArg (List.drop (b.length - 8)) q
   rwa [List.drop_left' hl] at this),yW (by decide),yX λq=>h2 q.2]
theorem Zvz{t:Tx}(hw:TxWf t)(hr:Z0 yD t=some true)(h:ZAY t):V5 yD t=some (txF t):=by
 have hp:=Zvv hw h;have hl:=(Ztl hw h).2;unfold V5;rw[hr,ya,yX (by decide),hp,ya];unfold txF;generalize ZdT t=pre at hl;obtain⟨ins,outs,note⟩:=t;obtain⟨h1,h2,h3,h4,h5,h6⟩:=h;dsimp only at h2 h5 ⊢;have li:=λk=>VT (f:=Zb3) (c:=218) (λx hx=>ZlO (h5 x hx)) h2 k
 rw[show(pre,(0:Int),(ins,outs,note))=(λk:Nat=>(pre++cat Zb3 (ins.take k),(k:Int),(ins,outs,note))) 0 by simp[cat],
  ZC (x:=(pre++cat Zb3 ins,(ins,outs,note))) ins.length (λk:Nat=>(pre++cat Zb3 (ins.take k),(k:Int),(ins,outs,note))) ?_ ?_ (by omega),ya]
 ·intro k hk;obtain⟨e,he,hm⟩:=Zh hk;have hlk:=li k;obtain⟨_,_,k1,k2,k3⟩:=h5 e hm;have r1:=Zz (n:=e.2.1.toNat) (by omega);have r2:=Zz (n:=e.2.2.1.length) (by omega);unfold W2;dsimp only;rw[yW (ZD hk),Zs he,ya,Zbn k1 (by omega) (by rw[yj];omega),ya,Zbn (by omega) (by omega) (by simp only[yj];omega),ya,yaj];generalize hq:pre++cat Zb3 (ins.take k)++Yu e.2.1.toNat++Yu e.2.2.1.length=q;have hql:q.length<=60000:=by rw[<-hq];simp only[yj];omega
  rw[show(q,(k:Int),(0:Int),(ins,outs,note),e.2)=(λj:Nat=>(q++cat ZcU (e.2.2.1.take j),(k:Int),(j:Int),(ins,outs,note),e.2)) 0 by simp[cat],
   ZC (x:=(q++cat ZcU e.2.2.1,(k:Int),(ins,outs,note),e.2)) e.2.2.1.length (λj:Nat=>(q++cat ZcU (e.2.2.1.take j),(k:Int),(j:Int),(ins,outs,note),e.2)) ?_ ?_ (by omega),ya]
  ·have hs:=Ztk k3 e.2.2.1.length;rw[yag] at hs;dsimp only;rw[Zg5 _ (by rw[yj];omega),ya,Zj (by omega),QM he, <-hq];unfold Zb3;simp only[yx]
  ·intro j hj;obtain⟨f,hf,_⟩:=Zh hj;have hs:=Ztk k3 j;have hu:=ZU f.1.toNat
   unfold W1;dsimp only;rw[yW (ZD hj),Zs hf,ya,Zg5 _ (by rw[yj];omega),ya,ya,Zg5 _ (by simp only[yj];omega),ya,Zj (by omega),QM hf];unfold ZcU;simp only[yx]
  ·unfold W1;dsimp only;rw[yX (by rw[Zx];decide),yag]
 ·unfold W2;dsimp only;rw[yX (by rw[Zx];decide),yag]
theorem ZvA{r:Zo}(h:r.1.length<=2000000):Wg yD r=some (Ze1 r):=by
 unfold Wg Ze1;rw[Ztq (by omega) h,ya];have hl:=ZdU r 32;rw[show(32:Int).toNat=32 from rfl]
 generalize Vv r 32=q at hl;obtain⟨l,r'⟩:=q;dsimp only at hl ⊢
 have e:=ZC (step:=YF yD) l.length (λk:Nat=>(l,(k:Int),r',yac 32 (0:yB),ZeZ l 32 k)) (x:=(r',yac 32 (0:yB),ZeZ l 32 l.length)) (by
  intro k hk;obtain⟨e,he,_⟩:=Zh hk;unfold YF;dsimp only;have zB:(ZeZ l 32 k).length=32:=by unfold ZeZ;rw[yj,yv,List.length_replicate];omega
  simp only[ZD hk,if_true,Zs he,ya,Xr (show(0:Int)<=(k:Int) by omega) (show(k:Int) < ((32:Nat):Int) by omega),yaj,Zmi hk hl.1,Zj (show k < 9223372036854775807 by omega),Zmj he hl.1]) (by
  unfold YF;dsimp only;rw[yX (by rw[Zx];decide)]) (by omega)
 refine(congrArg (Option.bind · _) e).trans ?_;unfold ZeZ;rw[yag];rfl
theorem Ztx{r:Zo}(h:r.1.length<=2000000):X7 yD r=some (Qf r):=by
 unfold X7 Qf;have hl:=Y6 r;rw[X9 h,ya];by_cases h1:(Xz r).2.2=true
 ·rw[yW h1,yW h1]
 ·rw[yX h1,yX h1,Ztq hl.1 (by omega),ya]
theorem ZGW{b:yL yB}{n nt:Int}{T:Tx}{outs:yL Out}{r:Zo}(hr:r.1.length<=2000000):
 ∃v ins r',Zf (Ya yD) yD (b,n,(0:Int),T,r,nt,outs,([]:yL Unit),([]:yL In))=some (b,T,r',nt,outs,v,ins)/\r'.1.length<=2000000/\ins.length<=65/\∀x,x∈ins->x.1.1.length=32:=by
 obtain⟨x,h1,v,ins,r',rfl,h2⟩:=Z9 (step:=Ya yD) 65 (λk s=>∃v ins r',s=(b,n,(k:Int),T,r',nt,outs,v,ins)/\r'.1.length<=2000000/\ins.length=k/\∀x,x∈ins->x.1.1.length=32)
  (λx=>∃v ins r',x=(b,T,r',nt,outs,v,ins)/\r'.1.length<=2000000/\ins.length<=65/\∀x,x∈ins->x.1.1.length=32) (i:=(b,n,(0:Int),T,r,nt,outs,([]:yL Unit),([]:yL In))) ⟨[],[],r,rfl,hr,rfl,λx hx=>by cases hx⟩ (by omega) (by
  rintro k _ hk ⟨v,ins,r',rfl,h1,h2,h3⟩;unfold Ya Zt;dsimp only;by_cases c:(k:Int) < n
  ·rw[yW (yY c),yW (yY (by omega)),ya];dsimp only
   cases ho:r'.2 with
   |true=>right;rw[yX (by decide)];exact⟨_,rfl,_,_,_,rfl,h1,by omega,h3⟩
   |false=>
    left;have hl:=Zvr r';have hl2:=Y6 (Ze1 r').2;rw[yW (by decide),ZvA h1,ya,X9 (by omega),ya,yW (ZF (by omega) (by omega)),Zj (by omega)];refine⟨_,rfl,_,_,_,rfl,by omega,by simp[h2],λx hx=> ?_⟩;rcases ycp.1 hx with hx|hx
    ·exact h3 x hx
    ·rw[ybc.1 hx];exact hl.1
  ·right;rw[yX (by rw[yN];exact c)];exact⟨_,rfl,_,_,_,rfl,h1,by omega,h3⟩) (by
  rintro _ ⟨v,ins,r',rfl,h1,h2,h3⟩;unfold Ya;dsimp only;rw[yX (c:=decide (((65:Nat):Int) < 65)=true) (by decide),ite_self];exact⟨_,rfl,_,_,_,rfl,h1,by omega,h3⟩)
 exact⟨v,ins,r',h1,h2⟩
theorem ZD4{b:yL yB}{m nt:Int}{T:Tx}{v:yL Unit}{ins:yL In}{r:Zo}(hr:r.1.length<=2000000):
 ∃x,Zf (Yb yD) yD (b,m,(0:Int),T,r,nt,([]:yL Out),v,ins)=some x/\((∃y,x=.inl (false,(([]:yL In),([]:yL Out),(0:Int)),y))\/∃outs r',x=.inr (b,T,r',nt,outs,v,ins)/\r'.1.length<=2000000/\outs.length<=65/\∀o,o∈outs->Vm o.2):=by
 refine Z9 (step:=Yb yD) 65 (λk s=>∃outs r',s=(b,m,(k:Int),T,r',nt,outs,v,ins)/\r'.1.length<=2000000/\outs.length=k/\∀o,o∈outs->Vm o.2) _ ⟨[],r,rfl,hr,rfl,λx hx=>by cases hx⟩ (by omega) ?_ ?_
 ·rintro k _ hk ⟨outs,r',rfl,h1,h2,h3⟩;unfold Yb Zt;dsimp only;by_cases c:(k:Int) < m
  ·rw[yW (yY c),yW (yY (by omega)),ya];dsimp only
   cases ho:r'.2 with
   |true=>right;rw[yX (by decide)];exact⟨_,rfl,.inr ⟨_,_,rfl,h1,by omega,h3⟩⟩
   |false=>
    have hl:=Y6 r';have hl2:=Zto (Xz r').2;rw[yW (by decide),X9 h1,ya,Ztx (by omega),ya,Zzh (by omega),ya]
    cases ok:(rdF (Qf (Xz r').2).1).2 with
    |false=>right;exact⟨_,rfl,.inl ⟨_,rfl⟩⟩
    |true=>
     left;obtain⟨q1,q2,q3⟩:=ZGN ok;rw[yX (by simp),yW (ZF (by omega) (by omega)),Zj (by omega)];refine⟨_,rfl,_,_,rfl,by omega,by simp[h2],λo ho=> ?_⟩;rcases ycp.1 ho with ho|ho
     ·exact h3 o ho
     ·rw[ybc.1 ho];exact q1
  ·right;rw[yX (by rw[yN];exact c)];exact⟨_,rfl,.inr ⟨_,_,rfl,h1,by omega,h3⟩⟩
 ·rintro _ ⟨outs,r',rfl,h1,h2,h3⟩;unfold Yb;dsimp only;rw[yX (c:=decide (((65:Nat):Int) < 65)=true) (by decide),ite_self];exact⟨_,rfl,.inr ⟨_,_,rfl,h1,by omega,h3⟩⟩
theorem ZGX{r:Zo}(hr:r.1.length<=2000000):∃w r',Xq yD r=some (w,r')/\r'.1.length<=2000000/\w.2.1.length<=13:=by
 unfold Xq;have hl:=Y6 r;have hl2:=Y6 (Xz r).2;rw[X9 hr,ya,X9 (by omega),ya];generalize Xz (Xz r).2=q at hl2;obtain⟨s,r2⟩:=q;dsimp only at hl2 ⊢
 obtain⟨x,h1,r',w,rfl,h2,h3⟩:=Z9 (step:=Z4 yD) 13 (λk t=>∃r' w,t=(s,(k:Int),r',((0:Int),([]:yL Sig),(0:yU)),(Xz r).1,(0:yU),w)/\r'.1.length<=2000000/\w.length=k)
  (λx=>∃r' w,x=(r',((0:Int),([]:yL Sig),(0:yU)),(Xz r).1,(0:yU),w)/\r'.1.length<=2000000/\w.length<=13) (i:=(s,(0:Int),r2,((0:Int),([]:yL Sig),(0:yU)),(Xz r).1,(0:yU),([]:yL Sig))) ⟨r2,[],rfl,by omega,rfl⟩ (by omega) (by
  rintro k _ hk ⟨r',w,rfl,h1,h2⟩;unfold Z4 Zt;dsimp only;by_cases c:(k:Int) < s
  ·rw[yW (yY c),yW (yY (by omega)),ya];dsimp only
   cases ho:r'.2 with
   |true=>right;rw[yX (by decide)];exact⟨_,rfl,_,_,rfl,h1,by omega⟩
   |false=>
    left;have hl:=Zbh r';have hl2:=Zbh (ZnB r').2;rw[yW (by decide),Zed h1,ya,Zed (by omega),ya,yW (ZF (by omega) (by omega)),Zj (by omega)];exact⟨_,rfl,_,_,rfl,by omega,by simp[h2]⟩
  ·right;rw[yX (by rw[yN];exact c)];exact⟨_,rfl,_,_,rfl,h1,by omega⟩) (by
  rintro _ ⟨r',w,rfl,h1,h2⟩;unfold Z4;dsimp only;rw[yX (c:=decide (((13:Nat):Int) < 13)=true) (by decide),ite_self];exact⟨_,rfl,_,_,rfl,h1,by omega⟩)
 have hl3:=Zbh r';rw[h1,ya];dsimp only;rw[Zed h2,ya];exact⟨_,_,rfl,by omega,h3⟩
theorem ZD5{b:yL yB}{nt:Int}{T:Tx}{outs:yL Out}{v:yL Unit}{ins:yL In}{r:Zo}(hn:ins.length<=65)(hr:r.1.length<=2000000):
 ∃ins' r',Zf (Yc yD) yD (b,(0:Int),T,r,nt,outs,v,ins)=some (b,T,r',nt,outs,v,ins')/\r'.1.length<=2000000/\ins'.map (λx=>x.1)=ins.map (λx=>x.1):=by
 obtain⟨x,h1,ins',r',rfl,h2⟩:=Z9 (step:=Yc yD) ins.length (λk s=>∃ins' r',s=(b,(k:Int),T,r',nt,outs,v,ins')/\r'.1.length<=2000000/\ins'.map (λx=>x.1)=ins.map (λx=>x.1))
  (λx=>∃ins' r',x=(b,T,r',nt,outs,v,ins')/\r'.1.length<=2000000/\ins'.map (λx=>x.1)=ins.map (λx=>x.1)) (i:=(b,(0:Int),T,r,nt,outs,v,ins)) ⟨ins,r,rfl,hr,rfl⟩ (by omega) (by
  rintro k _ hk ⟨ins',r',rfl,h1,h2⟩
  have zB:ins'.length=ins.length:=by
   have:=congrArg List.length h2
   rwa [yaa,yaa] at this
  unfold Yc Zt;dsimp only;rw[yW (yY (by omega)),ya];dsimp only
  cases ho:r'.2 with
  |true=>right;rw[yX (by decide)];exact⟨_,rfl,_,_,rfl,h1,h2⟩
  |false=>
   left;obtain⟨w,r2,e1,e2,e3⟩:=ZGX h1;obtain⟨e,he,_⟩:=Zh (l:=ins') (k:=k) (by omega);rw[yW (by decide),e1,ya,yW (Xr (by omega) (by omega)),yaj,he,ya,Zj (by omega)];refine⟨_,rfl,_,_,rfl,e2, ?_⟩;rw[<-h2,List.map_set];apply List.ext_getElem?;intro j;rw[List.getElem?_set];split
   ·rename_i hj;subst hj;rw[yW (by rw[yaa];omega),List.getElem?_map,he];rfl
   ·rfl) (by
  rintro _ ⟨ins',r',rfl,h1,h2⟩
  have zB:ins'.length=ins.length:=by
   have:=congrArg List.length h2
   rwa [yaa,yaa] at this
  unfold Yc;dsimp only;rw[yX (ynd (by omega))];exact⟨_,rfl,_,_,rfl,h1,h2⟩)
 exact⟨ins',r',h1,h2⟩
theorem Zzt{b:yL yB}(hb:b.length<=2000000):∃t ok,XE yD b=some (t,ok)/\(ok=true->TxR t/\txF t=b)/\(ok=false->t=([],[],0)):=by
 unfold XE;rw[ZoQ hb,ya,X9 hb,ya];have hl:=Y6 (b,false);generalize Xz (b,false)=q at hl;obtain⟨n,r1⟩:=q;dsimp only at hl ⊢;obtain⟨v,ins,r2,h1,h2,h3,h4⟩:=ZGW (b:=b) (n:=n) (nt:=0) (T:=(([]:yL In),([]:yL Out),(0:Int))) (outs:=[]) (r:=r1) (by omega);rw[h1,ya];dsimp only;have hl2:=Y6 r2;rw[X9 h2,ya];generalize Xz r2=q at hl2;obtain⟨m,r3⟩:=q;dsimp only at hl2 ⊢;obtain⟨x,q1,q2⟩:=ZD4 (b:=b) (m:=m) (nt:=0) (T:=(([]:yL In),([]:yL Out),(0:Int))) (v:=v) (ins:=ins) (r:=r3) (by omega);rw[q1,ya];rcases q2 with⟨y,rfl⟩|⟨outs,r4,rfl,q2,q3,q4⟩
 ·exact⟨_,_,rfl,(λh=>by cases h),λ_=>rfl⟩
 dsimp only;have hnl:=Y6 r4;rw[X9 q2,ya];generalize Xz r4=q at hnl;obtain⟨note,r5⟩:=q;dsimp only at hnl ⊢;obtain⟨pre,r6,p1,p2,p3⟩:=ZD5 (b:=b) (nt:=note) (T:=(([]:yL In),([]:yL Out),(0:Int))) (outs:=outs) (v:=v) (ins:=ins) (r:=r5) (by omega) (by omega);rw[p1,ya];unfold Zt Wh;dsimp only
 have hpl:pre.length=ins.length:=by
  have:=congrArg List.length p3
  rwa [yaa,yaa] at this
 have hlw:∀o,o∈outs->LockWf o.2:=λo ho=>by
  obtain⟨g1,g2,g3⟩:=q4 o ho;exact⟨by omega,λb hb=>by have:=(g3 b hb).1;omega⟩
 obtain⟨k,hk1,hk,hk2⟩:=Zf1 (t:=(pre,outs,note)) ⟨by dsimp only;omega,by dsimp only;omega,hlw⟩;rw[ya,ya,hk,ya];dsimp only
 cases c3:r6.2 with
 |true=>
  rw[yW (by decide)]
  exact⟨_,_,rfl,(λh=>by cases h),λ_=>rfl⟩
 |false=>
  rw[yX (by decide)];by_cases c4:(r6.1.length:Int) > 0
  ·rw[yW (yY c4)];exact⟨_,_,rfl,(λh=>by cases h),λ_=>rfl⟩
  rw[yX (by rw[yN];exact c4)]
  cases k with
  |false=>
   rw[yW (by decide)]
   exact⟨_,_,rfl,(λh=>by cases h),λ_=>rfl⟩
  |true=>
   have hw:TxWf (pre,outs,note):=⟨λx hx=>by
    have hx':x.1∈ins.map (λx=>x.1):=by
     rw[<-p3];exact ycb.2 ⟨x,hx,rfl⟩
    obtain⟨y,hy,hyx⟩:=ycb.1 hx';rw[<-hyx];exact h4 y hy,hnl.2.1⟩
   rw[yX (by decide),Zvz hw hk (hk2 rfl),ya];rw[ZdX];by_cases c5:txF (pre,outs,note)=b
   ·rw[yY c5,yX (by decide)];exact⟨_,_,rfl,(λ_=>⟨⟨hk1,hk2 rfl,hw⟩,c5⟩),λh=>by cases h⟩
   ·rw[yZ c5,yW (by decide)];exact⟨_,_,rfl,(λh=>by cases h),λ_=>rfl⟩
theorem ZD6{b:yL yB}{nt:Int}{T:Tx}{outs:yL Out}{ins:yL In}{yJ:yL yB}(hn:ins.length<=64)(hw:∀x,x∈ins->x.1.1.length=32)(hok:∀x,x∈ins->Zy7 x)(hr:yJ.length<=100000):
 Zf (Ya yD) yD (b,(ins.length:Int),(0:Int),T,(cat inF ins++yJ,false),nt,outs,([]:yL Unit),([]:yL In))=some (b,T,(yJ,false),nt,outs,yac ins.length (),ins.map ZlS):=by
 refine ZC ins.length (λk:Nat=>(b,(ins.length:Int),(k:Int),T,(cat inF (ins.drop k)++yJ,false),nt,outs,yac k (),(ins.take k).map ZlS)) ?_ ?_ (by omega)
 ·intro k hk;obtain⟨e,he,hm⟩:=Zh hk;have hl:=ZW (f:=inF) (c:=41) (λx hx=>Zmk (hw x hx) (hok x hx)) hn k;have hl2:=ZW (f:=inF) (c:=41) (λx hx=>Zmk (hw x hx) (hok x hx)) hn (k+1);obtain⟨k1,k2,_⟩:=hok e hm;have r1:=Zz (n:=e.1.2.toNat) (by omega);have h32:=hw e hm;unfold Ya Zt;dsimp only;rw[yW (ZD hk),yW (yY (by omega)),ya,yW (by rfl),ZvA (by simp only[yj];omega),ya,ZaP he];unfold inF at hl2 ⊢;rw[yx,yx,Zza h32];dsimp only;rw[X9 (by simp only[yj];omega),ya,Wx k1 (by omega),yW (ZF (by simp;omega) (by simp;omega)),Zj (by omega),YW he,yau];rfl
 ·unfold Ya;dsimp only;rw[yX (by rw[Zx];decide),ycm,yag];rfl
theorem ZA7{b:yL yB}{nt:Int}{T:Tx}{v:yL Unit}{ins:yL In}{outs:yL Out}{yJ:yL yB}(hn:outs.length<=64)(hok:∀x,x∈outs->ZCs x)(hr:yJ.length<=100000):
 Zf (Yb yD) yD (b,(outs.length:Int),(0:Int),T,(cat ZbD outs++yJ,false),nt,([]:yL Out),v,ins)=some (.inr (b,T,(yJ,false),nt,outs,v,ins)):=by
 refine ZC outs.length (λk:Nat=>(b,(outs.length:Int),(k:Int),T,(cat ZbD (outs.drop k)++yJ,false),nt,outs.take k,v,ins)) ?_ ?_ (by omega)
 ·intro k hk;obtain⟨e,he,hm⟩:=Zh hk;have hl:=ZW (f:=ZbD) (c:=551) (λx hx=>Zjc (hok x hx)) hn k;have hl2:=ZW (f:=ZbD) (c:=551) (λx hx=>Zjc (hok x hx)) hn (k+1);obtain⟨k1,k2,k3,k4⟩:=hok e hm;have hll:=Zb1 k3;have r1:=Zz (n:=e.1.toNat) (by omega);have r2:=Zz (n:=(Qj e.2).length) (by omega);unfold Yb Zt;dsimp only;rw[yW (ZD hk),yW (yY (by omega)),ya,yW (by rfl),X9 (by simp only[yj];omega),ya,ZaP he];unfold ZbD at hl2 ⊢;simp only[yx];rw[Wx k1 (by omega)];dsimp only;rw[Ztx (by simp only[yj];omega),ya,Zvt (by omega)];dsimp only;have hx:∃l,Vm l/\QV l/\Qj l=Qj e.2:=⟨e.2,k3,k4,rfl⟩
  have hy:rdF (Qj e.2)=(e.2,true):=by
   have:=ZCv (b:=Qj e.2) (by omega);rw[ZpE k3 k4] at this;exact(Option.some.inj this).symm
  rw[Zzh (by omega),ya,hy];dsimp only;rw[yX (by decide),yW (ZF (by rw[yv];omega) (by rw[yv];omega)),Zj (by omega),YW he]
 ·unfold Yb;dsimp only;rw[yX (by rw[Zx];decide),ycm,yag];rfl
theorem ZD7{x:In}{yJ:yL yB}(hok:Zy7 x)(hr:yJ.length<=100000):Xq yD (Zb3 x++yJ,false)=some (x.2,(yJ,false)):=by
 obtain⟨_,_,k1,k2,k3⟩:=hok;have hs:=VT (f:=ZcU) (c:=16) (λs _=>by unfold ZcU;rw[yj,ZU,ZU];exact yl _) k3 x.2.2.1.length;rw[yag] at hs;have r1:=Zz (n:=x.2.1.toNat) (by omega);have r2:=Zz (n:=x.2.2.1.length) (by omega);have r3:=ZU x.2.2.2.toNat
 obtain⟨fr,br,l,sec⟩:=x;unfold Xq Zb3;dsimp only at k1 k2 k3 hs r1 r2 r3 ⊢;simp only[yx];rw[X9 (by simp only[yj];omega),ya,Wx k1 (by omega)];dsimp only;have q1:=Wx (z:=(l.length:Int)) (by omega) (by omega) (cat ZcU l++(QU sec.toNat++yJ));rw[yaj] at q1;rw[X9 (by simp only[yj];omega),ya,q1];dsimp only
 have e:=ZC (step:=Z4 yD) l.length (λk:Nat=>((l.length:Int),(k:Int),(cat ZcU (l.drop k)++(QU sec.toNat++yJ),false),((0:Int),([]:yL Sig),(0:yU)),br,(0:yU),l.take k)) (x:=((QU sec.toNat++yJ,false),((0:Int),([]:yL Sig),(0:yU)),br,(0:yU),l)) (by
  intro k hk;obtain⟨e,he,hm⟩:=Zh hk;have hsl:∀x,x∈l->(ZcU x).length<=16:=λx _=>by unfold ZcU;rw[yj,ZU,ZU];exact yl _
  have hl:=ZW (f:=ZcU) (c:=16) hsl k3 k;have hl2:=ZW (f:=ZcU) (c:=16) hsl k3 (k+1);have hu:=ZU e.2.toNat
  unfold Z4 Zt;dsimp only;rw[yW (ZD hk),yW (yY (by omega)),ya,yW (by rfl),Zed (by simp only[yj];omega),ya,ZaP he];unfold ZcU at hl2 ⊢;rw[yx,yx,Zeb];dsimp only;rw[Zed (by simp only[yj];omega),ya,Zeb,yW (ZF (by rw[yv];omega) (by rw[yv];omega)),Zj (by omega),YW he]) (by
  unfold Z4;dsimp only;rw[yX (by rw[Zx];decide),ycm,yag];rfl) (by omega)
 refine(congrArg (Option.bind · _) e).trans ?_;rw[ya,Zed (by simp only[yj];omega),ya,Zeb]
theorem ZA8{b:yL yB}{nt:Int}{T:Tx}{outs:yL Out}{v:yL Unit}{ins:yL In}(hn:ins.length<=64)(hok:∀x,x∈ins->Zy7 x):
 Zf (Yc yD) yD (b,(0:Int),T,(cat Zb3 ins,false),nt,outs,v,ins.map ZlS)=some (b,T,([],false),nt,outs,v,ins):=by
 refine ZC ins.length (λk:Nat=>(b,(k:Int),T,(cat Zb3 (ins.drop k),false),nt,outs,v,ins.take k++(ins.drop k).map ZlS)) ?_ ?_ (by omega)
 ·intro k hk;obtain⟨e,he,hm⟩:=Zh hk;have hl2:=ZW (f:=Zb3) (c:=218) (λx hx=>ZlO (hok x hx)) hn (k+1);have ht:(ins.take k).length=k:=by rw[yv];omega
  have zB:(ins.take k++(ins.drop k).map ZlS).length=ins.length:=by rw[yj,yaa,ybf,ht];omega
  have hg:(ins.take k++(ins.drop k).map ZlS)[k]? =some (ZlS e):=by
   rw[yat (by omega),ht,Nat.sub_self,Zec he];rfl
  unfold Yc Zt;dsimp only;rw[zB,yW (ZD hk),ya,yW (by rfl)];dsimp only;rw[ZaP he,ZD7 (hok e hm) (by omega),ya,yW (Xr (by omega) (by omega)),yaj,hg,ya,Zj (by omega)];dsimp only;rw[List.set_append_right _ _ (by omega),ht,Nat.sub_self,Zec he,List.map_cons,List.set_cons_zero,YW he,yx];rfl
 ·unfold Yc;dsimp only;rw[ycm,yag,List.map_nil,yas,yX (by rw[Zx];decide)];rfl
theorem ZGY{t:Tx}(hR:TxR t):XE yD (txF t)=some (t,true):=by
 obtain⟨hr,h,hw⟩:=hR;have zB:=ZCz hw h
 have hwl:∀o,o∈t.2.1->LockWf o.2:=λo ho=>by
  obtain⟨_,_,g,_⟩:=h.2.2.2.2.2 o ho;obtain⟨g1,g2,g3⟩:=g;exact⟨by omega,λb hb=>by have:=(g3 b hb).1;omega⟩
 have hrr:Z0 yD t=some true:=by
  obtain⟨k,hk1,hk,_⟩:=Zf1 (t:=t) ⟨by have:=h.2.1;omega,by have:=h.2.2.1;omega,hwl⟩;rw[hr] at hk1;cases hk1;exact hk
 have hb:=Zvz hw hrr h;obtain⟨ins,outs,note⟩:=t;obtain⟨w2,w3⟩:=hw;obtain⟨h1,h2,h3,h4,h5,h6⟩:=h;dsimp only at w2 w3 h1 h2 h3 h4 h5 h6;unfold XE;rw[ZoQ (by omega),ya,X9 (by dsimp only;omega),ya];generalize hB:txF (ins,outs,note)=bs at zB hb ⊢
 have hB2:bs=Yu ins.length++(cat inF ins++(Yu outs.length++(cat ZbD outs++(Yu note.toNat++cat Zb3 ins)))):=by
  rw[<-hB];unfold txF ZdT;simp only[yx]
 have hlen2:=zB;rw[hB2] at hlen2;simp only[yj] at hlen2;have q1:=Wx (z:=(ins.length:Int)) (by omega) (by omega) (cat inF ins++(Yu outs.length++(cat ZbD outs++(Yu note.toNat++cat Zb3 ins))));rw[yaj, <-hB2] at q1;rw[q1];dsimp only;rw[ZD6 h2 w2 h5 (by simp only[yj];omega),ya];dsimp only;have q2:=Wx (z:=(outs.length:Int)) (by omega) (by omega) (cat ZbD outs++(Yu note.toNat++cat Zb3 ins));rw[yaj] at q2;rw[X9 (by simp only[yj];omega),ya,q2];dsimp only;rw[ZA7 h3 h6 (by simp only[yj];omega),ya];dsimp only;rw[X9 (by simp only[yj];omega),ya,Wx h4 w3];dsimp only;rw[ZA8 h2 h5,ya];unfold Zt Wh;dsimp only;rw[ya,yX (by decide),ya,yX (by decide),hrr,ya,yX (by decide),hb,ya,ZdX,yY rfl,yX (by decide)]
theorem ZD8{b:yL yB}(hb:b.length<=2000000):XE yD b=some (trF b):=by
 obtain⟨t,ok,h1,h2,h3⟩:=Zzt hb
 cases ok with
 |true=>rw[h1,ZGP (h2 rfl)]
 |false=>
  by_cases c:∃t,TxR t/\txF t=b
  ·obtain⟨u,c1,c2⟩:=c;have:=ZGY c1;rw[c2,h1] at this;cases this
  ·rw[h1,h3 rfl,ZGQ c]
theorem ZlT{t:Tx}(hl:∀o,o∈t.2.1->LockWf o.2):∃b:Bool,Qd yD t=some b/\Z0 yD t=some b/\(b=true->ZAY t):=by
 by_cases c:t.1.length<=64/\t.2.1.length<=64
 ·exact Zf1 ⟨by omega,by omega,hl⟩
 ·refine⟨false, ?_, ?_,λh=>by cases h⟩
  ·unfold Qd
   all_goals grind
  ·unfold Z0
   all_goals grind
theorem Zzu{t:Tx}(hl:∀o,o∈t.2.1->LockWf o.2)(hw:TxWf t):∃n,Ztb yD t=some n/\Za0 yD t=some n/\n.length=32:=by
 obtain⟨b,b1,b2,b3⟩:=ZlT hl;unfold Ztb Za0;rw[b1,b2,ya,ya]
 cases b with
 |false=>exact⟨_,rfl,rfl,rfl⟩
 |true=>
  have h:=b3 rfl;obtain⟨p1,p2⟩:=Ztl hw h;rw[yX (by decide),yX (by decide),p1,Zvv hw h,ya,ya,ZnA (by decide) (by simp) (Zvx p2),Zj7 (by decide) (by simp) (Zvx p2)];exact⟨_,rfl,rfl,Sha.ZLx _⟩
structure TxAny(t:Tx):Prop where
 locks:∀o,o∈t.2.1->LockWf o.2
 wf:TxWf t
theorem ZpL{a:yL yB}(ha:a.length<=60000):∀l,l∈[a]->l.length<=60000:=λl hl=>by rw[ybc.1 hl];exact ha
noncomputable def htF(id:yL yB):yL yB:=(Sha.sha (Zj6 ZyV [id])).take 16
noncomputable def kyF(id:yL yB):yL yB:=Sha.sha (Zj6 ZGl [id])
noncomputable def pfF(nonce b:yL yB):yL yB:=Sha.sha (Zj6 ZF9 [nonce,b])
theorem ZCC(id:yL yB):(kyF id).length=32:=Sha.ZLx _
theorem ZCD{id:yL yB}(h:id.length=32):ZbN yD id=some (htF id):=by
 unfold ZbN;rw[ZnA (by decide) (by simp) (ZpL (by omega)),ya,yW (by rw[yv,Sha.ZLx];decide),List.take_take];rfl
theorem ZGZ{id:yL yB}(h:id.length=32):ZdO yD id=some (kyF id):=by
 unfold ZdO;rw[ZnA (by decide) (by simp) (ZpL (by omega)),ya];rfl
theorem Zty{nonce:yL yB}{p:Ze}(h:nonce.length=32)(hp:p.2.length<=60000):ZaW yD nonce p=some (pfF nonce p.2):=by
 unfold ZaW;rw[ZnA (by decide) (by simp) (ZpH (by omega) hp),ya];rfl
theorem Zzv{id:yL yB}(h:id.length=32):Vf yD id=some (htF id):=by
 unfold Vf;rw[Ze0 (by simp) h,ya,yy,Zj7 (by decide) (by simp) (ZpL (by omega)),ya];unfold htF;have hs:(Sha.sha (Zj6 ZyV [id])).length=32:=Sha.ZLx _;generalize Sha.sha (Zj6 ZyV [id])=s at hs;have hs2:(s.take 16).length=16:=by rw[yv];omega
 have e:=ZC (step:=Wl yD) 16 (λk:Nat=>((k:Int),id,yac 16 (0:yB),s,ZeZ (s.take 16) 16 k)) (x:=(id,yac 16 (0:yB),s,s.take 16)) (by
  intro k hk;obtain⟨e,he,_⟩:=Zh (l:=s) (k:=k) (by omega);have he2:(s.take 16)[k]? =some e:=by rw[List.getElem?_take,yW hk,he]
  unfold Wl;dsimp only;rw[yW (yY (by omega)),yW (Xr (by omega) (by omega)),yaj,he,ya,yW (Xr (by omega) (by omega)),Zmi (by omega) (by omega),ya,Zj (by omega),Zmj he2 (by omega)]) (by
  unfold Wl;dsimp only;rw[yX (ynd (by omega)),ZpC hs2]) (by omega)
 exact(congrArg (Option.bind · _) e).trans rfl
theorem ZCE{id:yL yB}(h:id.length=32):VF yD id=some (kyF id):=by
 unfold VF;rw[Ze0 (by simp) h,ya,yy,Zj7 (by decide) (by simp) (ZpL (by omega)),ya];rfl
theorem ZpM{nonce:yL yB}{p:Ze}(h:nonce.length=32)(hp:p.2.length<=60000):Wa yD nonce p=some (pfF nonce p.2):=by
 unfold Wa;rw[Ze0 (by simp) h,ya,yy,Zj7 (by decide) (by simp) (ZpH (by omega) hp),ya];rfl
theorem ZG0{a b:yL yB}(h:a.length<=1000000):QD yD a b=some (decide (a=b)):=by
 unfold QD;by_cases hl:a.length=b.length
 ·rw[yX (by simp[hl])]
  obtain⟨x,h1,h2⟩:=Z9 (step:=Wp yD) a.length (λk s=>s=(a,b,(k:Int))/\a.take k=b.take k) (λx=>(x=.inl false/\a≠b)\/(x=.inr ()/\a=b)) (i:=(a,b,(0:Int))) ⟨rfl,by rw[List.take_zero,List.take_zero]⟩ (by omega) (by
   rintro k _ hk ⟨rfl,h2⟩;obtain⟨x,hx,_⟩:=Zh (l:=a) (k:=k) hk;obtain⟨y,hy,_⟩:=Zh (l:=b) (k:=k) (by omega);unfold Wp;dsimp only;rw[yW (ZD hk),Zs hx,ya,Zs hy,ya];by_cases c:x=y
   ·left;rw[yX (by simp[c]),Zj (by omega)];exact⟨_,rfl,rfl,by rw[YW hx,YW hy,h2,c]⟩
   ·right;rw[yW (by simp[c])];exact⟨_,rfl,.inl ⟨rfl,λq=>c (by rw[q,hy] at hx;exact(Option.some.inj hx).symm)⟩⟩) (by
   rintro _ ⟨rfl,h2⟩;unfold Wp;dsimp only;rw[yX (by rw[Zx];decide)];rw[yag,hl,yag] at h2;exact⟨_,rfl,.inr ⟨rfl,h2⟩⟩)
  all_goals grind
 ·rw[yW (by simp;omega),yZ λq=>hl (by rw[q])]
theorem ZKr(a b:yL yB):ZfY yD a b=some (decide (a=b)):=by
 unfold ZfY;dsimp only;rw[ZdX]
theorem ZG1(e p:Ze):V8 yD e p=some (decide (e=p),p):=by
 unfold V8;by_cases c:e.1=p.1
 ·rw[yW (yY c),ZKr,ya];by_cases c2:e.2=p.2
  ·grind
  ·rw[yZ c2,yZ λq=>c2 (by rw[q])]
 ·rw[yX (by rw[yN];exact c),yZ λq=>c (by rw[q])]
theorem ZlU{α:Type}{l:yL α}{k:Nat}{e p:α}(h:l[k]? =some e)(hne:e≠p):p∈l.drop k↔p∈l.drop (k+1):=by
 rw[Zec h,List.mem_cons];grind
theorem ZKs{held:yL Ze}{p:Ze}{v:yL Unit}(hl:held.length<=1000000):VS yD v held p=some (decide (p∈held),v,held,p):=by
 unfold VS Zfe
 obtain⟨x,h1,h2⟩:=Z9 (step:=Vi yD) held.length (λk s=>s=(held,(held.length:Int),(k:Int),p)/\(p∈held↔p∈held.drop k)) (λx=>(∃k:Nat,x=.inl ((k:Int),p)/\p∈held)\/(x=.inr p/\¬p∈held)) (i:=(held,(held.length:Int),(0:Int),p)) ⟨rfl,by rw[List.drop_zero]⟩ (by omega) (by
  rintro k _ hk ⟨rfl,h2⟩;obtain⟨x,hx,hm⟩:=Zh (l:=held) (k:=k) hk;unfold Vi;dsimp only;rw[yW (ZD hk),Zs hx,ya,ZG1,ya];by_cases c:x=p
  ·right;rw[yW (yY c)];exact⟨_,rfl,.inl ⟨k,rfl,c ▸ hm⟩⟩
  ·left;rw[yX (by rw[yN];exact c),Zj (by omega)];exact⟨_,rfl,rfl,h2.trans (ZlU hx c)⟩) (by
  rintro _ ⟨rfl,h2⟩;unfold Vi;dsimp only;rw[yX (by rw[Zx];decide)];exact⟨_,rfl,.inr ⟨rfl,by rw[h2,ycm];exact List.not_mem_nil⟩⟩)
 rw[h1,ya];rcases h2 with⟨k,rfl,h2⟩|⟨rfl,h2⟩
 all_goals simp_all
def hdE(price room:Int)(held:yL Ze)(p:Ze)(paid:Int):Int:=
 if p.2.length=0\/8192 < p.2.length then 2 else if paid < price then 8 else if p∈held then 4 else if(held.length:Int) >= room then 3 else 0
def hdL(price room:Int)(held:yL Ze)(p:Ze)(paid:Int):yL Ze:=if hdE price room held p paid=0 then held++[p] else held
theorem ZCF{price room:Int}{u:Unit}{v:yL Unit}{held:yL Ze}{p:Ze}{paid:Int}(hl:held.length<=1000000):
 ∃v',WD yD p paid price room u v held=some (hdE price room held p paid,price,room,u,v',hdL price room held p paid):=by
 unfold WD hdL hdE;by_cases c1:p.2.length=0
 ·simp_all
 by_cases c2:8192 < p.2.length
 ·rw[yX (by rw[yT];omega),yW (yY (by omega)),yW (.inr c2),yX (by decide)];exact⟨_,rfl⟩
 rw[yX (by rw[yT];omega),yX (ynd (by omega)),yX (show¬(p.2.length=0\/8192 < p.2.length) by omega)];by_cases c3:paid < price
 ·simp_all
 rw[yX (by rw[yN];exact c3),yX c3,ZKs hl,ya]
 have hc:(decide (v.length=v.length)&&(decide (17=17)&&decide ((yac held.length ()).length=held.length)))=true:=by
  grind
 dsimp only;by_cases c4:p∈held
 ·simp_all
 rw[yX (by rw[yN];exact c4),yX c4,yW hc];by_cases c5:(held.length:Int) >= room
 ·simp_all
 rw[yX (by rw[yN];exact c5),yX c5,yW rfl];unfold ZaX;rw[yW (ZF (by omega) (by omega)),ya,yW (ZF (by omega) (by omega))];exact⟨_,rfl⟩
theorem ZIx:@ZaN=@WD:=rfl
theorem Zzw{price room:Int}{u:Bool}{v:yL Unit}{held:yL Ze}{p:Ze}{paid:Int}(hl:held.length<=1000000)(hh:∀q,q∈held->q.2.length<=1000000):
 ∃v',Xw yD p paid price room u v held=some (hdE price room held p paid,price,room,u,v',hdL price room held p paid):=by
 unfold Xw hdL hdE;by_cases c1:p.2.length=0
 ·simp_all
 by_cases c2:8192 < p.2.length
 ·rw[yX (by rw[yT];omega),yW (yY (by omega)),yW (.inr c2),yX (by decide)];exact⟨_,rfl⟩
 rw[yX (by rw[yT];omega),yX (ynd (by omega)),yX (show¬(p.2.length=0\/8192 < p.2.length) by omega)];by_cases c3:paid < price
 ·simp_all
 rw[yX (by rw[yN];exact c3),yX c3]
 obtain⟨x,h1,h2⟩:=Z9 (step:=YR yD) held.length (λk s=>s=((k:Int),price,room,u,v,held,p)/\(p∈held↔p∈held.drop k)) (λx=>(x=.inl (4,price,room,u,v,held,p)/\p∈held)\/(x=.inr (price,room,u,v,held,p)/\¬p∈held)) (i:=((0:Int),price,room,u,v,held,p)) ⟨rfl,by rw[List.drop_zero]⟩ (by omega) (by
  rintro k _ hk ⟨rfl,h2⟩;obtain⟨x,hx,hm⟩:=Zh (l:=held) (k:=k) hk;have hb:=Xr (i:=(k:Int)) (n:=held.length) (by omega) (by omega);unfold YR;dsimp only;rw[yW (ZD hk),yW hb,yaj,hx,ya];by_cases c:x.1=p.1
  ·rw[yW (yY c),yW hb,ya,ZG0 (hh x hm),ya];by_cases c2:x.2=p.2
   ·right;rw[yW (yY c2)];exact⟨_,rfl,.inl ⟨rfl,by rw[<-show x=p from Prod.ext c c2];exact hm⟩⟩
   ·left;rw[yX (by rw[yN];exact c2),Zj (by omega)];exact⟨_,rfl,rfl,h2.trans (ZlU hx λq=>c2 (by rw[q]))⟩
  ·left;rw[yX (by rw[yN];exact c),Zj (by omega)];exact⟨_,rfl,rfl,h2.trans (ZlU hx λq=>c (by rw[q]))⟩) (by
  rintro _ ⟨rfl,h2⟩;unfold YR;dsimp only;rw[yX (by rw[Zx];decide)];exact⟨_,rfl,.inr ⟨rfl,by rw[h2,ycm];exact List.not_mem_nil⟩⟩)
 rw[h1,ya];rcases h2 with⟨rfl,c4⟩|⟨rfl,c4⟩
 ·simp_all
 rw[yX c4];dsimp only;by_cases c5:(held.length:Int) >= room
 ·simp_all
 rw[yX (by rw[yN];exact c5),yX c5,yW rfl,yW (ZF (by omega) (by omega)),yW (ZF (by omega) (by omega))];exact⟨_,rfl⟩
def loB(held:yL Ze)(n:Int):Bool:=decide (0<=n/\n < (held.length:Int))
def loL(held:yL Ze)(n:Int):yL Ze:=held.eraseIdx n.toNat
theorem ZCG{price room n:Int}{u:Unit}{v:yL Unit}{held:yL Ze}(h:loB held n=false):Y4 yD n price room u v held=some (.inl (false,price,room,u,v,held)):=by
 have h:=of_decide_eq_false h;unfold Y4
 all_goals grind
theorem Zzx{price room n:Int}{u:Unit}{v:yL Unit}{held:yL Ze}(hl:held.length<=1000000)(h:loB held n=true):∃v',Y4 yD n price room u v held=some (.inr (true,price,room,u,v,held,v',loL held n)):=by
 have h:=yF h;unfold Y4 V7 Q6;rw[yX (ynd (by omega)),yX (ynd (by omega)),yX (by rw[List.isEmpty_iff_length_eq_zero];omega),yW (ZF (by omega) (by omega)),ya,Yj (by omega) (by omega)]
 have hd:(decide (0<=n)&&decide (n+1=n+1)&&(decide ([()].length=1)&&decide (n < (held.length:Int))))=true:=by
  grind
 have q:ZAG (t:=Zd) n (n+1) [()] held=some ([()],loL held n):=yW hd;exact⟨_,(congrArg (Option.bind · _) q).trans rfl⟩
theorem ZCH:@ZaL=@Y4:=rfl
theorem Zzy{price room n:Int}{u:Bool}{v:yL Unit}{held:yL Ze}(h:loB held n=false):ZV yD n price room u v held=some (.inl (false,price,room,u,v,held)):=by
 have h:=of_decide_eq_false h;unfold ZV
 all_goals grind
theorem ZvB{price room n:Int}{u:Bool}{v:yL Unit}{held:yL Ze}(hl:held.length<=1000000)(h:loB held n=true):∃v',ZV yD n price room u v held=some (.inr (true,price,room,u,v,held,v',loL held n)):=by
 have h:=yF h;unfold ZV;have h1:(held.take n.toNat).length<=1000000:=by rw[yv];omega
 have h2:(held.drop (n+1).toNat).length<=1000000:=by rw[ybf];omega
 rw[yX (ynd (by omega)),yX (ynd (by omega)),yW (Zmm (by omega) (by omega)),yW (ZF (by omega) (by omega)),Yj (by omega) (by omega),yW (Zml (by omega) (by omega)),yW (ZF (by omega) (by omega))];dsimp only;unfold loL;rw[List.eraseIdx_eq_take_drop_succ,show(n+1).toNat=n.toNat+1 by omega];exact⟨_,rfl⟩
theorem ZD9{w:XA}(hl:w.2.1.length<=1000000):Vo yD w w=some true:=by
 unfold Vo
 have q:=ZC (step:=YK yD) w.2.1.length (λk:Nat=>((k:Int),w,w)) (x:=.inr (w,w)) (by
  intro k hk;obtain⟨e,he,_⟩:=Zh hk;unfold YK;dsimp only;rw[yW (ZD hk),Zs he,ya,ya,yX (by simp),Zj (by omega)]) (by
  unfold YK;dsimp only;rw[yX (by rw[Zx];decide)]) (by omega)
 have q:Zf (YK yD) yD ((0:Int),w,w)=_:=q;rw[yX (by simp),yX (by simp),yX (by simp),q,ya]
theorem ZA9{l:Z8}(hl:l.length<=1000000)(hk:∀b,b∈l->b.1.length<=1000000):Qv yD l l=some true:=by
 unfold Qv
 have q:=ZC (step:=Xn yD) l.length (λk:Nat=>((k:Int),l,l)) (x:=.inr (l,l)) (by
  intro k hk2;obtain⟨e,he,hm⟩:=Zh hk2;have hb:=hk e hm
  have p:=ZC (step:=Xm yD) e.1.length (λj:Nat=>((k:Int),(j:Int),l,l,e,e)) (x:=.inr ((k:Int),l,l,e,e)) (by
   intro j hj;obtain⟨d,hd,_⟩:=Zh hj;unfold Xm;dsimp only;rw[yW (ZD hj),Zs hd,ya,ya,yX (by simp),Zj (by omega)]) (by
   unfold Xm;dsimp only;rw[yX (by rw[Zx];decide)]) (by omega)
  have p:Zf (Xm yD) yD ((k:Int),(0:Int),l,l,e,e)=_:=p;unfold Xn;dsimp only;rw[yW (ZD hk2),Zs he,ya,ya,yX (by simp),yX (by simp),yX (by simp),yX (by simp),p,ya];dsimp only;rw[Zj (by omega)]) (by
  unfold Xn;dsimp only;rw[yX (by rw[Zx];decide)]) (by omega)
 have q:Zf (Xn yD) yD ((0:Int),l,l)=_:=q;rw[yX (by simp),q,ya]
theorem ZBa{t:Tx}(h1:t.1.length<=1000000)(h2:t.2.1.length<=1000000)(h3:∀x,x∈t.1->x.2.2.1.length<=1000000)(h4:∀o,o∈t.2.1->o.2.length<=1000000/\∀b,b∈o.2->b.1.length<=1000000):Qw yD t t=some true:=by
 unfold Qw
 have q:=ZC (step:=Xo yD) t.1.length (λk:Nat=>((k:Int),t,t)) (x:=.inr (t,t)) (by
  intro k hk;obtain⟨e,he,hm⟩:=Zh hk;unfold Xo;dsimp only;rw[yW (ZD hk),Zs he,ya,ya,yX (by simp),ya,ya,ZD9 (h3 e hm),ya,yX (by decide),Zj (by omega)]) (by
  unfold Xo;dsimp only;rw[yX (by rw[Zx];decide)]) (by omega)
 have q:Zf (Xo yD) yD ((0:Int),t,t)=_:=q
 have p:=ZC (step:=Xp yD) t.2.1.length (λk:Nat=>((k:Int),t,t)) (x:=.inr (t,t)) (by
  intro k hk;obtain⟨e,he,hm⟩:=Zh hk;obtain⟨g1,g2⟩:=h4 e hm;unfold Xp;dsimp only;rw[yW (ZD hk),Zs he,ya,ya,yX (by simp),ya,ya,ZA9 g1 g2,ya,yX (by decide),Zj (by omega)]) (by
  unfold Xp;dsimp only;rw[yX (by rw[Zx];decide)]) (by omega)
 have p:Zf (Xp yD) yD ((0:Int),t,t)=_:=p;rw[yX (by simp),yX (by simp),yX (by simp),q,ya];dsimp only;rw[p,ya]
noncomputable def ZpN(hint sum:yL yB)(q:Ze):Bool:=decide (q.1=hint/\Sha.sha q.2=sum)
noncomputable def pvF(held:yL Ze)(nonce hint sum:yL yB):yL yB×Bool:=match held.find? (ZpN hint sum) with
 |some q=>(pfF nonce q.2,true)
 |none=>(z32,false)
theorem ZCI{α:Type}{l:yL α}{k:Nat}{e:α}(f:α->Bool)(h:l[k]? =some e):(l.drop k).find? f=if f e=true then some e else(l.drop (k+1)).find? f:=by
 rw[Zec h,List.find?_cons];grind
theorem Zzz{hint sum:yL yB}{q:Ze}(h:q.1≠hint):ZpN hint sum q=false:=yZ λc=>h c.1
theorem ZzA{hint sum:yL yB}{q:Ze}(h:Sha.sha q.2≠sum):ZpN hint sum q=false:=yZ λc=>h c.2
theorem ZG2{price room:Int}{u:Unit}{v:yL Unit}{held:yL Ze}{nonce hint sum:yL yB}(hl:held.length<=1000000)(hh:∀q,q∈held->q.2.length<=60000)(hn:nonce.length=32):
 Vr yD nonce hint sum price room u v held=some ((pvF held nonce hint sum).1,(pvF held nonce hint sum).2,price,room,u,v,held):=by
 unfold Vr QH
 obtain⟨x,h1,h2⟩:=Z9 (step:=Xi yD) held.length (λk s=>s=((held.length:Int),(k:Int),price,room,u,v,held,u,nonce,hint,sum,z32)/\held.find? (ZpN hint sum)=(held.drop k).find? (ZpN hint sum))
  (λx=>(∃q w,x=.inl (true,price,room,u,v,held,w,nonce,hint,sum,pfF nonce q.2)/\held.find? (ZpN hint sum)=some q)\/(∃w,x=.inr (price,room,u,v,held,w)/\held.find? (ZpN hint sum)=none)) (i:=((held.length:Int),(0:Int),price,room,u,v,held,u,nonce,hint,sum,z32)) ⟨rfl,by rw[List.drop_zero]⟩ (by omega) (by
  rintro k _ hk ⟨rfl,h2⟩;obtain⟨x,hx,hm⟩:=Zh (l:=held) (k:=k) hk;have hb:=Xr (i:=(k:Int)) (n:=held.length) (by omega) (by omega);have hq:=hh x hm;rw[ZCI _ hx] at h2;unfold Xi;dsimp only;rw[yW (ZD hk),yW hb,yaj,hx,ya];by_cases c:x.1=hint
  ·rw[yW (yY c),ZCh (by omega),ya];by_cases c2:Sha.sha x.2=sum
   ·right;rw[yW (yY c2),Zty hn hq,ya];exact⟨_,rfl,.inl ⟨x,_,rfl,by rw[h2,yW (show ZpN hint sum x=true from yY ⟨c,c2⟩)]⟩⟩
   ·left;rw[yX (by rw[yN];exact c2),Zj (by omega)];exact⟨_,rfl,rfl,by rw[h2,ZzA c2];rfl⟩
  ·left;rw[yX (by rw[yN];exact c),Zj (by omega)];exact⟨_,rfl,rfl,by rw[h2,Zzz c];rfl⟩) (by
  rintro _ ⟨rfl,h2⟩;unfold Xi;dsimp only;rw[yX (by rw[Zx];decide)];exact⟨_,rfl,.inr ⟨_,rfl,by rw[h2,ycm];rfl⟩⟩)
 unfold z32 at h1;rw[h1,ya];unfold pvF z32
 all_goals grind
theorem ZEa{price room:Int}{v:yL Unit}{held:yL Ze}{nonce hint sum:yL yB}(hl:held.length<=1000000)(hh:∀q,q∈held->q.2.length<=60000)(hn:nonce.length=32):
 Yi yD nonce hint sum price room false v held=some ((pvF held nonce hint sum).1,(pvF held nonce hint sum).2,price,room,false,v,held):=by
 unfold Yi;rw[yX (by decide)]
 obtain⟨x,h1,h2⟩:=Z9 (step:=YG yD) held.length (λk s=>s=((k:Int),price,room,false,v,held,nonce,hint,sum,z32)/\held.find? (ZpN hint sum)=(held.drop k).find? (ZpN hint sum))
  (λx=>(∃q,x=.inl (true,price,room,false,v,held,nonce,hint,sum,pfF nonce q.2)/\held.find? (ZpN hint sum)=some q)\/(∃w,x=.inr (price,room,false,v,held,w)/\held.find? (ZpN hint sum)=none)) (i:=((0:Int),price,room,false,v,held,nonce,hint,sum,z32)) ⟨rfl,by rw[List.drop_zero]⟩ (by omega) (by
  rintro k _ hk ⟨rfl,h2⟩;obtain⟨x,hx,hm⟩:=Zh (l:=held) (k:=k) hk;have hb:=Xr (i:=(k:Int)) (n:=held.length) (by omega) (by omega);have hq:=hh x hm;rw[ZCI _ hx] at h2;unfold YG;dsimp only;rw[yW (ZD hk),yW hb,yaj,hx,ya];by_cases c:x.1=hint
  ·rw[yW (yY c),yW hb,ya,Zy0 (by omega),ya];by_cases c2:Sha.sha x.2=sum
   ·right;rw[yW (yY c2),yW hb,ya,ZpM hn hq,ya];exact⟨_,rfl,.inl ⟨x,rfl,by rw[h2,yW (show ZpN hint sum x=true from yY ⟨c,c2⟩)]⟩⟩
   ·left;rw[yX (by rw[yN];exact c2),Zj (by omega)];exact⟨_,rfl,rfl,by rw[h2,ZzA c2];rfl⟩
  ·left;rw[yX (by rw[yN];exact c),Zj (by omega)];exact⟨_,rfl,rfl,by rw[h2,Zzz c];rfl⟩) (by
  rintro _ ⟨rfl,h2⟩;unfold YG;dsimp only;rw[yX (by rw[Zx];decide)];exact⟨_,rfl,.inr ⟨_,rfl,by rw[h2,ycm];rfl⟩⟩)
 unfold z32 at h1;rw[h1,ya];unfold pvF z32
 all_goals grind
theorem ZEb{price room:Int}{u:Unit}{v:yL Unit}{held:yL Ze}{nonce hint sum:yL yB}(hn:nonce.length=32):
 Vs yD nonce hint sum price room u v held=some (Sha.sha (Zj6 ZCp [nonce]),true,price,room,u,v,held):=by
 unfold Vs ZcS;rw[ZnA (by decide) (by simp) (ZpL (by omega)),ya,ya]
theorem ZBb{price room:Int}{v:yL Unit}{held:yL Ze}{nonce hint sum:yL yB}(hn:nonce.length=32):
 Yi yD nonce hint sum price room true v held=some (Sha.sha (Zj6 ZCp [nonce]),true,price,room,true,v,held):=by
 unfold Yi;rw[yW rfl,Ze0 (by simp) hn,ya,yy,Zj7 (by decide) (by simp) (ZpL (by omega)),ya]
noncomputable def opT(id:yL yB)(q:Ze):yO Tx:=if(ZpJ (kyF id) q.2).2=true then(if(trF (ZpJ (kyF id) q.2).1).2=true then some (trF (ZpJ (kyF id) q.2).1).1 else none) else none
noncomputable def lkH(held:yL Ze)(id:yL yB):yL Tx:=(held.filter λq=>decide (q.1=htF id)).filterMap (opT id)
noncomputable def lk1(held:yL Ze)(x:Tx):yL Tx:=if Qd yD x=some true then lkH held ((Ztb yD x).getD []) else[]
noncomputable def lkF(held:yL Ze)(txs:yL Tx):yL Tx:=txs.flatMap (lk1 held)
theorem ZKt{id:yL yB}{q:Ze}{t:Tx}(h:opT id q=some t):TxR t:=by
 unfold opT at h;split at h
 ·split at h
  ·rename_i c;unfold trF at c h;split at c
   all_goals grind
  ·cases h
 ·cases h
theorem ZKu{held:yL Ze}{id:yL yB}{t:Tx}(h:t∈lkH held id):TxR t:=by
 obtain⟨q,_,h2⟩:=List.mem_filterMap.1 h;exact ZKt h2
theorem ZKv{held:yL Ze}{txs:yL Tx}{t:Tx}(h:t∈lkF held txs):TxR t:=by
 obtain⟨x,_,h2⟩:=List.mem_flatMap.1 h;unfold lk1 at h2;split at h2
 ·exact ZKu h2
 ·cases h2
theorem ZLw{α β:Type}{l:yL α}{k:Nat}{e:α}(f:α->yO β)(h:l[k]? =some e):(l.take (k+1)).filterMap f=(l.take k).filterMap f++(f e).toList:=by
 rw[YW h,List.filterMap_append,List.filterMap_cons,List.filterMap_nil];grind
theorem ZCJ(held:yL Ze)(id:yL yB):(lkH held id).length<=held.length:=
 ybj (List.length_filterMap_le _ _) (List.length_filter_le _ _)
theorem ZzB{txs:yL Tx}{n i price room:Int}{u u2:Unit}{v:yL Unit}{held L:yL Ze}{m:yL (yL yB×yL Ze)}{out:yL Tx}{tx:Tx}{id:yL yB}(hid:id.length=32)(hL:∀p,p∈L->p.2.length<=50000)(zB:out.length+L.length<=1000000):
 Zf (Yo yD) yD (txs,n,i,L,(L.length:Int),(0:Int),price,room,u,v,held,u2,m,out,tx,id)=some (txs,n,i,price,room,u,v,held,u2,m,out++L.filterMap (opT id),tx,id):=by
 rw[show out=out++(L.take 0).filterMap (opT id) by rw[List.take_zero,List.filterMap_nil,yas]];rw[show(out++(L.take 0).filterMap (opT id))++L.filterMap (opT id)=out++L.filterMap (opT id) by rw[List.take_zero,List.filterMap_nil,yas]];refine ZC (step:=Yo yD) L.length (λk:Nat=>(txs,n,i,L,(L.length:Int),(k:Int),price,room,u,v,held,u2,m,out++(L.take k).filterMap (opT id),tx,id)) ?_ ?_ (by omega)
 ·intro k hk;obtain⟨e,he,hm⟩:=Zh hk;have h5:=hL e hm;have ho:=Zzr (kyF id) e.2;have hk:=ZCC id;have hfl:((L.take k).filterMap (opT id)).length<=L.length:=ybj (List.length_filterMap_le _ _) (by rw[yv];omega);unfold Yo;dsimp only;rw[yW (ZD (by omega)),Zs he,ya,ZGZ hid,ya,ZIw (by omega) h5,ya,Zj (by omega),ZLw _ he];unfold opT
  cases c:(ZpJ (kyF id) e.2).2 with
  |false=>rw[yW (by rfl),yX (by decide),Option.toList_none,yas]
  |true=>
   rw[yX (by decide),yW rfl,ZGR (by omega),ya]
   cases c2:(trF (ZpJ (kyF id) e.2).1).2 with
   |false=>rw[yX (by decide),yX (by decide),Option.toList_none,yas]
   |true=>rw[yW rfl,yW rfl,yW (ZF (by rw[yj];unfold opT at hfl;omega) (by rw[yj];unfold opT at hfl;omega)),Option.toList_some,yx]
 ·unfold Yo;grind
theorem ZEc{l:yL Ze}{k:Nat}{e:Ze}(f:Ze->Bool)(h:l[k]? =some e):(l.take (k+1)).filter f=(l.take k).filter f++if f e=true then[e] else[]:=by
 rw[YW h,List.filter_append];grind
theorem ZEd{txs:yL Tx}{i price room:Int}{lies:Bool}{v:yL Unit}{held:yL Ze}{out:yL Tx}{id:yL yB}(hid:id.length=32)(hL:∀p,p∈held->p.2.length<=50000)(zB:out.length+held.length<=1000000):
 Zf (ZK yD) yD (txs,i,true,(0:Int),price,room,lies,v,held,out,id)=some (txs,i,price,room,lies,v,held,out++lkH held id,id):=by
 have h0:out=out++lkH (held.take 0) id:=(yas out).symm;rw[h0];rw[show(out++lkH (held.take 0) id)++lkH held id=out++lkH held id by rw[<-h0]];refine ZC (step:=ZK yD) held.length (λk:Nat=>(txs,i,true,(k:Int),price,room,lies,v,held,out++lkH (held.take k) id,id)) ?_ ?_ (by omega)
 ·intro k hk;obtain⟨e,he,hm⟩:=Zh hk;have h5:=hL e hm;have ho:=Zzr (kyF id) e.2;have hkl:=ZCC id;have hb:=Xr (i:=(k:Int)) (n:=held.length) (by omega) (by omega);have hfl:(lkH (held.take k) id).length<=held.length:=ybj (ZCJ _ _) (by rw[yv];omega)
  have hs:lkH (held.take (k+1)) id=lkH (held.take k) id++(if e.1=htF id then(opT id e).toList else[]):=by
   unfold lkH;rw[ZEc _ he,List.filterMap_append];congr 1;by_cases c:e.1=htF id
   ·rw[yW (yY c),yW c,List.filterMap_cons,List.filterMap_nil];cases opT id e <;> rfl
   ·rw[yX (by rw[yN];exact c),yX c,List.filterMap_nil]
  unfold ZK;dsimp only;rw[yW (ZD hk),yW rfl,yW hb,yaj,he,ya,Zzv hid,ya,Zj (by omega),hs];by_cases c:e.1=htF id
  ·rw[yY c,yX (by decide),ZCE hid,ya,yW hb,ya,ZD3 (by omega) h5,ya,yW c];unfold opT
   cases c:(ZpJ (kyF id) e.2).2 with
   |false=>rw[yW (by rfl),yX (by decide),Option.toList_none,yas]
   |true=>
    rw[yX (by decide),yW rfl,ZD8 (by omega),ya]
    cases c2:(trF (ZpJ (kyF id) e.2).1).2 with
    |false=>rw[yX (by decide),yX (by decide),Option.toList_none,yas]
    |true=>rw[yW rfl,yW rfl,yW (ZF (by rw[yj];omega) (by rw[yj];omega)),Option.toList_some,yx]
  ·rw[yZ c,yW (by decide),yX c,yas]
 ·unfold ZK;dsimp only;rw[yX (by rw[Zx];decide),yag]
theorem ZEe{txs:yL Tx}{i price room:Int}{lies:Bool}{v:yL Unit}{held:yL Ze}{out:yL Tx}{id:yL yB}:
 Zf (ZK yD) yD (txs,i,false,(0:Int),price,room,lies,v,held,out,id)=some (txs,i,price,room,lies,v,held,out,id):=by
 refine ZC (step:=ZK yD) 0 (λk:Nat=>(txs,i,false,(k:Int),price,room,lies,v,held,out,id)) (λk hk=>by omega) ?_ (by omega);unfold ZK;grind
theorem ZBc{K V:Type}[i:DecidableEq K](j:DecidableEq K)(kf:V->K)(l:yL V)(k:K):(@Zek K (yL V) i (@ZjD K V j kf l) k).getD []=l.filter λp=>decide (kf p=k):=by
 have:j=i:=Subsingleton.elim _ _;subst this
 have key:∀n,n<=l.length->(Zek (ZjD kf (l.take n)) k).getD []=(l.take n).filter λp=>decide (kf p=k):=by
  intro n
  induction n with
  |zero=>intro _;rw[List.take_zero];rfl
  |succ n ih=>
   intro hn;obtain⟨e,he,_⟩:=Zh (l:=l) (k:=n) (by omega);rw[YW he,Zvc,List.filter_append, <-ih (by omega)];unfold ZIf;rw[ZpF];by_cases c:kf e=k
   ·subst c;rw[yW rfl,Option.getD_some,List.filter_cons,yW (yY rfl)];rfl
   ·rw[yX λq=>c q.symm,List.filter_cons,yX (by rw[yN];exact c),List.filter_nil,yas]
 have:=key l.length (yl _);grind
theorem Zxm{txs:yL Tx}{k:Nat}{e:Tx}(f:Tx->yL Tx)(h:txs[k]? =some e):(txs.take (k+1)).flatMap f=(txs.take k).flatMap f++f e:=by
 rw[YW h,List.flatMap_append];grind
theorem Zxn{held:yL Ze}{txs:yL Tx}(k:Nat):((txs.take k).flatMap (lk1 held)).length<=k*held.length:=by
 induction k with
 |zero=>rw[List.take_zero];simp
 |succ k ih=>
  have h1:∀x,(lk1 held x).length<=held.length:=λx=>by
   unfold lk1;split
   ·exact ZCJ _ _
   ·simp
  by_cases hk:k < txs.length
  ·obtain⟨e,he,_⟩:=Zh hk;rw[Zxm _ he,yj,Nat.succ_mul];have:=h1 e;omega
  ·rw[ybr (by omega)];rw[ybr (by omega)] at ih;rw[Nat.succ_mul];omega
theorem ZIy{txs:yL Tx}{price room:Int}{u:Unit}{v:yL Unit}{held:yL Ze}(ht:∀t,t∈txs->TxAny t)(hn:txs.length<=10)(hl:held.length<=1000)(hh:∀p,p∈held->p.2.length<=50000):
 VR yD txs price room u v held=some (lkF held txs,price,room,u,v,held):=by
 unfold VR QT
 have h0:Ww (txs,(held.length:Int),(0:Int),price,room,u,v,held,u,([]:yL ((yL yB)×(yL Ze))))=some (txs,price,room,u,v,held,u,(@ZjD (yL yB) Ze (Ty.deq (.arr 16 .u8)) (λp:Ze=>p.1) held)):=by
  unfold Ww ZFZ
  have hb:lenB held.length 40=true:=by
   unfold lenB;rw[yi];exact⟨yY (by unfold bytesBound;omega),yY (by unfold maxLen;omega)⟩
  dsimp only;rw[hb,yY rfl,yY rfl];rfl
 rw[h0,ya];dsimp only;generalize hm:(@ZjD (yL yB) Ze (Ty.deq (.arr 16 .u8)) (λp:Ze=>p.1) held)=m
 have e:=ZC (step:=Xx yD) txs.length (λk:Nat=>(txs,(txs.length:Int),(k:Int),price,room,u,v,held,u,m,(txs.take k).flatMap (lk1 held))) (x:=(price,room,u,v,held,u,m,lkF held txs)) (by
  intro k hk;obtain⟨x,hx,hm2⟩:=Zh hk;obtain⟨b,b1,_,_⟩:=ZlT (ht x hm2).locks;obtain⟨id,i1,_,i3⟩:=Zzu (ht x hm2).locks (ht x hm2).wf;have hkl:=Zxn (held:=held) (txs:=txs) k;have hkl2:k*held.length<=10*held.length:=ybp _ (by omega);unfold Xx;dsimp only;rw[yW (ZD hk),Zs hx,ya,b1,ya,Zj (by omega),Zxm _ hx]
  have hlk:lk1 held x=if b=true then lkH held id else[]:=by
   unfold lk1;grind
  rw[hlk]
  cases b with
  |false=>rw[yW (by decide),yX (by decide),yas]
  |true=>
   rw[yX (by decide),yW rfl,i1,ya,ZCD i3,ya]
   have hg:(Zek m (htF id)).getD []=held.filter λq=>decide (q.1=htF id):=by
    rw[<-hm];exact ZBc (K:=yL yB) (V:=Ze) (Ty.deq (.arr 16 .u8)) (λp:Ze=>p.1) held (htF id)
   unfold lkH;rw[<-hg];have hfl:(held.filter λp=>decide (p.1=htF id)).length<=held.length:=List.length_filter_le _ _;rw[<-hg] at hfl
   have hmem:∀p,p∈(Zek m (htF id)).getD []->p.2.length<=50000:=λp hp=>by
    grind
   generalize hq:Zek m (htF id)=q at hfl hmem
   cases q with
   |none=>
    show(Zk0 none _ _)=_;unfold Zk0;have:=ZzB (txs:=txs) (n:=(txs.length:Int)) (i:=(k:Int)) (price:=price) (room:=room) (u:=u) (u2:=u) (v:=v) (held:=held) (L:=[]) (m:=m) (out:=(txs.take k).flatMap (lk1 held)) (tx:=x) (id:=id) i3 (λp hp=>by cases hp) (by simp only[yck];omega);refine(congrArg (Option.bind · _) this).trans ?_;rw[ya,Zj (by omega)]
    rfl
   |some L=>
    show(Zk0 (some L) _ _)=_;unfold Zk0;dsimp only[Option.getD_some] at hfl hmem ⊢;rw[ZzB i3 hmem (by omega),ya,Zj (by omega)]) (by
  unfold Xx;dsimp only;rw[yX (by rw[Zx];decide),yag];rfl) (by omega)
 grind
theorem ZG3{txs:yL Tx}{price room:Int}{u:Unit}{v:yL Unit}{held:yL Ze}:ZaM yD txs price room u v held=some ([],price,room,u,v,held):=rfl
theorem ZG4{txs:yL Tx}{price room:Int}{v:yL Unit}{held:yL Ze}(ht:∀t,t∈txs->TxAny t)(hn:txs.length<=10)(hl:held.length<=1000)(hh:∀p,p∈held->p.2.length<=50000):
 Yn yD txs price room false v held=some (lkF held txs,price,room,false,v,held):=by
 unfold Yn
 have e:=ZC (step:=Z2 yD) txs.length (λk:Nat=>(txs,(k:Int),price,room,false,v,held,(txs.take k).flatMap (lk1 held))) (x:=(price,room,false,v,held,lkF held txs)) (by
  intro k hk;obtain⟨x,hx,hm2⟩:=Zh hk;obtain⟨b,b1,b2,_⟩:=ZlT (ht x hm2).locks;obtain⟨id,i1,i2,i3⟩:=Zzu (ht x hm2).locks (ht x hm2).wf;have hkl:=Zxn (held:=held) (txs:=txs) k;have hkl2:k*held.length<=10*held.length:=ybp _ (by omega);unfold Z2;dsimp only;rw[yW (ZD hk),yW (by decide),Zs hx,ya,b2,ya,ya,i2,ya,Zxm _ hx]
  have hlk:lk1 held x=if b=true then lkH held id else[]:=by
   unfold lk1;grind
  rw[hlk]
  cases b with
  |false=>rw[ZEe,ya,Zj (by omega),yX (by decide),yas]
  |true=>rw[ZEd i3 hh (by omega),ya,Zj (by omega),yW rfl]) (by
  unfold Z2;dsimp only;rw[yX (by rw[Zx];decide),yag];rfl) (by omega)
 grind
theorem ZEf{txs:yL Tx}{price room:Int}{v:yL Unit}{held:yL Ze}:Yn yD txs price room true v held=some ([],price,room,true,v,held):=by
 unfold Yn
 have e:=ZC (step:=Z2 yD) 0 (λk:Nat=>(txs,(k:Int),price,room,true,v,held,([]:yL Tx))) (x:=(price,room,true,v,held,([]:yL Tx))) (λk hk=>by omega) (by
  unfold Z2;dsimp only;rw[yX (c:=(!true)=true) (by decide),ite_self]) (by omega)
 grind
theorem ZvC{l:yL Tx}(hl:l.length<=1000000)(h:∀t,t∈l->TxR t):Wm yD l l=some true:=by
 unfold Wm;rw[yX (by simp)]
 have e:=ZC (step:=Xu yD) l.length (λk:Nat=>(l,l,(k:Int))) (x:=.inr ()) (by
  intro k hk;obtain⟨x,hx,hm⟩:=Zh hk;obtain⟨_,⟨g1,g2,g3,g4,g5,g6⟩,_⟩:=h x hm;unfold Xu;dsimp only
  rw[yW (ZD hk),Zs hx,ya,ya,ZBa (by omega) (by omega) (λy hy=>by have:=(g5 y hy).2.2.2.2;omega) (λo ho=>by
   obtain⟨_,_,⟨k1,k2,k3⟩,_⟩:=g6 o ho;exact⟨by omega,λb hb=>by have:=(k3 b hb).1;omega⟩),ya,yX (by decide),Zj (by omega)]) (by
  unfold Xu;dsimp only;rw[yX (by rw[Zx];decide)]) (by omega)
 grind
theorem ZG5{price room paid:Int}{held:yL Ze}{p:Ze}(hh:∀q,q∈held->q.2.length<=8192):(hdL price room held p paid).length<=held.length+1/\∀q,q∈hdL price room held p paid->q.2.length<=8192:=by
 unfold hdL;by_cases c:hdE price room held p paid=0
 ·rw[yW c];refine⟨by rw[yj];exact yl _,λq hq=> ?_⟩;rcases ycp.1 hq with hq|hq
  ·exact hh q hq
  ·rw[ybc.1 hq];unfold hdE at c;split at c
   ·cases c
   ·omega
 ·rw[yX c];exact⟨Nat.le_succ _,hh⟩
theorem ZKw{l:yL Corsnedlaw42Act}{head:Bool}{k:Nat}{id:yL yB}{price room:Int}{u:Unit}{v v':yL Unit}{held:yL Ze}{a:Corsnedlaw42Act}(hx:l[k]? =some a)(hk:k < l.length)(hkl:l.length<=30)(hl:held.length<=k)(hh:∀q,q∈held->q.2.length<=8192)
 (hp:a.2.1.2.length<=9000) (hn:a.2.2.2.2.2.1.length=32) (ht:∀t,t∈a.2.2.2.2.1->TxAny t) (htn:a.2.2.2.2.1.length<=5):
 ∃hon v2 held2 v3,ZL yD (l,head,(k:Int),id,price,room,true,u,price,room,false,v,held,v',held)=some (.inl (l,head,((k+1:Nat):Int),id,price,room,hon,u,price,room, !hon,v2,held2,v3,held2))/\held2.length<=k+1/\∀q,q∈held2->q.2.length<=8192:=by
 have hh2:∀q,q∈held->q.2.length<=50000:=λq hq=>by have:=hh q hq;omega
 have hh3:∀q,q∈held->q.2.length<=60000:=λq hq=>by have:=hh q hq;omega
 have hh4:∀q,q∈held->q.2.length<=1000000:=λq hq=>by have:=hh q hq;omega
 have zB:(lkF held a.2.2.2.2.1).length<=1000000:=by
  have h1:=Zxn (held:=held) (txs:=a.2.2.2.2.1) a.2.2.2.2.1.length;rw[yag] at h1;have h2:a.2.2.2.2.1.length*held.length<=5*held.length:=ybp _ htn;unfold lkF;omega
 unfold ZL;dsimp only;rw[yW (c:=yar (bif true then 96 else 105) 96=true) rfl,yW (ZD hk),Zs hx,ya,Zty hn (by omega),ya,ZpM hn (by omega),ya,Zj (by omega)];generalize bits .and .i64 a.1 7=d;simp only[decide_true,if_true,ycn,yaw,if_false];by_cases c3:(d==3)=true
 ·rw[yW c3]
  cases hb:loB held a.2.2.2.1 with
  |false=>
   rw[ZCG hb,ya];dsimp only;rw[Zzy hb,ya];simp only[Zw,Zl,Zm,ZB,ya,beq_self_eq_true,ycn,bne_self_eq_false,yaw,if_false]
   exact⟨true,_,_,_,rfl,by omega,hh⟩
  |true=>
   obtain⟨w1,e1⟩:=Zzx (price:=price) (room:=room) (u:=u) (v:=v) (by omega) hb;obtain⟨w2,e2⟩:=ZvB (price:=price) (room:=room) (u:=false) (v:=v') (by omega) hb;rw[e1,ya];dsimp only;rw[e2,ya];simp only[Zw,Zl,Zm,ZB,ya,beq_self_eq_true,ycn,bne_self_eq_false,yaw,if_false];refine⟨true,_,loL held a.2.2.2.1,_,rfl, ?_,λq hq=>hh q (List.mem_of_mem_eraseIdx hq)⟩;have:=List.length_eraseIdx_le held a.2.2.2.1.toNat
   unfold loL;omega
 rw[yX c3];by_cases c4:(d==4)=true
 ·rw[yW c4];simp only[WR,yaw,if_false,if_true,ya]
  try simp only[Zw,Zl,Zm,ZB,ya,beq_self_eq_true,ycn,bne_self_eq_false,yaw,if_false]
  exact⟨false,_,_,_,rfl,by omega,hh⟩
 rw[yX c4];by_cases c5:(d==5)=true
 ·rw[yW c5];simp only[WR,yaw,if_false,if_true,ya]
  try simp only[Zw,Zl,Zm,ZB,ya,beq_self_eq_true,ycn,bne_self_eq_false,yaw,if_false]
  exact⟨true,_,_,_,rfl,by omega,hh⟩
 rw[yX c5];by_cases c6:(d==6)=true
 ·rw[yW c6,ZIy ht (by omega) (by omega) hh2,ya,ZG4 ht (by omega) (by omega) hh2,ya,ZvC zB λt ht=>ZKv ht,ya];simp only[Zw,Zl,Zm,ZB,ya,beq_self_eq_true,ycn,bne_self_eq_false,yaw,if_false];exact⟨true,_,_,_,rfl,by omega,hh⟩
 rw[yX c6];by_cases c7:(d==7)=true
 ·rw[yW c7,ZG2 (by omega) hh3 hn,ya,ZEa (by omega) hh3 hn,ya];simp only[decide_true,if_true];simp only[Zw,Zl,Zm,ZB,ya,beq_self_eq_true,ycn,bne_self_eq_false,yaw,if_false];exact⟨true,_,_,_,rfl,by omega,hh⟩
 rw[yX c7];obtain⟨w1,e1⟩:=ZCF (price:=price) (room:=room) (u:=u) (v:=v) (held:=held) (p:=a.2.1) (paid:=a.2.2.1) (by omega);obtain⟨w2,e2⟩:=Zzw (price:=price) (room:=room) (u:=false) (v:=v') (held:=held) (p:=a.2.1) (paid:=a.2.2.1) (by omega) hh4;rw[e1,ya,e2,ya];simp only[Zw,Zl,Zm,ZB,ya,beq_self_eq_true,ycn,bne_self_eq_false,yaw,if_false];obtain⟨g1,g2⟩:=ZG5 (price:=price) (room:=room) (held:=held) (p:=a.2.1) (paid:=a.2.2.1) hh;exact⟨true,_,_,_,rfl,by omega,g2⟩
theorem ZKx{l:yL Corsnedlaw42Act}{head:Bool}{k:Nat}{id:yL yB}{price room:Int}{u:Unit}{v v':yL Unit}{held:yL Ze}{a:Corsnedlaw42Act}(hx:l[k]? =some a)(hk:k < l.length)(hkl:l.length<=30)(hl:held.length<=k)(hh:∀q,q∈held->q.2.length<=8192)
 (hp:a.2.1.2.length<=9000) (hn:a.2.2.2.2.2.1.length=32) (ht:∀t,t∈a.2.2.2.2.1->TxAny t) (htn:a.2.2.2.2.1.length<=5):
 ∃hon v2 held2 v3,ZL yD (l,head,(k:Int),id,price,room,false,u,price,room,true,v,held,v',held)=some (.inl (l,head,((k+1:Nat):Int),id,price,room,hon,u,price,room, !hon,v2,held2,v3,held2))/\held2.length<=k+1/\∀q,q∈held2->q.2.length<=8192:=by
 have hh2:∀q,q∈held->q.2.length<=50000:=λq hq=>by have:=hh q hq;omega
 have hh3:∀q,q∈held->q.2.length<=60000:=λq hq=>by have:=hh q hq;omega
 have hh4:∀q,q∈held->q.2.length<=1000000:=λq hq=>by have:=hh q hq;omega
 have zB:(lkF held a.2.2.2.2.1).length<=1000000:=by
  have h1:=Zxn (held:=held) (txs:=a.2.2.2.2.1) a.2.2.2.2.1.length;rw[yag] at h1;have h2:a.2.2.2.2.1.length*held.length<=5*held.length:=ybp _ htn;unfold lkF;omega
 unfold ZL;dsimp only;rw[yX (c:=yar (bif false then 96 else 105) 96=true) (by decide),yW (c:=yar (bif false then 96 else 105) 105=true) rfl,yW (ZD hk),Zs hx,ya,Zty hn (by omega),ya,ZpM hn (by omega),ya,Zj (by omega)];generalize bits .and .i64 a.1 7=d;simp only[decide_true,if_true,ycn,yaw,if_false];by_cases c3:(d==3)=true
 ·rw[yW c3]
  cases hb:loB held a.2.2.2.1 with
  |false=>
   rw[ZCH];rw[ZCG hb,ya];dsimp only;rw[Zzy hb,ya];simp only[Zw,Zl,Zm,ZB,ya,beq_self_eq_true,ycn,bne_self_eq_false,yaw,if_false]
   exact⟨false,_,_,_,rfl,by omega,hh⟩
  |true=>
   obtain⟨w1,e1⟩:=Zzx (price:=price) (room:=room) (u:=u) (v:=v) (by omega) hb;obtain⟨w2,e2⟩:=ZvB (price:=price) (room:=room) (u:=true) (v:=v') (by omega) hb;rw[ZCH];rw[e1,ya];dsimp only;rw[e2,ya];simp only[Zw,Zl,Zm,ZB,ya,beq_self_eq_true,ycn,bne_self_eq_false,yaw,if_false];refine⟨false,_,loL held a.2.2.2.1,_,rfl, ?_,λq hq=>hh q (List.mem_of_mem_eraseIdx hq)⟩;have:=List.length_eraseIdx_le held a.2.2.2.1.toNat
   unfold loL;omega
 rw[yX c3];by_cases c4:(d==4)=true
 ·rw[yW c4];simp only[WS,yaw,if_false,if_true,ya]
  try simp only[Zw,Zl,Zm,ZB,ya,beq_self_eq_true,ycn,bne_self_eq_false,yaw,if_false]
  exact⟨false,_,_,_,rfl,by omega,hh⟩
 rw[yX c4];by_cases c5:(d==5)=true
 ·rw[yW c5];simp only[WS,yaw,if_false,if_true,ya]
  try simp only[Zw,Zl,Zm,ZB,ya,beq_self_eq_true,ycn,bne_self_eq_false,yaw,if_false]
  exact⟨true,_,_,_,rfl,by omega,hh⟩
 rw[yX c5];by_cases c6:(d==6)=true
 ·rw[yW c6,ZG3,ya,ZEf,ya,ZvC (by simp) (λt ht=>by cases ht),ya];simp only[Zw,Zl,Zm,ZB,ya,beq_self_eq_true,ycn,bne_self_eq_false,yaw,if_false];exact⟨false,_,_,_,rfl,by omega,hh⟩
 rw[yX c6];by_cases c7:(d==7)=true
 ·rw[yW c7,ZEb hn,ya,ZBb hn,ya];simp only[decide_true,if_true];simp only[Zw,Zl,Zm,ZB,ya,beq_self_eq_true,ycn,bne_self_eq_false,yaw,if_false];exact⟨false,_,_,_,rfl,by omega,hh⟩
 rw[yX c7];obtain⟨w1,e1⟩:=ZCF (price:=price) (room:=room) (u:=u) (v:=v) (held:=held) (p:=a.2.1) (paid:=a.2.2.1) (by omega);obtain⟨w2,e2⟩:=Zzw (price:=price) (room:=room) (u:=true) (v:=v') (held:=held) (p:=a.2.1) (paid:=a.2.2.1) (by omega) hh4;rw[ZIx];rw[e1,ya,e2,ya];simp only[Zw,Zl,Zm,ZB,ya,beq_self_eq_true,ycn,bne_self_eq_false,yaw,if_false];obtain⟨g1,g2⟩:=ZG5 (price:=price) (room:=room) (held:=held) (p:=a.2.1) (paid:=a.2.2.1) hh;exact⟨false,_,_,_,rfl,by omega,g2⟩
structure ActWf(a:Corsnedlaw42Act):Prop where
 nonce:a.2.2.2.2.2.1.length=32
 txs:∀t,t∈a.2.2.2.2.1->TxAny t
def ZCK(a:Corsnedlaw42Act):Prop:=a.2.1.2.length<=9000/\a.2.2.2.2.1.length<=5
theorem ZKy{l:yL Corsnedlaw42Act}(h:l.length<=9223372036854775807):∃b,Q0 yD l=some b/\(b=true->l.length<=30/\∀e,e∈l->ZCK e):=by
 unfold Q0
 obtain⟨x,h1,h2⟩:=Z9 (step:=WA yD) l.length (λk s=>s=(l,(k:Int))/\∀j e,j < k->l[j]? =some e->ZCK e) (λx=>x=.inl false\/(x=.inr l/\∀e,e∈l->ZCK e)) (i:=(l,(0:Int))) ⟨rfl,λj e hj=>by omega⟩ (by omega) (by
  rintro k _ hk ⟨rfl,h2⟩;obtain⟨x,hx,_⟩:=Zh hk;unfold WA;dsimp only;rw[yW (ZD hk),Zs hx,ya];by_cases c:(x.2.1.2.length:Int) > 9000
  ·right;rw[yW (yY c)];exact⟨_,rfl,.inl rfl⟩
  rw[yX (by rw[yN];exact c),ya];by_cases c2:(x.2.2.2.2.1.length:Int) > 5
  ·right;rw[yW (yY c2)];exact⟨_,rfl,.inl rfl⟩
  ·left;rw[yX (by rw[yN];exact c2),Zj (by omega)];refine⟨_,rfl,rfl,λj e hj he=> ?_⟩;by_cases hjk:j < k
   ·exact h2 j e hjk he
   ·have:j=k:=by omega
    subst this;rw[hx] at he;cases he;exact⟨by omega,by omega⟩) (by
  rintro _ ⟨rfl,h2⟩;unfold WA;dsimp only;rw[yX (by rw[Zx];decide)];refine⟨_,rfl,.inr ⟨rfl,λe he=> ?_⟩⟩;obtain⟨j,h1,h3⟩:=ycl he;exact h2 j e h1 (by rw[yad h1,h3]))
 rw[h1,ya];rcases h2 with rfl|⟨rfl,h2⟩
 ·exact⟨_,rfl,λh=>by cases h⟩
 ·refine⟨_,rfl,λh=>⟨?_,h2⟩⟩;have:=yF h;omega
theorem ZG6{l:yL Corsnedlaw42Act}{head:Bool}{id:yL yB}{price room:Int}{u:Unit}(hkl:l.length<=30)(hw:∀a,a∈l->ActWf a/\ZCK a):
 ∃x,Zf (ZL yD) yD (l,head,(0:Int),id,price,room,true,u,price,room,false,([]:yL Unit),([]:yL Ze),([]:yL Unit),([]:yL Ze))=some x/\∃y,x=.inr (head,y):=by
 refine Z9 (step:=ZL yD) l.length (λk s=>∃hon v held v',s=(l,head,(k:Int),id,price,room,hon,u,price,room, !hon,v,held,v',held)/\held.length<=k/\∀q,q∈held->q.2.length<=8192) _
  ⟨true,[],[],[],rfl,yl _,λq hq=>by cases hq⟩ (by omega) ?_ ?_
 ·rintro k _ hk ⟨hon,v,held,v',rfl,h1,h2⟩;left;obtain⟨a,hx,hm⟩:=Zh hk;obtain⟨⟨w1,w2⟩,w3,w4⟩:=hw a hm
  cases hon with
  |true=>
   obtain⟨hon,v2,held2,v3,e,g⟩:=ZKw (head:=head) (id:=id) (price:=price) (room:=room) (u:=u) (v:=v) (v':=v') hx hk hkl h1 h2 w3 w1 w2 w4
   exact⟨_,e,hon,v2,held2,v3,rfl,g⟩
  |false=>
   obtain⟨hon,v2,held2,v3,e,g⟩:=ZKx (head:=head) (id:=id) (price:=price) (room:=room) (u:=u) (v:=v) (v':=v') hx hk hkl h1 h2 w3 w1 w2 w4;exact⟨_,e,hon,v2,held2,v3,rfl,g⟩
 ·rintro _ ⟨hon,v,held,v',rfl,h1,h2⟩;unfold ZL;dsimp only
  cases hon with
  |true=>
   rw[yW (c:=yar (bif true then 96 else 105) 96=true) rfl,yX (by rw[Zx];decide)]
   exact⟨_,rfl,_,rfl⟩
  |false=>
   rw[yX (c:=yar (bif false then 96 else 105) 96=true) (by decide),yW (c:=yar (bif false then 96 else 105) 105=true) rfl,yX (by rw[Zx];decide)];exact⟨_,rfl,_,rfl⟩
theorem ZKz(price room:Int):(Zgv yD price room=some (.inl ())/\WH yD price room=some (.inl ()))\/(Zgv yD price room=some (.inr (price,room,()))/\WH yD price room=some (.inr (price,room,false))):=by
 unfold Zgv WH;split
 ·exact .inl ⟨rfl,rfl⟩
 split
 ·exact .inl ⟨rfl,rfl⟩
 split
 ·exact .inl ⟨rfl,rfl⟩
 ·exact .inr ⟨rfl,rfl⟩
theorem ZEg{price room:Int}{l:yL Corsnedlaw42Act}{id:yL yB}(hl:l.length<=9223372036854775807)(hw:∀a,a∈l->ActWf a)(hid:id.length=32):Xy yD price room l id=some true:=by
 obtain⟨b,b1,b2⟩:=ZKy hl;unfold Xy;rw[ya,b1,ya];rcases ZKz price room with⟨n1,n2⟩|⟨n1,n2⟩
 ·rw[n1,ya];dsimp only;rw[n2,ya];cases b <;> rfl
 rw[n1,ya];dsimp only;rw[n2,ya]
 cases b with
 |false=>rfl
 |true=>
  obtain⟨c1,c2⟩:=b2 rfl;dsimp only;rw[yX (by decide),ZCD hid,ya,Zzv hid,ya,yX (by simp),ZGZ hid,ya,ZCE hid,ya,yX (by simp)];obtain⟨x,h1,y,rfl⟩:=ZG6 (head:=true) (id:=id) (price:=price) (room:=room) (u:=()) c1 λa ha=>⟨hw a ha,c2 a ha⟩;rw[h1,ya]
end Go.Proofs.YtghfiijgklnflaaGreat
end
