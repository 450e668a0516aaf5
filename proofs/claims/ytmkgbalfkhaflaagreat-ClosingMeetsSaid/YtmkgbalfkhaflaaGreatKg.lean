/- Parts of the proof, in one file. -/
import Derived.Test.YtmkgbalfkhaflaaGreatKf
open Go.Proofs.Tryz renaming prog → yc
open Int renaming toNat_natCast → ybf
open List renaming length_append → yp, getElem?_eq_some_iff → yr, nil_append → yx, getElem?_eq_getElem → yac, length_cons → yae, map_cons → yag, length_take → yai, append_assoc → yaj, mem_singleton → yan, getElem?_cons_succ → yaq, getElem?_cons_zero → yar, getElem?_append_right → yas, mem_cons_self → yau, map_append → yav, mem_cons_of_mem → yay, append_nil → ybi, take_length → ybk, mem_cons → ybt, mem_of_mem_take → ybv, mem_append → yci, getElem?_set_self → ycr, not_mem_nil → yct
open Nat renaming mod_eq_of_lt → yah, mul_comm → ybj, mul_le_mul_right → yby, two_pow_add_eq_or_of_lt → ycx
open Option renaming bind_some → ya, bind → ybc
open UInt64 renaming ofNat → yad, toNat_ofNat' → yba, toNat_inj → ycf
open UInt8 renaming ofNat → yat
set_option linter.unusedVariables false
set_option linter.unusedSimpArgs false
section
set_option maxRecDepth 4000
namespace Go.Proofs.YtmkgbalfkhaflaaGreat
open Go Go.Ev
theorem ZvQ{ls:List (List UInt8)}(h:ls.flatten.length≤1000000000)(hn:ls.length≤1000):YT fuel ls=some ls.flatten:=by
 unfold YT
 rw[show(ls,(0:Int),ls,(ls.length:Int),(0:Int))=(λk:Nat=>(ls,((ls.take k).flatten.length:Int),ls,(ls.length:Int),(k:Int))) 0 from rfl,
  ZN (x:=(ls,(ls.flatten.length:Int))) ls.length (λk:Nat=>(ls,((ls.take k).flatten.length:Int),ls,(ls.length:Int),(k:Int))) ?_ ?_ (by omega),ya]
 ·have hg:Ztd (ls.flatten.length:Int)=some []:=by
   unfold Ztd;rw[if_pos];rw[Bool.and_eq_true];exact⟨decide_eq_true (by omega),decide_eq_true (by unfold Zt;omega)⟩
  dsimp only
  rw[hg,ya,show(ls,(ls.length:Int),(0:Int),([]:List UInt8))=(λk:Nat=>(ls,(ls.length:Int),(k:Int),(ls.take k).flatten)) 0 from rfl,
   ZN (x:=ls.flatten) ls.length (λk:Nat=>(ls,(ls.length:Int),(k:Int),(ls.take k).flatten)) ?_ ?_ (by omega),ya]
  ·intro k hk;obtain⟨e,he,_⟩:=Zk hk;have hf:=ZvL he;have hl:=ZCA ls (k+1);rw[hf,yp] at hl;unfold Xf;dsimp only;rw[if_pos (Z9 hk),Zp he,ya,if_pos (Z2 (by omega) (by omega)),Zs (by omega),hf]
  ·unfold Xf;dsimp only;rw[if_neg (by rw[ZW];decide),ybk]
 ·intro k hk;obtain⟨e,he,_⟩:=Zk hk;have hf:=ZvL he;have hl:=ZCA ls (k+1);rw[hf,yp] at hl;unfold Xe;dsimp only;rw[if_pos (Z9 hk),Zp he,ya,Zz (z:=((ls.take k).flatten.length:Int)+(e.length:Int)) (by omega) (by omega),if_neg (ynd (by omega)),Zs (by omega),hf,yp];rfl
 ·unfold Xe;dsimp only;rw[if_neg (by rw[ZW];decide),ybk]
theorem ZxQ{a b:List UInt8}(h:a.length+b.length≤1000000000):Za6 fuel a b=some (a++b):=by
 unfold Za6;rw[ZvQ (by simp;omega) (by simp),ya];simp
def W7(n:Nat):List UInt8:=if h:n < 128 then[yat n] else yat (n % 128+128)::W7 (n / 128)
termination_by n
decreasing_by omega
theorem Zjx{n:Nat}(h:n < 128):W7 n=[yat n]:=by rw[W7,dif_pos h]
theorem Zt3{n:Nat}(h:¬n < 128):W7 n=yat (n % 128+128)::W7 (n / 128):=by rw[W7,dif_neg h]
theorem ZCE:∀(j n:Nat),n < 128 ^ (j+1)→(W7 n).length≤j+1
 |0,n,h=>by rw[Zjx (by omega)];exact Nat.le_refl _
 |j+1,n,h=>by
  by_cases h0:n < 128
  ·rw[Zjx h0,List.length_singleton];omega
  ·rw[Zt3 h0];have:=ZCE j (n / 128) (by rw[Nat.pow_succ] at h;omega);simp only[yae];omega
theorem YK{n:Nat}(h:n≤9223372036854775807):(W7 n).length≤9:=ZCE 8 n (by omega)
theorem ZIq(n:Nat):W7 n≠[]:=by
 rw[W7];split <;> simp
theorem ZGC{n:Nat}(h:n≤9223372036854775807):Zia fuel (n:Int)=some (W7 n):=by
 unfold Zia;refine Exists.elim (WL (step:=Ze3 fuel) (λs=>∃m:Nat,s.1=(m:Int)∧m≤n∧s.2++W7 m=W7 n) (λs=>s.1.toNat) (λx=>∃m:Nat,x.1=(m:Int)∧m < 128∧x.2++W7 m=W7 n) ?_ ((n:Int),([]:List UInt8)) ⟨n,rfl,Nat.le_refl _,rfl⟩ (by dsimp only;omega)) ?_
 ·rintro⟨_,o⟩ ⟨m,rfl,hm,ho⟩;unfold Ze3;dsimp only at ho ⊢;have hr:=congrArg List.length ho;have hl:=YK h;rw[yp] at hr;by_cases h1:m < 128
  ·right;rw[if_neg (ynd (by omega))];exact⟨_,rfl,m,rfl,h1,ho⟩
  ·left;rw[if_pos (decide_eq_true (by omega)),if_pos (Z2 (by omega) (by omega))];have e1:Int.tmod (m:Int) 128=((m % 128:Nat):Int):=rfl;have e2:Int.tdiv (m:Int) 128=((m / 128:Nat):Int):=rfl;rw[e1,e2,Zz (z:=((m % 128:Nat):Int)+128) (by omega) (by omega),Zz (z:=((m / 128:Nat):Int)) (by omega) (by omega)];refine⟨_,rfl,⟨m / 128,rfl,by omega, ?_⟩,by dsimp only;omega⟩;dsimp only;rw[←ho,Zt3 h1,yaj];congr 1;rw[List.singleton_append];congr 1;unfold w8;congr 1;omega
 ·rintro⟨_,o⟩ ⟨h1,m,rfl,h2,h3⟩;dsimp only at h3 ⊢;have hr:=congrArg List.length h3;have hl:=YK h;rw[yp] at hr;rw[h1,ya];dsimp only;rw[if_pos (Z2 (by omega) (by omega)), ←h3,Zjx h2];congr 3;unfold w8;congr 1;omega
theorem Zjy{b:List UInt8}{z:Int}(h0:0≤z)(h:z≤9223372036854775807)(hb:b.length≤1000000):WM fuel b z=some (b++W7 z.toNat):=by
 obtain⟨n,rfl⟩:=Int.eq_ofNat_of_zero_le h0;have:=YK (n:=n) (by omega);unfold WM;rw[if_neg (ynd (by omega)),ZGC (by omega),ya,ZxQ (by omega),ya,ybf]
theorem ZBl{b h:List UInt8}(hb:b.length≤1000000)(hh:h.length≤1000000):Zdj fuel b h=some (b++h):=by
 unfold Zdj;rw[ZxQ (by omega),ya]
theorem ZzA{b c:List UInt8}(hb:b.length≤1000000)(hc:c.length≤1000000):ZbY fuel b c=some (b++(W7 c.length++c)):=by
 have:=YK (n:=c.length) (by omega);unfold ZbY;rw[ZGC (by omega),ya,ZvQ (by simp;omega) (by simp),ya];simp
def Zpa(l:List UInt8)(n k:Nat):List UInt8:=l.take k++List.replicate (n - k) 0
theorem ZD3{l:List UInt8}{n k:Nat}(h:k < l.length)(h2:l.length≤n):(Zpa l n k)[k]? =some 0:=by
 unfold Zpa;have h3:(l.take k).length=k:=by simp;omega
 rw[yas (by omega),h3,List.getElem?_replicate];simp;omega
theorem ZD4{l:List UInt8}{n k:Nat}{d:UInt8}(hx:l[k]? =some d)(h2:l.length≤n):(Zpa l n k).set k d=Zpa l n (k+1):=by
 have h:k < l.length:=(yr.1 hx).1;have h3:(l.take k).length=k:=by simp;omega
 unfold Zpa;rw[Zfe hx,List.set_append_right _ _ (by omega),h3,Nat.sub_self];have e:n - k=(n - (k+1))+1:=by omega
 rw[e,List.replicate_succ];simp
theorem ZD5{l:List UInt8}{n:Nat}(h:l.length=n):Zpa l n n=l:=by
 unfold Zpa;rw[←h];simp
def Zqc(n:Nat):List UInt8:=(List.range 8).map λi=>yat (n / 2 ^ (56 - 8*i))
theorem ZaF(n:Nat):(Zqc n).length=8:=by simp[Zqc]
theorem ZzB(n:Nat){k:Nat}(hk:k < 8):(Zqc n)[k]? =some (yat (n / 2 ^ (56 - 8*k))):=by simp[Zqc,hk]
theorem ZGD(x:UInt64){m:Nat}:w8 ((ZL x m).toNat:Int)=yat (x.toNat / 2 ^ m):=by
 unfold w8 ZL;have h:x.toNat / 2 ^ m < 18446744073709551616:=Nat.lt_of_le_of_lt (Nat.div_le_self ..) (UInt64.toNat_lt _);rw[yba,yah h];apply UInt8.toNat_inj.1;rw[UInt8.toNat_ofNat',UInt8.toNat_ofNat'];omega
theorem ZvR{b:List UInt8}(x:UInt64)(hb:b.length≤1000000):ZbR fuel b x=some (b++Zqc x.toNat):=by
 unfold ZbR
 rw[show(b,x,(0:Int),([0,0,0,0,0,0,0,0]:List UInt8))=(λk:Nat=>(b,x,(k:Int),Zpa (Zqc x.toNat) 8 k)) 0 from rfl,
  ZN (x:=(b,Zqc x.toNat)) 8 (λk:Nat=>(b,x,(k:Int),Zpa (Zqc x.toNat) 8 k)) ?_ ?_ (by omega),ya]
 ·dsimp only;rw[ZxQ (by rw[ZaF];omega),ya]
 ·intro k hk;unfold ZaP;dsimp only;have hl:=ZaF x.toNat
  rw[if_pos (decide_eq_true (by omega)),Zz (z:=8*(k:Int)) (by omega) (by omega),Zz (z:=56 - 8*(k:Int)) (by omega) (by omega),if_pos (decide_eq_true (by omega)),if_pos (Yf (by omega) (by omega)),
   ybf,ZD3 (by omega) (by omega),ya,Zs (by omega)]
  have e:min (56 - 8*(k:Int)).toNat 64=56 - 8*k:=by omega
  rw[e,ZGD,ZD4 (ZzB _ hk) (by omega)]
 ·unfold ZaP;dsimp only;rw[if_neg (by simp),ZD5 (ZaF _)]
def ZD6(b:ZJ):Prop:=b.1.length≤12∧0≤b.2.1∧b.2.1≤1048576∧0≤b.2.2.1∧b.2.2.1≤1048576
def ZD7(b:ZJ):Prop:=(∀p,p∈b.1→Q6 p.toNat)∧(b.2.2.2≠0→Q6 b.2.2.2.toNat)
def Wh(l:Lock):Prop:=0 < l.length∧l.length≤4∧∀b,b∈l→ZD6 b
def Vg(l:Lock):Prop:=∀b,b∈l→ZD7 b
theorem ZBm(p:UInt64):Qd fuel p=some (!decide (Q6 p.toNat)):=by
 unfold Qd;rw[ZaE,ya]
theorem ZGE{p:UInt64}(h:Q6 p.toNat):Qd fuel p=some false:=by rw[ZBm,decide_eq_true h];rfl
theorem ZLK{l:List UInt64}(hl:l.length≤12)(h:∀p,p∈l→Q6 p.toNat):ZcT fuel l=some false:=by
 unfold ZcT ZbL
 rw[show(l,(l.length:Int),(0:Int))=(λk:Nat=>(l,(l.length:Int),(k:Int))) 0 from rfl,
  ZN (x:=.inr ()) l.length (λk:Nat=>(l,(l.length:Int),(k:Int))) ?_ ?_ (by omega),ya]
 ·rfl
 ·intro k hk;obtain⟨e,he,hm⟩:=Zk hk;unfold Xk;dsimp only;rw[if_pos (Z9 hk),Zp he,ya,ZGE (h e hm),ya,Zs (by omega)];rfl
 ·unfold Xk;dsimp only;rw[if_neg (by rw[ZW];decide)]
theorem ZvS{z:Int}(h0:0≤z)(h1:z≤1048576):VN fuel z=some true:=by
 unfold VN;rw[if_pos (decide_eq_true h0),decide_eq_true h1]
theorem Q0{l:Lock}(h:Wh l)(hp:Vg l):YA fuel l=some true:=by
 unfold YA;obtain⟨h0,h1,h2⟩:=h
 rw[show(l,(l.length:Int),(0:Int),l)=(λk:Nat=>(l,(l.length:Int),(k:Int),l)) 0 from rfl,
  ZN (x:=.inr l) l.length (λk:Nat=>(l,(l.length:Int),(k:Int),l)) ?_ ?_ (by omega),ya]
 ·dsimp only;rw[if_pos (decide_eq_true (by omega)),decide_eq_true (by omega)]
 ·intro k hk;obtain⟨e,he,hm⟩:=Zk hk;obtain⟨e1,e2,e3,e4,e5⟩:=h2 e hm;obtain⟨p1,p2⟩:=hp e hm;unfold Wt;dsimp only;rw[if_pos (Z9 hk),Zp he,ya,if_neg (ynd (by omega)),ZLK e1 p1,ya,ZvS e2 e3,ya,ZvS e4 e5,ya,Zs (by omega),if_neg (by decide),if_neg (by decide),if_neg (by decide)];by_cases hz:e.2.2.2=0
  ·rw[if_neg (by simp[hz])]
  ·rw[if_pos (by simp[hz]),ZGE (p2 hz),ya,if_neg (by decide)]
 ·unfold Wt;dsimp only;rw[if_neg (by rw[ZW];decide)]
def TxWf(t:Tx):Prop:=(∀x,x∈t.1→x.1.1.length=32)∧t.2.2≤9223372036854775807
def ZKA(x:In):Prop:=0≤x.1.2∧x.1.2 < 64∧0≤x.2.1∧x.2.1 < 4∧x.2.2.1.length≤12
def Zt4(o:Out):Prop:=0≤o.1∧o.1≤1125899906842624∧Wh o.2∧Vg o.2
def TxOk(t:Tx):Prop:=0 < t.1.length∧t.1.length≤64∧t.2.1.length≤64∧0≤t.2.2∧(∀x,x∈t.1→ZKA x)∧∀o,o∈t.2.1→Zt4 o
def cat{α:Type}(f:α→List UInt8)(l:List α):List UInt8:=(l.map f).flatten
theorem Zpb{α:Type}{f:α→List UInt8}{l:List α}{k:Nat}{e:α}(h:l[k]? =some e):cat f (l.take (k+1))=cat f (l.take k)++f e:=by
 unfold cat
 rw[Zfe h,yav,List.flatten_append];simp
theorem ZzC{α:Type}{f:α→List UInt8}{l:List α}{e:α}:cat f (e::l)=f e++cat f l:=rfl
theorem ZxR{α:Type}{f:α→List UInt8}{c:Nat}:∀{l:List α},(∀x,x∈l→(f x).length≤c)→(cat f l).length≤l.length*c
 |[],_=>by simp[cat]
 |e::l,h=>by
  have h1:=h e (yau ..);have h2:=ZxR (l:=l) λx hx=>h x (yay _ hx);rw[ZzC,yp,yae,Nat.succ_mul];omega
theorem Zly{α:Type}{f:α→List UInt8}{c n:Nat}{l:List α}(h:∀x,x∈l→(f x).length≤c)(hn:l.length≤n)(k:Nat):(cat f (l.take k)).length≤n*c:=by
 refine Nat.le_trans (ZxR λx hx=>h x (ybv hx)) (yby c ?_);rw[yai];omega
def Zt5(p:UInt64):List UInt8:=Zqc p.toNat
def brF(b:ZJ):List UInt8:=W7 b.1.length++(cat Zt5 b.1++(W7 b.2.1.toNat++(W7 b.2.2.1.toNat++Zqc b.2.2.2.toNat)))
def VC(l:Lock):List UInt8:=W7 l.length++cat brF l
theorem Zt6{l:List UInt64}(h:l.length≤12)(k:Nat):(cat Zt5 (l.take k)).length≤96:=Zly (c:=8) (λx _=>Nat.le_of_eq (ZaF _)) h k
theorem ZxS{b:ZJ}(h:b.1.length≤12∧0≤b.2.1∧b.2.1≤1048576∧0≤b.2.2.1∧b.2.2.1≤1048576):(brF b).length≤131:=by
 have h1:=Zt6 h.1 b.1.length;rw[ybk] at h1;have h2:=YK (n:=b.1.length) (by omega);have h3:=YK (n:=b.2.1.toNat) (by omega);have h4:=YK (n:=b.2.2.1.toNat) (by omega);have h5:=ZaF b.2.2.2.toNat
 unfold brF;simp only[yp];omega
theorem Zfo{l:Lock}(h:Wh l):(VC l).length≤533:=by
 have h1:=Zly (f:=brF) (c:=131) (λx hx=>ZxS (h.2.2 x hx)) h.2.1 l.length;rw[ybk] at h1;have h2:=YK (n:=l.length) (by have:=h.2.1;omega);unfold VC;rw[yp];omega
theorem ZD8{c:List UInt8}(hc:c.length≤100000){bs:List ZJ}{n i:Int}{ks:List UInt64}{l:Lock}{e:ZJ}(hk:ks.length≤12):
 Zb (QJ fuel) fuel (c,bs,n,i,ks,(ks.length:Int),(0:Int),l,e)=some (c++cat Zt5 ks,bs,n,i,l,e):=by
 rw[show(c,bs,n,i,ks,(ks.length:Int),(0:Int),l,e)=(λk:Nat=>(c++cat Zt5 (ks.take k),bs,n,i,ks,(ks.length:Int),(k:Int),l,e)) 0 by simp[cat]];refine ZN ks.length (λk:Nat=>(c++cat Zt5 (ks.take k),bs,n,i,ks,(ks.length:Int),(k:Int),l,e)) ?_ ?_ (by omega)
 ·intro k hk2;obtain⟨e,he,_⟩:=Zk hk2;have hl:=Zt6 hk k;unfold QJ;dsimp only;rw[if_pos (Z9 hk2),Zp he,ya,ZvR _ (by rw[yp];omega),ya,Zs (by omega),Zpb he,yaj];rfl
 ·unfold QJ;dsimp only;rw[if_neg (by rw[ZW];decide),ybk]
theorem Zgu{l:Lock}(h:Wh l)(hp:Vg l):VE fuel l=some (VC l):=by
 unfold VE;have h0:=h.2.1;have h9:=YK (n:=l.length) (by omega);rw[Q0 h hp,ya,if_neg (by decide),Zjy (by omega) (by omega) (by simp),ya,yx,ybf]
 rw[show(W7 l.length,l,(l.length:Int),(0:Int),l)=(λk:Nat=>(W7 l.length++cat brF (l.take k),l,(l.length:Int),(k:Int),l)) 0 by simp[cat],
  ZN (x:=(VC l,l)) l.length (λk:Nat=>(W7 l.length++cat brF (l.take k),l,(l.length:Int),(k:Int),l)) ?_ ?_ (by omega),ya]
 ·intro k hk;obtain⟨e,he,hm⟩:=Zk hk;obtain⟨e1,e2,e3,e4,e5⟩:=h.2.2 e hm;have hl:=Zly (f:=brF) (c:=131) (λx hx=>ZxS (h.2.2 x hx)) h.2.1 k;have hr:=YK (n:=e.1.length) (by omega);have hr2:=YK (n:=e.2.1.toNat) (by omega);have hr3:=YK (n:=e.2.2.1.toNat) (by omega);have hk8:=Zt6 e1 e.1.length;rw[ybk] at hk8;unfold ZbS;dsimp only
  rw[if_pos (Z9 hk),Zp he,ya,Zjy (by omega) (by omega) (by rw[yp];omega),ya,ybf,
   ZD8 (by simp only[yp];omega) e1,ya]
  dsimp only
  rw[Zjy e2 (by omega) (by simp only[yp];omega),ya,Zjy e4 (by omega) (by simp only[yp];omega),ya,
   ZvR _ (by simp only[yp];omega),ya,Zs (by omega),Zpb he]
  unfold brF;simp only[yaj]
 ·unfold ZbS;dsimp only;rw[if_neg (by rw[ZW];decide),ybk];rfl
def inF(x:In):List UInt8:=x.1.1++W7 x.1.2.toNat
def ZzD(o:Out):List UInt8:=W7 o.1.toNat++(W7 (VC o.2).length++VC o.2)
def Zlz(t:Tx):List UInt8:=W7 t.1.length++(cat inF t.1++(W7 t.2.1.length++(cat ZzD t.2.1++W7 t.2.2.toNat)))
theorem ZIr{x:In}(h:x.1.1.length=32)(k:ZKA x):(inF x).length≤41:=by
 have:=YK (n:=x.1.2.toNat) (by have:=k.2.1;omega);unfold inF;rw[yp];omega
theorem ZGF{o:Out}(k:Zt4 o):(ZzD o).length≤551:=by
 have h1:=Zfo k.2.2.1;have h2:=YK (n:=o.1.toNat) (by have:=k.2.1;omega);have h3:=YK (n:=(VC o.2).length) (by omega);unfold ZzD;simp only[yp];omega
theorem ZGG{t:Tx}(hw:TxWf t)(h:TxOk t):Zl0 fuel t=some (Zlz t)∧(Zlz t).length≤40000:=by
 obtain⟨ins,outs,note⟩:=t;obtain⟨w2,w3⟩:=hw;obtain⟨h1,h2,h3,h4,h5,h6⟩:=h;dsimp only at w2 w3 h1 h2 h3 h4 h5 h6;have li:=λk=>Zly (f:=inF) (c:=41) (λx hx=>ZIr (w2 x hx) (h5 x hx)) h2 k;have lo:=λk=>Zly (f:=ZzD) (c:=551) (λx hx=>ZGF (h6 x hx)) h3 k;have li1:=li ins.length;have lo1:=lo outs.length;rw[ybk] at li1 lo1;have r1:=YK (n:=ins.length) (by omega);have r2:=YK (n:=outs.length) (by omega);have r3:=YK (n:=note.toNat) (by omega);refine⟨?_,by unfold Zlz;simp only[yp];omega⟩;unfold Zl0;dsimp only;rw[Zjy (by omega) (by omega) (by simp),ya,yx,ybf]
 rw[show(W7 ins.length,ins,(ins.length:Int),(0:Int),(ins,outs,note))=(λk:Nat=>(W7 ins.length++cat inF (ins.take k),ins,(ins.length:Int),(k:Int),(ins,outs,note))) 0 by simp[cat],
  ZN (x:=(W7 ins.length++cat inF ins,(ins,outs,note))) ins.length (λk:Nat=>(W7 ins.length++cat inF (ins.take k),ins,(ins.length:Int),(k:Int),(ins,outs,note))) ?_ ?_ (by omega),ya]
 ·dsimp only;rw[Zjy (by omega) (by omega) (by rw[yp];omega),ya,ybf];generalize hp:W7 ins.length++cat inF ins++W7 outs.length=pre;have hpl:pre.length≤3000:=by rw[←hp];simp only[yp];omega
  rw[show(pre,outs,(outs.length:Int),(0:Int),(ins,outs,note))=(λk:Nat=>(pre++cat ZzD (outs.take k),outs,(outs.length:Int),(k:Int),(ins,outs,note))) 0 by simp[cat],
   ZN (x:=(pre++cat ZzD outs,(ins,outs,note))) outs.length (λk:Nat=>(pre++cat ZzD (outs.take k),outs,(outs.length:Int),(k:Int),(ins,outs,note))) ?_ ?_ (by omega),ya]
  ·dsimp only;rw[Zjy h4 w3 (by rw[yp];omega),ya, ←hp];unfold Zlz;simp only[yaj]
  ·intro k hk;obtain⟨e,he,hm⟩:=Zk hk;have hlk:=lo k;have hok:=h6 e hm;have hlo:=hok.2.2.1;have hll:=Zfo hlo;have hrl:=YK (n:=e.1.toNat) (by have:=hok.2.1;omega);unfold Zfb;dsimp only
   rw[if_pos (Z9 hk),Zp he,ya,Zjy hok.1 (by have:=hok.2.1;omega) (by rw[yp];omega),ya,Zgu hok.2.2.1 hok.2.2.2,ya,
    ZzA (by simp only[yp];omega) (by omega),ya,Zs (by omega),Zpb he]
   unfold ZzD;simp only[yaj]
  ·unfold Zfb;dsimp only;rw[if_neg (by rw[ZW];decide),ybk]
 ·intro k hk;obtain⟨e,he,hm⟩:=Zk hk;have hlk:=li k;have h32:=w2 e hm;have hok:=h5 e hm;unfold Zfa;dsimp only
  rw[if_pos (Z9 hk),Zp he,ya,ZBl (by rw[yp];omega) (by omega),ya,Zjy hok.1 (by have:=hok.2.1;omega) (by simp only[yp];omega),ya,
   Zs (by omega),Zpb he]
  unfold inF;simp only[yaj]
 ·unfold Zfa;dsimp only;rw[if_neg (by rw[ZW];decide),ybk]
def amts(l:List Out):Int:=(l.map (·.1)).sum
theorem Zqd{l:List Out}{k:Nat}{e:Out}(h:l[k]? =some e):amts (l.take (k+1))=amts (l.take k)+e.1:=by
 unfold amts;rw[Zfe h,yav,List.sum_append];simp
theorem ZGH:∀{l:List Int},(∀x,x∈l→0≤x)→0≤l.sum
 |[],_=>by simp
 |x::r,h=>by
  have:=ZGH (l:=r) λy hy=>h y (yay _ hy);have:=h x (yau ..);rw[List.sum_cons];omega
theorem ZCF{l:List Out}(h:∀o,o∈l→Zt4 o)(k:Nat):0≤amts (l.take k)∧amts (l.take k)≤amts l:=by
 have h1:∀(l:List Out),(∀o,o∈l→Zt4 o)→0≤amts l:=λl h=>ZGH λx hx=>by
  obtain⟨o,ho,rfl⟩:=List.mem_map.1 hx;exact(h o ho).1
 refine⟨h1 _ λo ho=>h o (ybv ho), ?_⟩;have:=h1 (l.drop k) λo ho=>h o (List.mem_of_mem_drop ho)
 have e:amts l=amts (l.take k)+amts (l.drop k):=by
  unfold amts;rw[←List.sum_append, ←yav,List.take_append_drop]
 omega
theorem ZzE{z:Int}(h0:0≤z)(h1:z≤1125899906842624):ZfM fuel z=some true:=by
 unfold ZfM;rw[if_pos (decide_eq_true h0),decide_eq_true h1]
theorem ZCG{a b:Int}(h0:0≤a)(h1:0≤b)(h2:a+b≤1125899906842624):Zh6 fuel a b=some (a+b,true):=by
 unfold Zh6;rw[ZzE h0 (by omega),ya,if_neg (by decide),ZzE h1 (by omega),ya,if_neg (by decide),Zz (z:=1125899906842624 - b) (by omega) (by omega),Zz (z:=a+b) (by omega) (by omega),if_neg (ynd (by omega))]
theorem ZBn{x:In}(h:ZKA x):ZdE fuel x.2=some true:=by
 obtain⟨_,_,h1,h2,h3⟩:=h;unfold ZdE;rw[if_pos (decide_eq_true h1),if_pos (decide_eq_true h2),decide_eq_true (by omega)]
theorem ZzF{x:In}{outs:List Out}{note:Int}(h:TxOk ([x],outs,note))(hs:amts outs≤1125899906842624):Zbm fuel ([x],outs,note)=some true:=by
 obtain⟨h1,h2,h3,h4,h5,h6⟩:=h;dsimp only at h3 h4 h5 h6;have hx:=h5 x (yan.2 rfl);unfold Zbm;dsimp only;rw[if_neg (by simp),if_neg (by simp),if_neg (ynd (by omega)),if_neg (ynd (by omega))]
 obtain⟨y,g1,m,rfl⟩:=Yk (step:=ZbW fuel) 1 (λk s=>∃m,s=([x],(1:Int),(k:Int),([x],outs,note),m)∧(k=0→m=[])) (λy=>∃m,y=.inr (([x],outs,note),m)) (i:=([x],(([x]:List In).length:Int),(0:Int),([x],outs,note),([]:List (Zu×Bool)))) ⟨_,rfl,λ_=>rfl⟩ (by omega) (by
  rintro k _ hk ⟨m,rfl,hm⟩;left;have e:k=0:=by omega
  subst e;rw[hm rfl];unfold ZbW;dsimp only;have e1:Zky ([]:List (Zu×Bool)) x.1=none:=rfl;rw[if_pos (decide_eq_true (by omega)),Zp (show([x]:List In)[0]? =some x from rfl),ya,e1]
  unfold Zvk;dsimp only;rw[if_neg (by rw[decide_eq_true_iff];have:=hx.1;omega),if_neg (by rw[decide_eq_true_iff];have:=hx.2.1;omega),ZBn hx,ya,if_neg (by decide)];exact⟨_,rfl,_,rfl,λh=>by omega⟩) (by
  rintro _ ⟨m,rfl,hm⟩;unfold ZbW;dsimp only;rw[if_neg (ynd (by omega))];exact⟨_,rfl,_,rfl⟩)
 rw[g1,ya];dsimp only
 rw[show((0:Int),outs,(outs.length:Int),(0:Int),([x],outs,note),m)=(λk:Nat=>(amts (outs.take k),outs,(outs.length:Int),(k:Int),([x],outs,note),m)) 0 from rfl,
  ZN (x:=.inr (([x],outs,note),m)) outs.length (λk:Nat=>(amts (outs.take k),outs,(outs.length:Int),(k:Int),([x],outs,note),m)) ?_ ?_ (by omega),ya]
 ·intro k hk;obtain⟨e,he,hm⟩:=Zk hk;obtain⟨o1,o2,o3,o4⟩:=h6 e hm;have hk1:=ZCF h6 k;have hk2:=ZCF h6 (k+1);rw[Zqd he] at hk2;unfold Ze5;dsimp only;rw[if_pos (Z9 hk),Zp he,ya,ZCG hk1.1 o1 (by omega),ya,Q0 o3 o4,ya,Zs (by omega),Zqd he];rfl
 ·unfold Ze5;dsimp only;rw[if_neg (by rw[ZW];decide)]
noncomputable def ZCH(b:List UInt8):List UInt8:=(Zc0 fuel ZGr [b]).getD []
theorem ZCI{x:In}{outs:List Out}{note:Int}(hw:TxWf ([x],outs,note))(h:TxOk ([x],outs,note))(hs:amts outs≤1125899906842624):Zf2 fuel ([x],outs,note)=some (ZCH (Zlz ([x],outs,note)))∧(ZCH (Zlz ([x],outs,note))).length=32:=by
 unfold Zf2;obtain⟨p1,p2⟩:=ZGG hw h;obtain⟨o,h1,h2⟩:=ZxP (s:=ZGr) (ls:=[Zlz ([x],outs,note)]) (by decide) (by simp) (by intro y hy;rw[yan.1 hy];omega);rw[ZzF h hs,ya,if_neg (by decide),p1,ya];unfold ZCH;rw[h1,ya];exact⟨rfl,h2⟩
def Tm(d:Int):ZbJ:=(100,200,d,16,1,1125899906842624)
noncomputable def ZY(k:Kit):Zal:=(B k.1.toNat,B k.2.1.toNat,B k.2.2.1.toNat,B k.2.2.2.1.toNat,B k.2.2.2.2.1.toNat)
def KitOk(k:Kit):Prop:=Key k.1∧Key k.2.1∧Key k.2.2.1∧Key k.2.2.2.1∧Key k.2.2.2.2.1
def z32:List UInt8:=yzz
noncomputable def Z7(A:Int)(k0 k1:Kit)(op:Int):ZE:=((z32,0),A,[ZY k0,ZY k1],[Tm 5,Tm 6],op)
structure ChOk(A:Int)(k0 k1:Kit)(op:Int):Prop where
 lo:20000≤A
 hi:A≤4300000000
 o:op=0∨op=1
 k0:KitOk k0
 k1:KitOk k1
theorem ZCJ{k:UInt64}(h:Key k):B k.toNat≠1:=ZMq h.1 h.2
theorem ZKB{k:UInt64}(h:Key k):Qp fuel (B k.toNat)=some true:=by
 unfold Qp;rw[Zqa,ya,if_pos (decide_eq_true (Zo9 _))];exact congrArg some (bne_iff_ne.2 (ZCJ h))
theorem ZnD{k:Kit}(h:KitOk k):∀p,p∈[(ZY k).1,(ZY k).2.1,(ZY k).2.2.1,(ZY k).2.2.2.1,(ZY k).2.2.2.2]→∃x:UInt64,Key x∧p=B x.toNat:=by
 obtain⟨h1,h2,h3,h4,h5⟩:=h;intro p hp;simp only[ybt,yct,or_false] at hp;rcases hp with rfl|rfl|rfl|rfl|rfl
 ·exact⟨_,h1,rfl⟩
 ·exact⟨_,h2,rfl⟩
 ·exact⟨_,h3,rfl⟩
 ·exact⟨_,h4,rfl⟩
 ·exact⟨_,h5,rfl⟩
theorem rin{z a b:Int}(h1:a≤z)(h2:z≤b):Z0 fuel z a b=some true:=by
 unfold Z0;rw[if_pos (decide_eq_true h1),decide_eq_true h2]
theorem ZzG{z a b:Int}(h1:a≤z)(h2:z≤b):Yd fuel z a b=some true:=by
 unfold Yd;rw[if_pos (decide_eq_true h1),decide_eq_true h2]
theorem ZGI{d:Int}(h1:1≤d)(h2:d≤4096):Vo fuel (Tm d)=some true:=by
 unfold Vo Tm;dsimp only;rw[rin (by omega) (by omega),ya,if_pos rfl,rin (by omega) (by omega),ya,if_pos rfl,rin h1 h2,ya,if_pos rfl,rin (by omega) (by omega),ya,if_pos rfl,rin (by omega) (by omega),ya,if_pos rfl,rin (by omega) (by omega)];rfl
theorem ZvT(i:Int)(ch:ZE)(b:Zal){l:List UInt64}(hl:l.length=5)(h:∀p,p∈l→∃x:UInt64,Key x∧p=B x.toNat):Zb (XT fuel) fuel (i,l,(0:Int),ch,b)=some (.inr (i,ch,b)):=by
 refine ZN 5 (λk:Nat=>(i,l,(k:Int),ch,b)) ?_ ?_ (by omega)
 ·intro k hk;obtain⟨e,he,hm⟩:=Zk (l:=l) (k:=k) (by omega);obtain⟨x,hx,rfl⟩:=h e hm;unfold XT;dsimp only;rw[if_pos (decide_eq_true (by omega)),Zp he,ya,ZKB hx,ya,if_neg (by decide),Zs (by omega)]
 ·unfold XT;dsimp only;rw[if_neg (ynd (by omega))]
theorem ZMs{A:Int}{k0 k1:Kit}{op:Int}(h:ChOk A k0 k1 op):Qq fuel (Z7 A k0 k1 op)=some 0:=by
 obtain⟨h1,h2,h3,h4,h5⟩:=h;have hA:(Z7 A k0 k1 op).2.1=A:=rfl;have hN:(Z7 A k0 k1 op).1.2=0:=rfl;have hO:(Z7 A k0 k1 op).2.2.2.2=op:=rfl;have hT:(Z7 A k0 k1 op).2.2.2.1=[Tm 5,Tm 6]:=rfl;have hB:(Z7 A k0 k1 op).2.2.1=[ZY k0,ZY k1]:=rfl;unfold Qq;rw[hA,hN,hO,rin (by omega) (by omega),ya,if_neg (by decide),rin (by omega) (by omega),ya,if_neg (by decide),rin (by omega) (by omega),ya,if_neg (by decide)];generalize hc:Z7 A k0 k1 op=c at*;rw[show((0:Int),c)=(λk:Nat=>((k:Int),c)) 0 from rfl,ZN (x:=.inr c) 2 (λk:Nat=>((k:Int),c)) ?_ ?_ (by omega),ya]
 ·dsimp only;rw[hT];show(if decide (wi (200+200) > c.2.1)=true then some (10:Int) else some 0)=some 0
  rw[hA,Zz (by omega) (by omega),if_neg (ynd (by omega))]
 ·intro k hk;unfold W4;dsimp only;rw[if_pos (decide_eq_true (by omega)),if_pos (Yf (by omega) (by omega)),ybf,hB,hT]
  match k,hk with
  |0,_=>
   show(ybc (some (ZY k0)) _)=_;rw[ya,if_pos (by decide)];show(ybc (some (Tm 5)) _)=_;rw[ya,ZGI (by omega) (by omega),ya,if_neg (by decide),ZvT _ _ _ rfl (ZnD h4),ya]
   rfl
  |1,_=>
   show(ybc (some (ZY k1)) _)=_;rw[ya,if_pos (by decide)];show(ybc (some (Tm 6)) _)=_;rw[ya,ZGI (by omega) (by omega),ya,if_neg (by decide),ZvT _ _ _ rfl (ZnD h5),ya];rfl
 ·unfold W4;dsimp only;rw[if_neg (ynd (by omega))]
def CondIn(c:Cond):Prop:=(c.1=0∨c.1=1)∧1≤c.2.1∧c.2.1≤1048576∧1≤c.2.2.1∧c.2.2.1≤65536∧Q6 c.2.2.2.1.toNat∧c.2.2.2.1≠1∧1≤c.2.2.2.2∧c.2.2.2.2≤65536
def Ahd(a b:Cond):Prop:=a.1 < b.1∨a.1=b.1∧a.2.1 < b.2.1
instance(a b:Cond):Decidable (Ahd a b):=by unfold Ahd;infer_instance
theorem ZD9{a b c:Cond}(h:Ahd a b)(k:Ahd b c):Ahd a c:=by unfold Ahd at*;omega
theorem ZKC{a b:Cond}(h:a.2.1≠b.2.1)(k:¬Ahd a b):Ahd b a:=by unfold Ahd at*;omega
theorem ZvU(a b:Cond):X6 fuel a b=some (decide (Ahd a b)):=by
 unfold X6;by_cases h1:a.1 < b.1
 ·rw[if_pos (decide_eq_true h1),decide_eq_true (p:=Ahd a b) (Or.inl h1)]
 ·rw[if_neg (by rw[decide_eq_true_iff];exact h1)];by_cases h2:a.1=b.1
  ·rw[if_pos (by rw[h2];exact beq_self_eq_true _)];congr 1;rw[decide_eq_decide];unfold Ahd;omega
  ·rw[if_neg (by rw[beq_iff_eq];exact h2),decide_eq_false (p:=Ahd a b) (by unfold Ahd;omega)]
theorem ZI7{c:Cond}(h:CondIn c):Ww fuel c=some true:=by
 obtain⟨h1,h2,h3,h4,h5,h6,h7,h8,h9⟩:=h;unfold Ww;rw[Zqa,ya,if_pos (decide_eq_true h6),if_pos (bne_iff_ne.2 h7),ZzG (by omega) (by omega),ya,if_pos rfl,ZzG h2 h3,ya,if_pos rfl,ZzG h4 (by omega),ya,if_pos rfl,ZzG h8 (by omega)];rfl
def amtC(l:List Cond):Int:=(l.map (·.2.2.1)).sum
theorem ZvV{l:List Cond}{k:Nat}{e:Cond}(h:l[k]? =some e):amtC (l.take (k+1))=amtC (l.take k)+e.2.2.1:=by
 unfold amtC;rw[Zfe h,yav,List.sum_append];simp
theorem Zl5{l:List Cond}(h:∀c,c∈l→CondIn c):0≤amtC l∧amtC l≤65536*(l.length:Int):=by
 induction l with
 |nil=>exact⟨Int.le_refl _,Int.le_refl _⟩
 |cons c r ih=>
  obtain⟨h1,h2⟩:=ih λx hx=>h x (yay _ hx);have hc:=h c (yau ..);have e:amtC (c::r)=c.2.2.1+amtC r:=rfl;rw[e,yae];have:=hc.2.2.2.1;have:=hc.2.2.2.2.1;omega
theorem Zt7{l:List Cond}(h:∀c,c∈l→CondIn c)(k:Nat):0≤amtC (l.take k)∧amtC (l.take k)≤65536*(l.length:Int):=by
 have h1:=Zl5 (l:=l.take k) λc hc=>h c (ybv hc);rw[yai] at h1;omega
structure StIn(A:Int)(s:State)(h0 h1:Int):Prop where
 n0:0≤s.1
 n1:s.1≤65535
 hv:s.2.1=[h0,h1]
 p0:0≤h0
 p1:0≤h1
 r0:0≤s.2.2.2
 r1:s.2.2.2≤7
 len:s.2.2.1.length≤16
 cs:∀c,c∈s.2.2.1→CondIn c
 srt:s.2.2.1.Pairwise Ahd
 tot:h0+h1+amtC s.2.2.1=A
def cost(r:Int)(n:Nat):Int:=r*(68+8*(n:Int))+660
theorem ZxT{r m:Int}(h0:0≤r)(h1:r≤7)(h2:0≤m):0≤r*m∧r*m≤7*m:=⟨Int.mul_nonneg h0 h2,Int.mul_le_mul_of_nonneg_right h1 h2⟩
theorem Zpc{r:Int}{n:Nat}(h0:0≤r)(h1:r≤7)(h2:n≤16):660≤cost r n∧cost r n≤2032:=by
 have:=ZxT (m:=68+8*(n:Int)) h0 h1 (by omega);unfold cost;omega
theorem ZLL{r:Int}{n:Nat}(h0:0≤r)(h1:r≤7)(h2:n≤16):Qr fuel r (n:Int)=some (r*(68+8*(n:Int))):=by
 have:=ZxT (m:=68+8*(n:Int)) h0 h1 (by omega);unfold Qr;rw[rin h0 (by omega),ya,if_neg (by decide)];unfold QU;rw[rin (by omega) (by omega),ya,if_neg (by decide),ya,Zz (z:=4+(n:Int)) (by omega) (by omega),Zz (z:=(4+(n:Int))*8) (by omega) (by omega),Zz (z:=36+(4+(n:Int))*8) (by omega) (by omega),show 36+(4+(n:Int))*8=68+8*(n:Int) by omega,Zz (by omega) (by omega)]
theorem ZLM{A:Int}{s:State}{h0 h1:Int}(h:StIn A s h0 h1)(ch:ZE):Y2 fuel ch s=some (cost s.2.2.2 s.2.2.1.length):=by
 have:=Zpc h.r0 h.r1 h.len;unfold Y2;unfold cost at*;rw[ZLL h.r0 h.r1 h.len,ya,Zz (by omega) (by omega)]
theorem ZKD{A:Int}{s:State}{h0 h1:Int}(h:StIn A s h0 h1)(hA:A≤4300000000):Vp fuel s=some A:=by
 obtain⟨no,hv,l,r⟩:=s;obtain⟨_,_,hh,p0,p1,_,_,hl,hc,_,ht⟩:=h;dsimp only at hh hl hc ht;subst hh;unfold Vp;show ybc (some h0) _=_;rw[ya];show ybc (some h1) _=_;have hb:=λk=>Zt7 hc k;have hb':=Zl5 hc
 rw[ya,Zz (z:=h0+h1) (by omega) (by omega),show(h0+h1,(0:Int),(no,[h0,h1],l,r))=(λk:Nat=>(h0+h1+amtC (l.take k),(k:Int),(no,[h0,h1],l,r))) 0 by simp[amtC],
  ZN (x:=(A,(no,[h0,h1],l,r))) l.length (λk:Nat=>(h0+h1+amtC (l.take k),(k:Int),(no,[h0,h1],l,r))) ?_ ?_ (by omega),ya]
 ·intro k hk;obtain⟨e,he,hm⟩:=Zk hk;have h1:=hb k;have h2:=hb (k+1);have h3:=ZvV he;unfold Wd;dsimp only;rw[if_pos (Z9 hk),Zp he,ya,Zz (by omega) (by omega),Zs (by omega),h3,Int.add_assoc]
 ·unfold Wd;dsimp only;rw[if_neg (by rw[ZW];decide),ybk,ht]
theorem ZLN{A:Int}{s:State}{h0 h1:Int}(h:StIn A s h0 h1){to:Int}(ht:to=0∨to=1):∃n m,XD fuel s to=some (n,m)∧0≤n∧n≤16∧0≤m∧m≤2000000:=by
 obtain⟨no,hv,l,r⟩:=s;have hl:=h.len;have hc:=h.cs;dsimp only at hl hc;unfold XD
 obtain⟨x,g1,n,m,rfl,g2⟩:=Yk (step:=YW fuel) l.length (λk q=>∃n m,q=(to,n,m,(k:Int),(no,hv,l,r))∧0≤n∧n≤(k:Int)∧0≤m∧m≤65536*(k:Int)) (λx=>∃n m,x=(n,m,(no,hv,l,r))∧0≤n∧n≤16∧0≤m∧m≤2000000) (i:=(to,(0:Int),(0:Int),(0:Int),(no,hv,l,r))) ⟨0,0,rfl,by omega⟩ (by omega) (by
  rintro k _ hk ⟨n,m,rfl,q⟩;left;obtain⟨e,he,hm⟩:=Zk hk;have h4:=(hc e hm).2.2.2.1;have h5:=(hc e hm).2.2.2.2.1;unfold YW;dsimp only;rw[if_pos (Z9 hk),Zp he,ya,Zs (by omega)];split
  ·rw[ya,Zz (z:=n+1) (by omega) (by omega),Zz (z:=m+e.2.2.1) (by omega) (by omega)];exact⟨_,rfl,_,_,rfl,by omega⟩
  ·exact⟨_,rfl,_,_,rfl,by omega⟩) (by
  rintro _ ⟨n,m,rfl,q⟩;unfold YW;dsimp only;rw[if_neg (by rw[ZW];decide)];exact⟨_,rfl,_,_,rfl,by omega⟩)
 rw[g1,ya];exact⟨_,_,rfl,g2⟩
def hav(op h0 h1:Int):Int:=if op=0 then h0 else h1
theorem ZBo{i:Int}(h:i=0∨i=1):∃d,([Tm 5,Tm 6]:List ZbJ)[(wi (1 - i)).toNat]? =some (Tm d):=by
 rcases h with rfl|rfl
 ·exact⟨6,rfl⟩
 ·exact⟨5,rfl⟩
theorem Zpd{i:Int}(h:i=0∨i=1):inB (wi (1 - i)) 2=true:=by
 rcases h with rfl|rfl <;> rfl
theorem YD{i:Int}(h:i=0∨i=1):inB i 2=true:=by
 rcases h with rfl|rfl <;> rfl
theorem Zdo{op h0 h1:Int}(h:op=0∨op=1):([h0,h1]:List Int)[op.toNat]? =some (hav op h0 h1):=by
 rcases h with rfl|rfl <;> rfl
theorem ZvW{A:Int}{k0 k1:Kit}{op:Int}(h:ChOk A k0 k1 op){s:State}{h0 h1:Int}(hs:StIn A s h0 h1):Xv fuel (Z7 A k0 k1 op) s=some (decide (hav op h0 h1 ≥ cost s.2.2.2 s.2.2.1.length)):=by
 have hT:(Z7 A k0 k1 op).2.2.2.1=[Tm 5,Tm 6]:=rfl;have hA:(Z7 A k0 k1 op).2.1=A:=rfl;have hO:(Z7 A k0 k1 op).2.2.2.2=op:=rfl;have hlo:=h.lo;have hhi:=h.hi;have hco:=ZLM hs (Z7 A k0 k1 op);have hto:=ZKD hs h.hi;have hof:=λto ht=>ZLN hs (to:=to) ht;have hb:=Zl5 hs.cs;unfold Xv;rw[ZMs h,ya,if_neg (by decide)];generalize hc:Z7 A k0 k1 op=c at*;obtain⟨no,hv,l,r⟩:=s;obtain⟨n0,n1,hh,p0,p1,r0,r1,hl,hcs,hsr,ht⟩:=hs;dsimp only at n0 n1 hh p0 p1 r0 r1 hl hcs hsr ht hb;subst hh;dsimp only;rw[ZzG n0 (by omega),ya,if_neg (by decide)];show ybc (some h0) _=_;rw[ya,ZzG p0 (by omega),ya,if_neg (by decide)];show ybc (some h1) _=_;rw[ya,ZzG p1 (by omega),ya,if_neg (by decide),ZzG r0 (by omega),ya,if_neg (by decide),if_neg (ynd (by omega))];rw[show((0:Int),c,(no,[h0,h1],l,r))=(λk:Nat=>((k:Int),c,(no,[h0,h1],l,r))) 0 from rfl,ZN (x:=.inr (c,(no,[h0,h1],l,r))) l.length (λk:Nat=>((k:Int),c,(no,[h0,h1],l,r))) ?_ ?_ (by omega),ya]
 ·dsimp only;rw[show((0:Int),c,(no,[h0,h1],l,r))=(λk:Nat=>((k:Int),c,(no,[h0,h1],l,r))) 0 from rfl,ZN (x:=.inr (c,(no,[h0,h1],l,r))) 2 (λk:Nat=>((k:Int),c,(no,[h0,h1],l,r))) ?_ ?_ (by omega),ya]
  ·dsimp only;rw[hto,ya,hA,if_pos (beq_self_eq_true _),hO,if_pos (YD h.o),Zdo h.o,ya,hco,ya]
  ·intro k hk;obtain⟨n,m,e1,e2,e3,e4,e5⟩:=hof (k:Int) (by omega)
   have ht:∃d,c.2.2.2.1[k]? =some (Tm d):=by
    rw[hT]
    match k,hk with
    |0,_=>exact⟨_,rfl⟩
    |1,_=>exact⟨_,rfl⟩
   obtain⟨d,hd⟩:=ht;unfold Wg;dsimp only;rw[if_pos (decide_eq_true (by omega)),e1,ya,if_pos (Yf (by omega) (by omega)),ybf,hd,ya,ya,Zs (by omega)];rw[if_neg (by rw[decide_eq_true_iff];show¬n > 16;omega),if_pos (Yf (by omega) (by omega)),if_neg (by rw[decide_eq_true_iff];show¬m > 1125899906842624;omega)]
  ·unfold Wg;dsimp only;rw[if_neg (ynd (by omega))]
 ·intro k hk;obtain⟨e,he,hm⟩:=Zk hk;obtain⟨d,hd⟩:=ZBo (hcs e hm).1;have h4:=(hcs e hm).2.2.2.1;have hlt:¬(e.2.2.1 < (Tm d).2.2.2.2.1):=by show¬(e.2.2.1 < 1);omega
  unfold We;dsimp only;rw[if_pos (Z9 hk),Zp he,ya,ZI7 (hcs e hm),ya,if_neg (by decide)]
  have tail:((some e).bind λe169=>(some e).bind λe170=>if(inB (wi (1 - e170.1)) 2)=true then(c.2.2.2.1[(wi (1 - e170.1)).toNat]?).bind λe171=>if(decide (e169.2.2.1 < e171.2.2.2.2.1))=true then some (.inr (.inl (false,c,(no,[h0,h1],l,r)))) else some (.inl (wi ((k:Int)+1),c,(no,[h0,h1],l,r))) else none)=some (.inl (((k+1:Nat):Int),c,(no,[h0,h1],l,r)):(Int×ZE×State)⊕((Bool×ZE×State)⊕(ZE×State))):=by
   rw[ya,ya,if_pos (Zpd (hcs e hm).1),hT,hd,ya,if_neg (by rw[decide_eq_true_iff];exact hlt),Zs (by omega)]
  by_cases h0:k=0
  ·subst h0;rw[if_neg (ynd (by omega))];exact tail
  ·obtain⟨f,hf,hfm⟩:=Zk (l:=l) (k:=k - 1) (by omega)
   have hah:Ahd f e:=by
    have h7:=List.pairwise_iff_getElem.1 hsr (k - 1) k (by omega) hk (by omega);rw[yac (by omega)] at hf he;cases hf;cases he;exact h7
   rw[if_pos (decide_eq_true (by omega)),Zz (z:=(k:Int) - 1) (by omega) (by omega),show(k:Int) - 1=((k - 1:Nat):Int) by omega,Zp hf,ya,ya,ZvU,ya,decide_eq_true hah,if_neg (by decide)];exact tail
 ·unfold We;dsimp only;rw[if_neg (by rw[ZW];decide)]
theorem ZvX{lo hi:Int}{l:List Int}(hl:l.length≤100)(h:∀x,x∈l→lo≤x∧x≤hi):YR fuel lo hi l=some true:=by
 unfold YR X0 WG;rw[show(l,(l.length:Int),(0:Int),lo,hi)=(λk:Nat=>(l,(l.length:Int),(k:Int),lo,hi)) 0 from rfl,ZN (x:=.inr (lo,hi)) l.length (λk:Nat=>(l,(l.length:Int),(k:Int),lo,hi)) ?_ ?_ (by omega),ya]
 ·rfl
 ·intro k hk;obtain⟨e,he,hm⟩:=Zk hk;have:=h e hm;unfold YX Zd9;dsimp only;rw[if_pos (Z9 hk),Zp he,ya,if_neg (ynd (by omega)),ya,decide_eq_false (by omega),if_neg (by simp),Zs (by omega)]
 ·unfold YX;dsimp only;rw[if_neg (by rw[ZW];decide)]
theorem w1{lo hi z:Int}(h1:lo≤z)(h2:z≤hi):YR fuel lo hi [z]=some true:=ZvX (by simp) λx hx=>by rw[yan.1 hx];exact⟨h1,h2⟩
theorem tin{z a b:Int}(h1:a≤z)(h2:z≤b):Xl fuel z a b=some true:=by
 unfold Xl;rw[if_pos (decide_eq_true h1),decide_eq_true h2]
theorem ZGJ{d:Int}(h1:1≤d)(h2:d≤4096):ZeY fuel (Tm d)=some true:=by
 unfold ZeY Tm;dsimp only;rw[tin (by omega) (by omega),ya,if_pos rfl,tin h1 h2,ya,if_pos rfl,tin (by omega) (by omega),ya,if_pos rfl,tin (by omega) (by omega),ya,if_pos rfl,tin (by omega) (by omega),ya,if_pos rfl,tin (by omega) (by omega)];rfl
theorem ZCK{k:Kit}(h:KitOk k):Zdc fuel (ZY k)=some true:=by
 unfold Zdc Zhq ZbM;have hb:=ZnD h;generalize hl:([(ZY k).1,(ZY k).2.1,(ZY k).2.2.1,(ZY k).2.2.2.1,(ZY k).2.2.2.2]:List UInt64)=l at*;have h5:l.length=5:=by rw[←hl];rfl
 rw[show(l,(l.length:Int),(0:Int))=(λk:Nat=>(l,(l.length:Int),(k:Int))) 0 from rfl,ZN (x:=.inr ()) l.length (λk:Nat=>(l,(l.length:Int),(k:Int))) ?_ ?_ (by omega),ya]
 ·rfl
 ·intro k hk;obtain⟨e,he,hm⟩:=Zk hk;obtain⟨x,hx,rfl⟩:=hb e hm;unfold WT Zd8;dsimp only;rw[if_pos (Z9 hk),Zp he,ya,if_neg (by rw[beq_iff_eq];exact ZCJ hx),ZaE,ya,decide_eq_true (Zo9 _),ya,Zs (by omega)];rfl
 ·unfold WT;dsimp only;rw[if_neg (by rw[ZW];decide)]
theorem ZMt{A:Int}{k0 k1:Kit}{op:Int}(h:ChOk A k0 k1 op):ZiV fuel (Z7 A k0 k1 op)=some 0:=by
 obtain⟨h1,h2,h3,h4,h5⟩:=h;have hA:(Z7 A k0 k1 op).2.1=A:=rfl;have hN:(Z7 A k0 k1 op).1.2=0:=rfl;have hO:(Z7 A k0 k1 op).2.2.2.2=op:=rfl;have hT:(Z7 A k0 k1 op).2.2.2.1=[Tm 5,Tm 6]:=rfl;have hB:(Z7 A k0 k1 op).2.2.1=[ZY k0,ZY k1]:=rfl;unfold ZiV;rw[hA,hN,hO,if_neg (ynd (by omega)),if_neg (ynd (by omega)),if_neg (by decide),if_neg (by decide),if_neg (by rcases h3 with rfl|rfl <;> decide)];generalize hc:Z7 A k0 k1 op=c at*;rw[hT,show(([Tm 5,Tm 6]:List ZbJ),(0:Int),c)=(λk:Nat=>(([Tm 5,Tm 6]:List ZbJ),(k:Int),c)) 0 from rfl,ZN (x:=.inr c) 2 (λk:Nat=>(([Tm 5,Tm 6]:List ZbJ),(k:Int),c)) ?_ ?_ (by omega),ya]
 ·dsimp only;rw[hT];rw[show([Tm 5,Tm 6]:List ZbJ)[0]? =some (Tm 5) from rfl,ya,show([Tm 5,Tm 6]:List ZbJ)[1]? =some (Tm 6) from rfl,ya]
  show(ybc (Zh6 fuel 200 200) _)=some 0;rw[ZCG (by omega) (by omega) (by omega),ya,if_neg (by decide),hA,if_neg (by rw[decide_eq_true_iff];show¬(200+200 > A);omega)]
 ·intro k hk;unfold Zdd;dsimp only;rw[if_pos (decide_eq_true (by omega)),hB]
  match k,hk with
  |0,_=>
   rw[ZeV (i:=((0:Nat):Int)) (y:=Tm 5) (by omega) rfl,ya,ZGJ (by omega) (by omega),ya,if_neg (by decide),if_pos (by decide)];show(ybc (some (ZY k0)) _)=_;rw[ya,ZCK h4,ya,if_neg (by decide)]
   rfl
  |1,_=>
   rw[ZeV (i:=((1:Nat):Int)) (y:=Tm 6) (by omega) rfl,ya,ZGJ (by omega) (by omega),ya,if_neg (by decide),if_pos (by decide)];show(ybc (some (ZY k1)) _)=_;rw[ya,ZCK h5,ya,if_neg (by decide)];rfl
 ·unfold Zdd;dsimp only;rw[if_neg (ynd (by omega))]
theorem ZLO{c:Cond}(h:CondIn c):Zg1 fuel c=some true:=by
 obtain⟨h1,h2,h3,h4,h5,h6,h7,h8,h9⟩:=h;unfold Zg1;rw[w1 (by omega) (by omega),ya,if_pos rfl,w1 h2 h3,ya,if_pos rfl,w1 h4 (by omega),ya,if_pos rfl,w1 h8 (by omega),ya,if_pos rfl,ZaE,ya,if_pos (decide_eq_true h6)];exact congrArg some (bne_iff_ne.2 h7)
theorem Zt8(a b:Int):Vy fuel a b=some (if a < b then-1 else if a > b then 1 else 0):=by
 unfold Vy ZbN;rw[ya,ya];have e:∀z:Int,(z !=z)=false:=λz=>by simp
 rw[e,e,if_neg (by decide),if_neg (by decide)];by_cases h1:a < b
 ·rw[if_pos (decide_eq_true h1),if_pos h1]
 ·rw[if_neg (by rw[decide_eq_true_iff];exact h1),if_neg h1];by_cases h2:a > b
  ·rw[if_pos (decide_eq_true h2),if_pos h2]
  ·rw[if_neg (by rw[decide_eq_true_iff];exact h2),if_neg h2]
def orL:List Int→Int
 |[]=>0
 |z::r=>if z≠0 then z else orL r
theorem ZLP{l:List Int}(hl:l.length≤100):Zg2 fuel l=some (orL l):=by
 have key:∀(d k f:Nat),k+d=l.length→d < f→∃x,Zb (Vx fuel) f ((0:Int),l,(l.length:Int),(k:Int))=some x∧(x=.inl (orL (l.drop k))∨x=.inr 0∧orL (l.drop k)=0):=by
  intro d
  induction d with
  |zero=>
   intro k f h hf;obtain⟨f,rfl⟩:=Nat.exists_eq_succ_of_ne_zero (n:=f) (by omega);have:k=l.length:=by omega
   subst this;unfold Zb Vx;dsimp only;rw[if_neg (by rw[ZW];decide),ya]
   exact⟨_,rfl,.inr ⟨rfl,by rw[List.drop_length];rfl⟩⟩
  |succ d ih=>
   intro k f h hf;obtain⟨f,rfl⟩:=Nat.exists_eq_succ_of_ne_zero (n:=f) (by omega);have hk:k < l.length:=by omega
   obtain⟨e,he,hm⟩:=Zk hk
   have hd:l.drop k=e::l.drop (k+1):=by
    rw[List.drop_eq_getElem_cons hk];rw[yac hk] at he;cases he;rfl
   rw[hd];unfold Zb Vx;dsimp only;rw[if_pos (Z9 hk),Zp he,ya];by_cases h0:e=0
   ·subst h0;rw[if_neg (by decide),ya,Zs (by omega)];exact ih (k+1) f (by omega) (by omega)
   ·rw[if_pos (bne_iff_ne.2 h0),ya];exact⟨_,rfl,.inl (by unfold orL;rw[if_pos h0])⟩
 unfold Zg2;obtain⟨x,h1,h2⟩:=key l.length 0 fuel (by omega) (by rw[Zda];omega);rw[List.drop_zero] at h2;show ybc (Zb (Vx fuel) fuel ((0:Int),l,(l.length:Int),((0:Nat):Int))) _=_;rw[h1,ya];rcases h2 with rfl|⟨rfl,h2⟩
 ·rfl
 ·rw[h2]
theorem ZKE{a b:Cond}(h:Ahd a b):∃z,Ze0 fuel a b=some z∧z < 0:=by
 unfold Ze0;rw[Zt8,ya,Zt8,ya,ZLP (by simp),ya];refine⟨_,rfl, ?_⟩;unfold Ahd at h;have e2:∀x y:Int,orL [x,y]=if x≠0 then x else if y≠0 then y else 0:=λ_ _=>rfl
 rw[e2];by_cases h1:a.1 < b.1
 ·rw[if_pos h1,if_pos (by decide)];decide
 ·have e:a.1=b.1:=by omega
  rw[if_neg h1,if_neg (show¬a.1 > b.1 by omega),if_neg (by decide),if_pos (show a.2.1 < b.2.1 by omega)];decide
theorem ZMu{r:Int}{n:Nat}(h0:0≤r)(h1:r≤7)(h2:n≤16):ZiW fuel r (n:Int)=some (r*(68+8*(n:Int))):=by
 have:=ZxT (m:=68+8*(n:Int)) h0 h1 (by omega);unfold ZiW;rw[if_neg (ynd (by omega)),if_neg (ynd (by omega))];unfold Zhr;rw[if_neg (ynd (by omega)),if_neg (ynd (by omega)),ya,Zz (z:=8*(n:Int)) (by omega) (by omega),Zz (z:=68+8*(n:Int)) (by omega) (by omega),Zz (by omega) (by omega)]
theorem ZLQ{A:Int}{s:State}{h0 h1:Int}(h:StIn A s h0 h1)(ch:ZE):Zg4 fuel ch s=some (cost s.2.2.2 s.2.2.1.length):=by
 have:=Zpc h.r0 h.r1 h.len;unfold Zg4;unfold cost at*;rw[ZMu h.r0 h.r1 h.len,ya,Zz (by omega) (by omega)]
theorem ZKF{A:Int}{s:State}{h0 h1:Int}(h:StIn A s h0 h1)(hA:A≤4300000000):Ze1 fuel s=some A:=by
 obtain⟨no,hv,l,r⟩:=s;obtain⟨_,_,hh,p0,p1,_,_,hl,hc,_,ht⟩:=h;dsimp only at hh hl hc ht;subst hh;unfold Ze1;show ybc (some h0) _=_;rw[ya];show ybc (some h1) _=_;have hb:=λk=>Zt7 hc k;have hb':=Zl5 hc;dsimp only
 rw[ya,Zz (z:=h0+h1) (by omega) (by omega),show(h0+h1,l,(l.length:Int),(0:Int),(no,[h0,h1],l,r))=(λk:Nat=>(h0+h1+amtC (l.take k),l,(l.length:Int),(k:Int),(no,[h0,h1],l,r))) 0 by simp[amtC],
  ZN (x:=(A,(no,[h0,h1],l,r))) l.length (λk:Nat=>(h0+h1+amtC (l.take k),l,(l.length:Int),(k:Int),(no,[h0,h1],l,r))) ?_ ?_ (by omega),ya]
 ·intro k hk;obtain⟨e,he,hm⟩:=Zk hk;have h1:=hb k;have h2:=hb (k+1);have h3:=ZvV he;unfold ZaL;dsimp only;rw[if_pos (Z9 hk),Zp he,ya,Zz (by omega) (by omega),Zs (by omega),h3,Int.add_assoc]
 ·unfold ZaL;dsimp only;rw[if_neg (by rw[ZW];decide),ybk,ht]
theorem ZMv{A:Int}{s:State}{h0 h1:Int}(h:StIn A s h0 h1){to:Int}(ht:to=0∨to=1):∃n m,ZbO fuel s to=some (n,m)∧0≤n∧n≤16∧0≤m∧m≤2000000:=by
 obtain⟨no,hv,l,r⟩:=s;have hl:=h.len;have hc:=h.cs;dsimp only at hl hc;unfold ZbO;dsimp only
 obtain⟨x,g1,n,m,rfl,g2⟩:=Yk (step:=WU fuel) l.length (λk q=>∃n m,q=(to,n,m,l,(l.length:Int),(k:Int),(no,hv,l,r))∧0≤n∧n≤(k:Int)∧0≤m∧m≤65536*(k:Int)) (λx=>∃n m,x=(n,m,(no,hv,l,r))∧0≤n∧n≤16∧0≤m∧m≤2000000) (i:=(to,(0:Int),(0:Int),l,(l.length:Int),(0:Int),(no,hv,l,r))) ⟨0,0,rfl,by omega⟩ (by omega) (by
  rintro k _ hk ⟨n,m,rfl,q⟩;left;obtain⟨e,he,hm⟩:=Zk hk;have h4:=(hc e hm).2.2.2.1;have h5:=(hc e hm).2.2.2.2.1;unfold WU;dsimp only;rw[if_pos (Z9 hk),Zp he,ya,Zs (by omega)];split
  ·rw[Zz (z:=n+1) (by omega) (by omega),Zz (z:=m+e.2.2.1) (by omega) (by omega)];exact⟨_,rfl,_,_,rfl,by omega⟩
  ·exact⟨_,rfl,_,_,rfl,by omega⟩) (by
  rintro _ ⟨n,m,rfl,q⟩;unfold WU;dsimp only;rw[if_neg (by rw[ZW];decide)];exact⟨_,rfl,_,_,rfl,by omega⟩)
 rw[g1,ya];exact⟨_,_,rfl,g2⟩
theorem ZKG{A:Int}{k0 k1:Kit}{op:Int}(h:ChOk A k0 k1 op){s:State}{h0 h1:Int}(hs:StIn A s h0 h1):Ze2 fuel (Z7 A k0 k1 op) s=some (decide (hav op h0 h1 ≥ cost s.2.2.2 s.2.2.1.length)):=by
 have hT:(Z7 A k0 k1 op).2.2.2.1=[Tm 5,Tm 6]:=rfl;have hA:(Z7 A k0 k1 op).2.1=A:=rfl;have hO:(Z7 A k0 k1 op).2.2.2.2=op:=rfl;have hlo:=h.lo;have hhi:=h.hi;have hco:=ZLQ hs (Z7 A k0 k1 op);have hto:=ZKF hs h.hi;have hof:=λto ht=>ZMv hs (to:=to) ht;have hb:=Zl5 hs.cs;unfold Ze2;rw[ZMt h,ya,if_neg (by decide)];generalize hc:Z7 A k0 k1 op=c at*;obtain⟨no,hv,l,r⟩:=s;obtain⟨n0,n1,hh,p0,p1,r0,r1,hl,hcs,hsr,ht⟩:=hs;dsimp only at n0 n1 hh p0 p1 r0 r1 hl hcs hsr ht hb;subst hh;dsimp only;rw[w1 n0 (by omega),ya,if_neg (by decide)];show ybc (some h0) _=_;rw[ya];show ybc (some h1) _=_
 rw[ya,ZvX (l:=[h0,h1]) (by simp) (by
  intro x hx;simp only[ybt,yct,or_false] at hx;rcases hx with rfl|rfl <;> omega),ya,if_neg (by decide),w1 r0 (by omega),ya,if_neg (by decide),if_neg (ynd (by omega))]
 rw[show(l,(l.length:Int),(0:Int),c,(no,[h0,h1],l,r))=(λk:Nat=>(l,(l.length:Int),(k:Int),c,(no,[h0,h1],l,r))) 0 from rfl,ZN (x:=.inr (c,(no,[h0,h1],l,r))) l.length (λk:Nat=>(l,(l.length:Int),(k:Int),c,(no,[h0,h1],l,r))) ?_ ?_ (by omega),ya]
 ·dsimp only;rw[show(c.2.2.2.1,(0:Int),c,(no,[h0,h1],l,r))=(λk:Nat=>(c.2.2.2.1,(k:Int),c,(no,[h0,h1],l,r))) 0 from rfl,ZN (x:=.inr (c,(no,[h0,h1],l,r))) 2 (λk:Nat=>(c.2.2.2.1,(k:Int),c,(no,[h0,h1],l,r))) ?_ ?_ (by omega),ya]
  ·dsimp only;rw[hto,ya,hA,if_pos (beq_self_eq_true _),hO,if_pos (YD h.o),Zdo h.o,ya,hco,ya]
  ·intro k hk;obtain⟨n,m,e1,e2,e3,e4,e5⟩:=hof (k:Int) (by omega)
   have ht:∃d,c.2.2.2.1[k]? =some (Tm d):=by
    rw[hT]
    match k,hk with
    |0,_=>exact⟨_,rfl⟩
    |1,_=>exact⟨_,rfl⟩
   obtain⟨d,hd⟩:=ht;unfold ZaN;dsimp only;rw[if_pos (decide_eq_true (by omega)),Zp hd,ya,e1,ya,Zs (by omega)];rw[if_neg (by rw[decide_eq_true_iff];show¬n > 16;omega),if_neg (by rw[decide_eq_true_iff];show¬m > 1125899906842624;omega)]
  ·unfold ZaN;dsimp only;rw[if_neg (ynd (by omega))]
 ·intro k hk;obtain⟨e,he,hm⟩:=Zk hk;obtain⟨d,hd⟩:=ZBo (hcs e hm).1;have h4:=(hcs e hm).2.2.2.1;have hlt:¬(e.2.2.1 < (Tm d).2.2.2.2.1):=by show¬(e.2.2.1 < 1);omega
  unfold ZaM;dsimp only;rw[if_pos (Z9 hk),Zp he,ya,ZLO (hcs e hm),ya,if_neg (by decide),if_pos (Zpd (hcs e hm).1),hT,hd,ya,if_neg (by rw[decide_eq_true_iff];exact hlt),Zs (by omega)];by_cases h0:k=0
  ·subst h0;rw[if_neg (ynd (by omega))]
  ·obtain⟨f,hf,hfm⟩:=Zk (l:=l) (k:=k - 1) (by omega)
   have hah:Ahd f e:=by
    have h7:=List.pairwise_iff_getElem.1 hsr (k - 1) k (by omega) hk (by omega);rw[yac (by omega)] at hf he;cases hf;cases he;exact h7
   obtain⟨z,hz,hz0⟩:=ZKE hah;rw[if_pos (decide_eq_true (by omega)),Zz (z:=(k:Int) - 1) (by omega) (by omega),show(k:Int) - 1=((k - 1:Nat):Int) by omega,Zp hf,ya,hz,ya,if_neg (ynd (by omega))]
 ·unfold ZaM;dsimp only;rw[if_neg (by rw[ZW];decide)]
theorem ZhN{α:Type}{c:Prop}[Decidable c]{a b:Option α}{P:α→Prop}(h1:c→∃x,a=some x∧P x)(h2:¬c→∃x,b=some x∧P x):∃x,(if c then a else b)=some x∧P x:=by
 by_cases h:c
 ·rw[if_pos h];exact h1 h
 ·rw[if_neg h];exact h2 h
def ins(c:Cond):List Cond→List Cond
 |[]=>[c]
 |e::r=>if Ahd c e then c::e::r else e::ins c r
theorem ZrZ{c x:Cond}:∀{l:List Cond},x∈ins c l↔x=c∨x∈l
 |[]=>by simp[ins]
 |e::r=>by
  rw[ins];split
  ·simp
  ·rw[ybt,ZrZ (l:=r),ybt];constructor
   ·rintro(h|h|h) <;> simp[h]
   ·rintro(h|h|h) <;> simp[h]
theorem Zr0{c:Cond}:∀{l:List Cond},(ins c l).length=l.length+1
 |[]=>rfl
 |e::r=>by
  rw[ins];split
  ·rfl
  ·rw[yae,Zr0 (l:=r),yae]
theorem ZvY(c:Cond)(l:List Cond):amtC (c::l)=c.2.2.1+amtC l:=rfl
theorem ZCL{c:Cond}:∀{l:List Cond},amtC (ins c l)=c.2.2.1+amtC l
 |[]=>rfl
 |e::r=>by
  rw[ins];split
  ·rfl
  ·rw[ZvY,ZCL (l:=r),ZvY];omega
theorem ZCM{c:Cond}:∀{l:List Cond},l.Pairwise Ahd→(∀e,e∈l→c.2.1≠e.2.1)→(ins c l).Pairwise Ahd
 |[],_,_=>by simp[ins]
 |e::r,h,hd=>by
  obtain⟨h1,h2⟩:=List.pairwise_cons.1 h;rw[ins];split
  ·rename_i ha;refine List.pairwise_cons.2 ⟨?_,h⟩;intro x hx;rcases ybt.1 hx with rfl|hx
   ·exact ha
   ·exact ZD9 ha (h1 x hx)
  ·rename_i ha;refine List.pairwise_cons.2 ⟨?_,ZCM h2 λx hx=>hd x (yay _ hx)⟩;intro x hx;rcases ZrZ.1 hx with rfl|hx
   ·exact ZKC (hd e (yau ..)) ha
   ·exact h1 x hx
theorem ZLR{s:State}{h0 h1:Int}(hv:s.2.1=[h0,h1])(hl:s.2.2.1.length≤16){c:Cond}(hc:CondIn c):VY fuel s c=some (s.1,([h0,h1]:List Int).set c.1.toNat (wi (hav c.1 h0 h1 - c.2.2.1)),ins c s.2.2.1,s.2.2.2):=by
 obtain⟨no,hh,l,r⟩:=s;dsimp only at hv hl;subst hv;unfold VY;dsimp only
 obtain⟨x,g1,d,o,rfl,g2,g3,g4⟩:=Yk (step:=XE fuel) l.length (λk q=>∃d o,q=(d,(k:Int),(no,[h0,h1],l,r),c,((0:Int),([0,0]:List Int),([]:List Cond),(0:Int)),no,[h0,h1],r,o)∧o.length≤2*k∧(d=true→ins c l=o++l.drop k)∧(d=false→ins c l=o++ins c (l.drop k)))
  (λx=>∃d o,x=(d,(no,[h0,h1],l,r),c,((0:Int),([0,0]:List Int),([]:List Cond),(0:Int)),no,[h0,h1],r,o)∧o.length≤40∧(d=true→ins c l=o)∧(d=false→ins c l=o++[c]))
  (i:=(false,(0:Int),(no,[h0,h1],l,r),c,((0:Int),([0,0]:List Int),([]:List Cond),(0:Int)),no,[h0,h1],r,([]:List Cond))) ⟨_,_,rfl,by simp,(λh=>by cases h),λ_=>rfl⟩ (by omega) (by
  rintro k _ hk ⟨d,o,rfl,q1,q2,q3⟩;left;obtain⟨e,he,hm⟩:=Zk hk
  have hd:l.drop k=e::l.drop (k+1):=by
   rw[List.drop_eq_getElem_cons hk];rw[yac hk] at he;cases he;rfl
  rw[hd] at q2 q3;unfold XE;dsimp only;rw[if_pos (Z9 hk),Zp he,ya,Zs (by omega),ZvU]
  cases d with
  |false=>
   rw[if_pos (by decide),ya];have q3:=q3 rfl;rw[ins] at q3;by_cases ha:Ahd c e
   ·rw[if_pos (decide_eq_true ha),if_pos (Z2 (by omega) (by omega)),ya,if_pos (Z2 (by simp;omega) (by simp;omega))];rw[if_pos ha] at q3;exact⟨_,rfl,_,_,rfl,by simp;omega,(λ_=>by rw[q3];simp),λh=>by cases h⟩
   ·rw[if_neg (by rw[decide_eq_true_iff];exact ha),ya,if_pos (Z2 (by omega) (by omega))];rw[if_neg ha] at q3
    exact⟨_,rfl,_,_,rfl,by simp;omega,λh=>(by cases h),λ_=>by rw[q3];simp⟩
  |true=>
   have q2:=q2 rfl;rw[if_neg (by decide),ya,if_pos (Z2 (by omega) (by omega))];exact⟨_,rfl,_,_,rfl,by simp;omega,(λ_=>by rw[q2];simp),λh=>by cases h⟩) (by
  rintro _ ⟨d,o,rfl,q1,q2,q3⟩;rw[List.drop_length] at q2 q3;unfold XE;dsimp only;rw[if_neg (by rw[ZW];decide)];exact⟨_,rfl,_,_,rfl,by omega,(λh=>by rw[q2 h,ybi]),λh=>by rw[q3 h];rfl⟩)
 rw[g1,ya];dsimp only
 cases d with
 |true=>
  rw[if_neg (by decide),if_pos (YD hc.1),Zdo hc.1,ya,if_pos (YD hc.1),ya,g3 rfl]
 |false=>
  rw[if_pos (by decide),if_pos (Z2 (by omega) (by omega)),if_pos (YD hc.1),Zdo hc.1,ya,if_pos (YD hc.1),ya,g4 rfl]
theorem ZKH{s:State}(hl:s.2.2.1.length≤16)(f i:Int):∃z,Vq fuel s f i=some z:=by
 obtain⟨no,hh,l,r⟩:=s;dsimp only at hl;unfold Vq
 obtain⟨x,g1,_⟩:=Yk (step:=Xt fuel) l.length (λk q=>q=(f,i,(k:Int),(no,hh,l,r))) (λ_=>True) (i:=(f,i,(0:Int),(no,hh,l,r))) rfl (by omega) (by
  rintro k _ hk rfl;obtain⟨e,he,hm⟩:=Zk hk;unfold Xt;dsimp only;rw[if_pos (Z9 hk),Zp he,ya,ya,Zs (by omega)];split
  ·split
   ·right;exact⟨_,rfl,ytt⟩
   ·left;exact⟨_,rfl,rfl⟩
  ·left;exact⟨_,rfl,rfl⟩) (by
  rintro _ rfl;unfold Xt;dsimp only;rw[if_neg (by rw[ZW];decide)];exact⟨_,rfl,ytt⟩)
 rw[g1,ya];cases x <;> exact⟨_,rfl⟩
structure StOk(A op:Int)(s:State):Prop where
 ex:∃h0 h1,StIn A s h0 h1∧hav op h0 h1 ≥ cost s.2.2.2 s.2.2.1.length
theorem ZMw{A:Int}{k0 k1:Kit}{op:Int}(h:ChOk A k0 k1 op){s:State}(hs:StOk A op s){c:Cond}(hc:CondIn c)(hd:∀e,e∈s.2.2.1→c.2.1≠e.2.1):
 ∃x,Qs fuel (Z7 A k0 k1 op) s c=some x∧(x.2=0→StOk A op x.1∧x.1.2.2.1=ins c s.2.2.1∧x.1.1=s.1):=by
 obtain⟨h0,h1,hs,ho⟩:=hs;have hT:(Z7 A k0 k1 op).2.2.2.1=[Tm 5,Tm 6]:=rfl;have hO:(Z7 A k0 k1 op).2.2.2.2=op:=rfl;obtain⟨d,hd1⟩:=ZBo hc.1;obtain⟨z,hz⟩:=ZKH hs.len c.1 c.2.1;obtain⟨n,m,e1,e2,e3,e4,e5⟩:=ZLN hs (to:=wi (1 - c.1)) (by rcases hc.1 with h|h <;> rw[h] <;> decide);have hlo:=h.lo;have hhi:=h.hi;have c4:=hc.2.2.2.1;have c5:=hc.2.2.2.2.1;have hb:=Zl5 hs.cs;have hht:=hs.tot;have p0:=hs.p0;have p1:=hs.p1;have hl:=hs.len;unfold Qs;rw[ZvW h hs,ya,ZI7 hc,ya,decide_eq_true ho,if_neg (by decide),if_neg (by decide),hz,ya];refine ZhN (λ_=>⟨_,rfl,λh=>absurd h (by decide)⟩) λ_=> ?_;rw[if_pos (Zpd hc.1),hT,hd1,ya,e1,ya];refine ZhN (λ_=>⟨_,rfl,λh=>absurd h (by decide)⟩) λ_=> ?_;refine ZhN (λ_=>⟨_,rfl,λh=>absurd h (by decide)⟩) λh16=> ?_
 have h16:s.2.2.1.length≤15:=by
  rw[beq_iff_eq] at h16;omega
 refine ZhN (λ_=>⟨_,rfl,λh=>absurd h (by decide)⟩) λ_=> ?_;dsimp only;refine ZhN (λ_=>⟨_,rfl,λh=>absurd h (by decide)⟩) λ_=> ?_
 have hav0:∀i:Int,0≤hav i h0 h1∧hav i h0 h1≤A:=by
  intro i;unfold hav;split <;> omega
 have hwi:wi (hav c.1 h0 h1 - c.2.2.1)=hav c.1 h0 h1 - c.2.2.1:=Zz (by have:=hav0 c.1;omega) (by have:=hav0 c.1;omega);rw[ZLR hs.hv hs.len hc,ya,hwi]
 obtain⟨g0,g1,hg,hg2⟩:∃g0 g1:Int,([h0,h1]:List Int).set c.1.toNat (hav c.1 h0 h1 - c.2.2.1)=[g0,g1]∧(g0+g1=h0+h1 - c.2.2.1∧(hav c.1 g0 g1=hav c.1 h0 h1 - c.2.2.1)∧(c.1=0→g1=h1)∧(c.1=1→g0=h0)):=by
  rcases hc.1 with h|h
  ·rw[h];exact⟨_,_,rfl,by unfold hav;simp;omega⟩
  ·rw[h];exact⟨_,_,rfl,by unfold hav;simp;omega⟩
 rw[hg]
 have hcost:Y2 fuel (Z7 A k0 k1 op) (s.1,[g0,g1],ins c s.2.2.1,s.2.2.2)=some (cost s.2.2.2 (ins c s.2.2.1).length):=by
  have:=Zpc (n:=(ins c s.2.2.1).length) hs.r0 hs.r1 (by rw[Zr0];omega);unfold Y2;unfold cost at*;dsimp only;rw[ZLL hs.r0 hs.r1 (by show(ins c s.2.2.1).length≤16;rw[Zr0];omega),ya,Zz (by omega) (by omega)]
 rw[hcost,ya,if_pos (YD hc.1),Zdo hc.1,ya];refine ZhN (λ_=>⟨_,rfl,λh=>absurd h (by decide)⟩) λhneg=> ?_;rw[hO,if_pos (YD h.o),Zdo h.o,ya];refine ZhN (λ_=>⟨_,rfl,λh=>absurd h (by decide)⟩) λhcst=> ?_;rw[decide_eq_true_iff] at hneg hcst
 have fin:StOk A op (s.1,[g0,g1],ins c s.2.2.1,s.2.2.2):=by
  refine⟨g0,g1,⟨hs.n0,hs.n1,rfl, ?_, ?_,hs.r0,hs.r1,by show(ins c s.2.2.1).length≤16;rw[Zr0];omega, ?_,ZCM hs.srt hd, ?_⟩,by show hav op g0 g1 ≥ cost s.2.2.2 (ins c s.2.2.1).length;omega⟩
  ·rcases hc.1 with h|h
   ·rw[h] at hneg;unfold hav at hneg;simp at hneg;omega
   ·have:=hg2.2.2.2 h;omega
  ·rcases hc.1 with h|h
   ·have:=hg2.2.2.1 h;omega
   ·rw[h] at hneg;unfold hav at hneg;simp at hneg;omega
  ·intro x hx;rcases ZrZ.1 hx with rfl|hx
   ·exact hc
   ·exact hs.cs x hx
  ·show g0+g1+amtC (ins c s.2.2.1)=A;rw[ZCL];omega
 rw[if_pos (YD hc.1),ya];exact ZhN (λ_=>ZhN (λ_=>⟨_,rfl,λh=>absurd h (by decide)⟩) λ_=>⟨_,rfl,λ_=>⟨fin,rfl,rfl⟩⟩) λ_=>ZhN (λ_=>⟨_,rfl,λh=>absurd h (by decide)⟩) λ_=>⟨_,rfl,λ_=>⟨fin,rfl,rfl⟩⟩
theorem ZEa(n:UInt64):∃o,VT fuel n=some o∧o.length=8:=by
 unfold VT
 obtain⟨x,h1,h2⟩:=Yk (step:=XA fuel) 8 (λk s=>∃c,s=(n,56 - 8*(k:Int),c)∧c.length=k) (λx=>x.length=8) (i:=(n,(56:Int),([]:List UInt8))) ⟨_,rfl,rfl⟩ (by omega) (by
  rintro k _ hk ⟨c,rfl,hc⟩;left;unfold XA;dsimp only;rw[if_pos (decide_eq_true (by omega)),if_pos (decide_eq_true (by omega)),if_pos (Z2 (by omega) (by omega)),Zz (z:=56 - 8*(k:Int) - 8) (by omega) (by omega)];exact⟨_,rfl,_,by rw[show(56:Int) - 8*(k:Int) - 8=56 - 8*((k+1:Nat):Int) by omega],by simp[hc]⟩) (by
  rintro _ ⟨c,rfl,hc⟩;unfold XA;dsimp only;rw[if_neg (ynd (by omega))];exact⟨_,rfl,hc⟩)
 rw[h1,ya];exact⟨_,rfl,h2⟩
theorem ZBp(n:UInt64):∃o,Wz fuel n=some o∧o.length=8:=by
 unfold Wz
 obtain⟨x,h1,h2⟩:=Yk (step:=YU fuel) 8 (λk s=>∃c,s=(n,56 - 8*(k:Int),c)∧c.2.length=k) (λx=>x.2.length=8) (i:=(n,(56:Int),([]:List UInt8),([]:List UInt8))) ⟨_,rfl,rfl⟩ (by omega) (by
  rintro k _ hk ⟨c,rfl,hc⟩;left;unfold YU;dsimp only;rw[if_pos (decide_eq_true (by omega)),if_pos (decide_eq_true (by omega)),if_pos (Z2 (by omega) (by omega)),Zz (z:=56 - 8*(k:Int) - 8) (by omega) (by omega)];exact⟨_,rfl,_,by rw[show(56:Int) - 8*(k:Int) - 8=56 - 8*((k+1:Nat):Int) by omega],by simp[hc]⟩) (by
  rintro _ ⟨c,rfl,hc⟩;unfold YU;dsimp only;rw[if_neg (ynd (by omega))];exact⟨_,rfl,hc⟩)
 rw[h1,ya];exact⟨_,rfl,h2⟩
theorem ZGK{s:ByteArray}{ls:List (List UInt8)}(h1:s.size≤100)(h2:ls.length≤10)(h3:∀l,l∈ls→l.length≤60000):∃o,Qo fuel s ls=some o∧o.length=32:=by
 unfold Qo;obtain⟨o,p1,p2⟩:=ZBp (w64 (s.size:Int))
 have hsl:s.data.toList.length=s.size:=by
  rw[Array.length_toList];rfl
 rw[p1,ya,if_pos (decide_eq_true (by unfold maxLen;omega)),if_pos (Z2 (by rw[hsl,p2];omega) (by rw[hsl,p2];omega))]
 obtain⟨x,g1,b,rfl,g2⟩:=Yk (step:=Xa fuel) ls.length (λk q=>∃b,q=(ls,(k:Int),z32,b)∧b.length≤200+60100*k) (λx=>∃b,x=(z32,b)∧b.length≤700000) (i:=(ls,(0:Int),z32,o++s.data.toList)) ⟨_,rfl,by rw[yp,p2,hsl];omega⟩ (by omega) (by
  rintro k _ hk ⟨b,rfl,hb⟩;left;obtain⟨e,he,hm⟩:=Zk hk;have:=h3 e hm;obtain⟨q,q1,q2⟩:=ZEa (w64 (e.length:Int));unfold Xa;dsimp only;rw[if_pos (Z9 hk),Zp he,ya,q1,ya,if_pos (Z2 (by omega) (by omega)),ya,if_pos (Z2 (by rw[yp];omega) (by rw[yp];omega)),Zs (by omega)];exact⟨_,rfl,_,rfl,by simp only[yp];omega⟩) (by
  rintro _ ⟨b,rfl,hb⟩;unfold Xa;dsimp only;rw[if_neg (by rw[ZW];decide)];exact⟨_,rfl,_,rfl,by omega⟩)
 show∃o_1,(ybc (Zb (Xa fuel) fuel (ls,(0:Int),z32,o++s.data.toList)) λo85=>(XY fuel o85.2).bind λo86=>some o86)=some o_1∧o_1.length=32;rw[g1,ya,ZGu (by show b.length≤_;omega),ya];exact⟨_,rfl,Sha.ZL9 _⟩
theorem ZGL{h:List UInt8}(hl:h.length=32):∃o,WA fuel [] h=some o∧o.length=32:=by
 unfold WA;rw[if_pos (Z2 (by simp) (by simp))]
 obtain⟨x,g1,b,rfl,g2⟩:=Yk (step:=YV fuel) 32 (λk q=>∃b,q=((k:Int),h,b)∧b.length=k) (λx=>∃b,x=(h,b)∧b.length=32) (i:=((0:Int),h,([]:List UInt8))) ⟨_,rfl,rfl⟩ (by omega) (by
  rintro k _ hk ⟨b,rfl,hb⟩;left;obtain⟨e,he,hm⟩:=Zk (l:=h) (k:=k) (by omega);unfold YV;dsimp only;rw[if_pos (decide_eq_true (by omega)),if_pos (Yf (by omega) (by omega)),ybf,he,ya,if_pos (Z2 (by omega) (by omega)),Zs (by omega)];exact⟨_,rfl,_,rfl,by simp[hb]⟩) (by
  rintro _ ⟨b,rfl,hb⟩;unfold YV;dsimp only;rw[if_neg (ynd (by omega))];exact⟨_,rfl,_,rfl,hb⟩)
 rw[g1,ya];exact⟨_,rfl,g2⟩
theorem ZvZ{h:List UInt8}(hl:h.length=32)(n:UInt8):∃o,Yl fuel h n=some o∧o.length=32:=by
 unfold Yl;obtain⟨o,h1,h2⟩:=ZGL hl
 obtain⟨p,h3,h4⟩:=ZGK (s:=ZI6) (ls:=[o,[n]]) (by decide) (by simp) (by
  intro l hl;simp only[ybt,yct,or_false] at hl;rcases hl with rfl|rfl
  ·omega
  ·simp)
 rw[h1,ya,h3,ya];exact⟨_,rfl,h4⟩
theorem ZLS{h:List UInt8}(hl:h.length=32):∃k,WY fuel h=some k∧KitOk k:=by
 unfold WY;obtain⟨p1,a1,b1⟩:=ZvZ hl 1;obtain⟨p2,a2,b2⟩:=ZvZ hl 2;obtain⟨p3,a3,b3⟩:=ZvZ hl 3;obtain⟨p4,a4,b4⟩:=ZvZ hl 4;obtain⟨p5,a5,b5⟩:=ZvZ hl 5;obtain⟨p6,a6,b6⟩:=ZvZ hl 6;obtain⟨k1,c1,d1⟩:=Zlx b1;obtain⟨k2,c2,d2⟩:=Zlx b2;obtain⟨k3,c3,d3⟩:=Zlx b3;obtain⟨k4,c4,d4⟩:=Zlx b4;obtain⟨k5,c5,d5⟩:=Zlx b5;rw[a1,ya,c1,ya,a2,ya,c2,ya,a3,ya,c3,ya,a4,ya,c4,ya,a5,ya,c5,ya,a6,ya];exact⟨_,rfl,d1,d2,d3,d4,d5⟩
theorem ZCN(k:Kit):W2 fuel k=some (ZY k):=by
 unfold W2;rw[Zlw,ya,Zlw,ya,Zlw,ya,Zlw,ya,Zlw,ya];rfl
def Sec(o:W5):UInt64:=1+o.2.2.2 % 2305843009213688668
theorem ZIs(o:W5):Key (Sec o):=by
 have h:(o.2.2.2 % 2305843009213688668).toNat < 2305843009213688668:=by
  rw[UInt64.toNat_mod];exact Nat.mod_lt _ (by decide)
 have e:(Sec o).toNat=1+(o.2.2.2 % 2305843009213688668).toNat:=by
  unfold Sec;rw[UInt64.toNat_add,yah]
  ·rfl
  ·show 1+_ < _;omega
 unfold Key ord;omega
structure PlayOk(p:Corsnedlaw21Play):Prop where
 sl:p.1.length=2
 ss:∀h,h∈p.1→h.length=32
 ol:p.2.2.2.2.2.1.length≤9223372036854775807
 os:∀o,o∈p.2.2.2.2.2.1→0≤o.2.1∧o.2.1≤65535∧0≤o.2.2.1∧o.2.2.1≤65535
 n0:0≤p.2.2.2.2.2.2.1
 n1:p.2.2.2.2.2.2.1≤65535
 per:p.2.2.2.2.2.2.2.length=32
def ZGM(p:Corsnedlaw21Play)(k:Nat)(l:List Cond):Prop:=∀c,c∈l→1≤c.2.1∧c.2.1≤(k:Int)∧∃o,p.2.2.2.2.2.1[c.2.1.toNat - 1]? =some o∧c.2.2.2.1=B (Sec o).toNat
theorem ZBq(x:UInt8):(((x % 2).toNat:Nat):Int)=0∨(((x % 2).toNat:Nat):Int)=1:=by
 have:(x % 2).toNat=x.toNat % 2:=UInt8.toNat_mod ..;omega
theorem ZzH{A:Int}{k0 k1:Kit}{op:Int}(h:ChOk A k0 k1 op){p:Corsnedlaw21Play}(hp:PlayOk p){s:State}(hs:StOk A op s)(he:s.2.2.1=[])(a:ZE)(b:List Kit)(c:State)(ks:List Kit):
 ∃x,Zb (Yq fuel) fuel ((0:Int),p,a,b,c,ks,Z7 A k0 k1 op,s)=some x∧∃t,x=(p,a,b,c,ks,Z7 A k0 k1 op,t)∧StOk A op t∧ZGM p 20 t.2.2.1∧t.1=s.1:=by
 obtain⟨p1,p2,p3,p4,p5,of,p6,p7⟩:=p;have hol:=hp.ol;have hos:=hp.os;dsimp only at hol hos;refine Yk (step:=Yq fuel) 20 (λk q=>∃t,q=((k:Int),(p1,p2,p3,p4,p5,of,p6,p7),a,b,c,ks,Z7 A k0 k1 op,t)∧StOk A op t∧ZGM (p1,p2,p3,p4,p5,of,p6,p7) k t.2.2.1∧t.1=s.1) _ ⟨_,rfl,hs,by rw[he];intro c hc;simp at hc,rfl⟩ (by omega) ?_ ?_
 ·rintro k _ hk ⟨t,rfl,t1,t2,t3⟩
  have mono:∀{n m:Nat}{l:List Cond},n≤m→ZGM (p1,p2,p3,p4,p5,of,p6,p7) n l→ZGM (p1,p2,p3,p4,p5,of,p6,p7) m l:=λhnm ho c hc=>by
   obtain⟨q1,q2,q3⟩:=ho c hc;exact⟨q1,by omega,q3⟩
  unfold Yq;dsimp only;by_cases hkl:k < of.length
  ·left;obtain⟨o,ho,hom⟩:=Zk hkl;obtain⟨b1,b2,b3,b4⟩:=hos o hom
   have hc:CondIn (((o.1 % 2).toNat:Int),wi ((k:Int)+1),wi (1+wi o.2.1),B (Sec o).toNat,wi (1+wi o.2.2.1)):=by
    rw[Zs (by omega),Zz (z:=o.2.1) (by omega) (by omega),Zz (z:=1+o.2.1) (by omega) (by omega),Zz (z:=o.2.2.1) (by omega) (by omega),Zz (z:=1+o.2.2.1) (by omega) (by omega)];exact⟨ZBq _,by dsimp only;omega,by dsimp only;omega,by dsimp only;omega,by dsimp only;omega,Zo9 _,ZCJ (ZIs o),by dsimp only;omega,by dsimp only;omega⟩
   obtain⟨x,x1,x2⟩:=ZMw h t1 hc (by
    intro e he;have:=(t2 e he).2.1;rw[Zs (by omega)];dsimp only;omega)
   have hsec:QW fuel o=some (Sec o):=rfl;rw[if_pos (Z9 hkl),if_pos (decide_eq_true (by omega)),Zp ho,ya,hsec,ya,Zdn,ya,x1,ya];by_cases h0:x.2=0
   ·obtain⟨y1,y2,y3⟩:=x2 h0;rw[if_pos (by rw[h0];rfl),Zs (by omega)];refine⟨_,rfl,_,rfl,y1, ?_,by rw[y3,t3]⟩;rw[y2];intro c hc;rcases ZrZ.1 hc with rfl|hc
    ·rw[Zs (by omega)];refine⟨by dsimp only;omega,by dsimp only;omega,o, ?_,rfl⟩;dsimp only;rw[show((k+1:Nat):Int).toNat - 1=k by omega];exact ho
    ·exact mono (by omega) t2 c hc
   ·rw[if_neg (by rw[beq_iff_eq];exact h0),Zs (by omega)];exact⟨_,rfl,_,rfl,t1,mono (by omega) t2,t3⟩
  ·right;rw[if_neg (ynd (by omega))];exact⟨_,rfl,_,rfl,t1,mono (by omega) t2,t3⟩
 ·rintro _ ⟨t,rfl,t1,t2,t3⟩;unfold Yq;dsimp only;by_cases hkl:20 < of.length
  ·rw[if_pos (Z9 hkl),if_neg (ynd (by omega))];exact⟨_,rfl,_,rfl,t1,t2,t3⟩
  ·rw[if_neg (ynd (by omega))];exact⟨_,rfl,_,rfl,t1,t2,t3⟩
theorem ZzI(P:Corsnedlaw21Play)(a:ZE)(b:List Kit)(c:State)(k0 k1:Kit)(A op:Int):Zb (XF fuel) fuel ((0:Int),P,a,b,c,([k0,k1]:List Kit),((yzz,(0:Int)),A,([(0,0,0,0,0),(0,0,0,0,0)]:List Zal),([(0,0,0,0,0,0),(0,0,0,0,0,0)]:List ZbJ),op))=some (P,a,b,c,[k0,k1],Z7 A k0 k1 op):=by
 refine ZN 2 (λk:Nat=>((k:Int),P,a,b,c,([k0,k1]:List Kit),((z32,(0:Int)),A,([ZY k0,ZY k1]:List Zal).take k++([(0,0,0,0,0),(0,0,0,0,0)]:List Zal).drop k,([Tm 5,Tm 6]:List ZbJ).take k++([(0,0,0,0,0,0),(0,0,0,0,0,0)]:List ZbJ).drop k,op))) ?_ ?_ (by omega)
 ·intro k hk;unfold XF;dsimp only
  match k,hk with
  |0,_=>
   rw[if_pos (decide_eq_true (by omega)),if_pos (Yf (by omega) (by omega))];show ybc (some k0) _=_;rw[ya,ZCN,ya]
   rfl
  |1,_=>
   rw[if_pos (decide_eq_true (by omega)),if_pos (Yf (by omega) (by omega))];show ybc (some k1) _=_;rw[ya,ZCN,ya];rfl
 ·unfold XF;dsimp only;rw[if_neg (ynd (by omega))];rfl
theorem ZMx{p:Corsnedlaw21Play}(hp:PlayOk p):∃A k0 k1 op s,VZ fuel p=some (Z7 A k0 k1 op,[k0,k1],s)∧ChOk A k0 k1 op∧StOk A op s∧ZGM p 20 s.2.2.1:=by
 have hof:=λ{A:Int}{k0 k1:Kit}{op:Int}(h:ChOk A k0 k1 op){s:State}(hs:StOk A op s)(he:s.2.2.1=[])(a:ZE)(b:List Kit)(c:State)(ks:List Kit)=>ZzH h hp hs he a b c ks;have hn0:=hp.n0;have hn1:=hp.n1;obtain⟨sd,am,ow,ra,on,of,no,pr⟩:=p;dsimp only at hn0 hn1
 obtain⟨q0,q1,hsd⟩:∃q0 q1,sd=[q0,q1]:=by
  have:=hp.sl;dsimp only at this
  match sd,this with
  |[a,b],_=>exact⟨_,_,rfl⟩
 subst hsd;have hss:=hp.ss;obtain⟨k0,e0,f0⟩:=ZLS (hss q0 (by simp));obtain⟨k1,e1,f1⟩:=ZLS (hss q1 (by simp));have hop:=ZBq on;have ham:(am.toNat:Int)≤4294967295:=by have:=am.toNat_lt;omega
 unfold VZ;show∃A k0 k1 op s,ybc (some q0) _=_∧_;rw[ya,e0,ya];show∃A k0 k1 op s,ybc (some q1) _=_∧_;rw[ya,e1,ya];dsimp only;rw[Zz (z:=20000+(am.toNat:Int)) (by omega) (by omega)];generalize hA:20000+(am.toNat:Int)=A;generalize (((on % 2).toNat:Nat):Int)=op at hop;have hch:ChOk A k0 k1 op:=⟨by omega,by omega,hop,f0,f1⟩;rw[ZzI,ya];have hcA:(Z7 A k0 k1 op).2.1=A:=rfl;have hcO:(Z7 A k0 k1 op).2.2.2.2=op:=rfl;dsimp only;rw[hcA,hcO,Zz (z:=A+1) (by omega) (by omega),if_pos (bne_iff_ne.2 (by omega))]
 obtain⟨y,hy,hy0,hyA⟩:∃y,Int.tmod (ow.toNat:Int) (A+1)=y∧0≤y∧y≤A:=by
  refine⟨_,rfl, ?_, ?_⟩
  ·exact Int.tmod_nonneg _ (by omega)
  ·have:=Int.tmod_lt_of_pos (ow.toNat:Int) (b:=A+1) (by omega);omega
 rw[hy,Zz (z:=A - y) (by omega) (by omega),Zz (z:=no) (by omega) (by omega)]
 have hr8:(ra % 8).toNat < 8:=by
  rw[UInt8.toNat_mod];exact Nat.mod_lt _ (by decide)
 generalize hr:(((ra % 8).toNat:Nat):Int)=r;have hs0:StIn A (no,[y,A - y],[],r) y (A - y):=⟨hn0,hn1,rfl,hy0,by omega,by dsimp only;omega,by dsimp only;omega,by simp,λc hc=>(by simp at hc),List.Pairwise.nil,by show y+(A - y)+0=A;omega⟩;rw[show Xv fuel (Z7 A k0 k1 op) (no,[y,A - y],[],r)=some (decide (hav op y (A - y) ≥ cost r 0)) from ZvW hch hs0,ya]
 by_cases hco:hav op y (A - y) ≥ cost r 0
 ·rw[if_neg (by rw[decide_eq_true hco];decide)];obtain⟨x,x1,t,rfl,x2,x3,x4⟩:=hof hch (s:=(no,[y,A - y],[],r)) ⟨_,_,hs0,hco⟩ rfl _ _ _ _;rw[x1,ya];exact⟨A,k0,k1,op,t,rfl,hch,x2,x3⟩
 ·have hci:=Zpc (r:=r) (n:=0) (by omega) (by omega) (by omega);rw[if_pos (by rw[decide_eq_false hco];rfl),if_pos (YD hop),Zdo hop,ya,if_pos (Zpd hop)]
  obtain⟨g0,g1,e1,e2,e3⟩:∃g0 g1:Int,(([y,A - y]:List Int).set op.toNat A).set ((wi (1 - op)).toNat) 0=[g0,g1]∧(g0=A∧g1=0∧op=0∨g0=0∧g1=A∧op=1)∧∃z,((([y,A - y]:List Int).set op.toNat A)[(wi (1 - op)).toNat]?)=some z:=by
   rcases hop with rfl|rfl
   ·exact⟨_,_,rfl,.inl ⟨rfl,rfl,rfl⟩,_,rfl⟩
   ·exact⟨_,_,rfl,.inr ⟨rfl,rfl,rfl⟩,_,rfl⟩
  obtain⟨z,hz⟩:=e3;rw[hz,ya,e1];have hs1:StIn A (no,[g0,g1],[],r) g0 g1:=⟨hn0,hn1,rfl,by omega,by omega,by dsimp only;omega,by dsimp only;omega,by simp,λc hc=>(by simp at hc),List.Pairwise.nil,by show g0+g1+0=A;omega⟩
  have hco1:hav op g0 g1 ≥ cost r 0:=by
   unfold hav;rcases e2 with⟨u1,u2,u3⟩|⟨u1,u2,u3⟩
   ·rw[if_pos u3];omega
   ·rw[if_neg (by omega)];omega
  obtain⟨x,x1,t,rfl,x2,x3,x4⟩:=hof hch (s:=(no,[g0,g1],[],r)) ⟨_,_,hs1,hco1⟩ rfl _ _ _ _;rw[x1,ya];exact⟨A,k0,k1,op,t,rfl,hch,x2,x3⟩
def beF(l:List UInt8):Nat→Nat
 |0=>0
 |k+1=>beF l k*256+((l[k]?).map UInt8.toNat).getD 0
theorem ZGN(l:List UInt8):∀k,beF l k < 256 ^ k
 |0=>by simp[beF]
 |k+1=>by
  have:=ZGN l k
  have h:((l[k]?).map UInt8.toNat).getD 0 < 256:=by
   cases l[k]? with
   |none=>simp
   |some d=>exact d.toNat_lt
  rw[beF,Nat.pow_succ];omega
theorem ZCO(n:Nat):∀k,k≤8→n < 18446744073709551616→beF (Zqc n) k=n / 2 ^ (64 - 8*k)
 |0,_,h=>by rw[beF,Nat.div_eq_of_lt (by omega)]
 |k+1,hk,h=>by
  rw[beF,ZCO n k (by omega) h,ZzB n (by omega)];have e:(64 - 8*k)=(56 - 8*k)+8:=by omega
  have e2:64 - 8*(k+1)=56 - 8*k:=by omega
  rw[e,e2,Nat.pow_add, ←Nat.div_div_eq_div_mul];simp;omega
def ZlA(r:Zy)(n:Nat):List UInt8×Zy:=if r.2=true∨r.1.length < n then([],([],true)) else(r.1.take n,(r.1.drop n,r.2))
theorem ZCP{n:Nat}{z:Int}(h0:0≤z)(h:z≤(n:Int)):Zbt n (some z) none=true:=by simp[Zbt,h0,h]
theorem ZIt{n:Nat}{z:Int}(h0:0≤z)(h:z≤(n:Int)):Zbt n none (some z)=true:=by simp[Zbt,h0,h]
theorem ZzJ{l:List UInt8}(h:l.length≤1000000000):Ya fuel l=some l:=by
 unfold Ya;rw[if_pos (Z2 (by omega) (by omega))]
theorem ZIu{z:Int}{r:Zy}(h0:0≤z)(h:r.1.length≤2000000):Ql fuel z r=some (ZlA r z.toNat):=by
 obtain⟨b,no⟩:=r;obtain⟨n,rfl⟩:=Int.eq_ofNat_of_zero_le h0;unfold Ql ZlA WV;dsimp only at h ⊢;rw[ybf];by_cases h1:no=true
 ·rw[if_pos h1,ya,if_pos (.inl h1)]
 by_cases h2:b.length < n
 ·rw[if_neg h1,if_pos (decide_eq_true (by omega)),ya,if_pos (.inr h2)]
 rw[if_neg h1,if_neg (ynd (by omega)),if_pos (ZIt (by omega) (by omega)),ZzJ (by rw[yai];omega),ya,if_pos (ZCP (by omega) (by omega)),if_neg (by rintro(h|h);exact h1 h;exact h2 h)]
theorem ZEb(r:Zy)(n:Nat):(ZlA r n).1.length≤n∧(ZlA r n).2.1.length≤r.1.length:=by
 unfold ZlA;split
 ·simp
 ·simp;omega
theorem ZGO{b r:List UInt8}{n:Nat}(h:b.length=n):ZlA (b++r,false) n=(b,(r,false)):=by
 subst h;unfold ZlA;rw[if_neg (by simp)];simp
def ZIv(r:Zy):UInt64×Zy:=(yad (beF (ZlA r 8).1 (ZlA r 8).1.length),(ZlA r 8).2)
theorem ZGP{l:List UInt8}{k:Nat}{d:UInt8}(hk:k < 8)(hx:l[k]? =some d):(Qh (yad (beF l k)) 8)|||(yad d.toNat)=yad (beF l (k+1)):=by
 have h1:=ZGN l k;have h2:256 ^ k≤256 ^ 7:=Nat.pow_le_pow_right (by omega) (by omega);have h3:=d.toNat_lt;apply ycf.1;unfold Qh
 rw[UInt64.toNat_or,yba,yba,yba,yba,yah (a:=beF l k) (by omega),yah (a:=d.toNat) (by omega),yah (a:=beF l k*2 ^ 8) (by omega),beF,hx,
  ybj (beF l k) (2 ^ 8), ←ycx (by omega)]
 simp;omega
theorem ZCQ{r:Zy}(h:r.1.length≤2000000):Vz fuel r=some (ZIv r):=by
 unfold Vz ZIv;rw[ZIu (by omega) h,ya];have hl:=ZEb r 8;rw[show(8:Int).toNat=8 from rfl]
 generalize ZlA r 8=q at hl;obtain⟨l,s⟩:=q;dsimp only at hl ⊢
 rw[show((0:UInt64),l,(l.length:Int),(0:Int),s)=(λk:Nat=>(yad (beF l k),l,(l.length:Int),(k:Int),s)) 0 from rfl,
  ZN (x:=(yad (beF l l.length),s)) l.length (λk:Nat=>(yad (beF l k),l,(l.length:Int),(k:Int),s)) ?_ ?_ (by omega),ya]
 ·intro k hk;obtain⟨e,he,_⟩:=Zk hk;unfold Vj;dsimp only;rw[if_pos (Z9 hk),Zp he,ya,ZGP (by omega) he,Zs (by omega)]
 ·unfold Vj;dsimp only;rw[if_neg (by rw[ZW];decide)]
theorem ZCR(x:UInt64)(r:List UInt8):ZIv (Zqc x.toNat++r,false)=(x,(r,false)):=by
 unfold ZIv;rw[ZGO (ZaF _),ZaF];dsimp only;rw[ZCO _ 8 (by omega) (UInt64.toNat_lt _)];simp
def Qu(b:List UInt8):Nat→Nat→Nat→Bool×Nat×Nat
 |0,k,_=>(false,0,k)
 |f+1,k,n=>match b[k]? with
  |none=>(false,0,k)
  |some d=>if 8 < k∨(0 < k∧d.toNat=0) then(false,0,k) else if d.toNat < 128 then(true,n+d.toNat % 128*128 ^ k,k+1) else Qu b f (k+1) (n+d.toNat % 128*128 ^ k)
theorem Zt9{b:List UInt8}{f k n:Nat}(h:b.length≤k):Qu b (f+1) k n=(false,0,k):=by
 simp[Qu,List.getElem?_eq_none h]
theorem Zv0{b:List UInt8}{f k n:Nat}{d:UInt8}(hx:b[k]? =some d)(h:8 < k):Qu b (f+1) k n=(false,0,k):=by
 simp[Qu,hx,h]
theorem Zpe{b:List UInt8}{f k n:Nat}{d:UInt8}(hx:b[k]? =some d)(_:¬8 < k)(h:0 < k∧d.toNat=0):Qu b (f+1) k n=(false,0,k):=by
 rw[Qu,hx];exact if_pos (.inr h)
theorem ZnE{b:List UInt8}{f k n:Nat}{d:UInt8}(hx:b[k]? =some d)(h2:¬8 < k)(h3:¬(0 < k∧d.toNat=0))(h4:d.toNat < 128):Qu b (f+1) k n=(true,n+d.toNat % 128*128 ^ k,k+1):=by
 rw[Qu,hx];show(if 8 < k∨(0 < k∧d.toNat=0) then _ else _)=_
 rw[if_neg (by rintro(h|h);exact h2 h;exact h3 h),if_pos h4]
theorem ZnF{b:List UInt8}{f k n:Nat}{d:UInt8}(hx:b[k]? =some d)(h2:¬8 < k)(h3:¬(0 < k∧d.toNat=0))(h4:¬d.toNat < 128):Qu b (f+1) k n=Qu b f (k+1) (n+d.toNat % 128*128 ^ k):=by
 rw[Qu,hx];show(if 8 < k∨(0 < k∧d.toNat=0) then _ else _)=_
 rw[if_neg (by rintro(h|h);exact h2 h;exact h3 h),if_neg h4]
theorem ZGQ(n k:Nat)(d:UInt8)(hn:n < 128 ^ k)(hk:k≤8):n+d.toNat % 128*128 ^ k < 9223372036854775808:=by
 have h1:d.toNat % 128*128 ^ k≤127*128 ^ k:=yby _ (by omega);have h2:128 ^ (k+1)≤128 ^ 9:=Nat.pow_le_pow_right (by omega) (by omega);rw[Nat.pow_succ] at h2;omega
theorem ZEc(n k:Nat)(d:UInt8)(hn:n < 128 ^ k):n+d.toNat % 128*128 ^ k < 128 ^ (k+1):=by
 have h1:d.toNat % 128*128 ^ k≤127*128 ^ k:=yby _ (by omega);rw[Nat.pow_succ];omega
theorem ZzK(b:List UInt8):∀(f k n:Nat),(Qu b f k n).1=true→(Qu b f k n).2.2≤b.length
 |0,k,n,h=>by simp[Qu] at h
 |f+1,k,n,h=>by
  by_cases h1:b.length≤k
  ·rw[Zt9 h1] at h;cases h
  have hx:=yac (Nat.lt_of_not_le h1);by_cases h2:8 < k
  ·rw[Zv0 hx h2] at h;cases h
  by_cases h3:0 < k∧b[k].toNat=0
  ·rw[Zpe hx h2 h3] at h;cases h
  by_cases h4:b[k].toNat < 128
  ·rw[ZnE hx h2 h3 h4];simp;omega
  ·rw[ZnF hx h2 h3 h4] at h ⊢;exact ZzK b f _ _ h
theorem ZCS{a:List UInt8}{k:Nat}{x:UInt8}{r:List UInt8}(h:a.length=k):(a++x::r)[k]? =some x:=by
 rw[yas (by omega),h,Nat.sub_self];rfl
theorem Zpf{n:Nat}(h:n < 256):(yat n).toNat=n:=by simp[yah h]
theorem Zv1:∀(f n:Nat)(pre rest:List UInt8)(k acc:Nat),pre.length=k→k+(W7 n).length≤9→(W7 n).length≤f→(0 < k→0 < n)→
 Qu (pre++(W7 n++rest)) f k acc=(true,acc+n*128 ^ k,k+(W7 n).length)
 |0,n,pre,rest,k,acc,_,_,hf,_=>by
  have:=List.length_pos_iff.2 (ZIq n);omega
 |f+1,n,pre,rest,k,acc,hp,hk,hf,h0=>by
  by_cases h:n < 128
  ·rw[Zjx h] at hk ⊢;have hx:(pre++([yat n]++rest))[k]? =some (yat n):=ZCS hp;have e:(yat n).toNat=n:=Zpf (by omega);simp at hk;rw[ZnE hx (by omega) (by rw[e];omega) (by rw[e];exact h),e,yah h];rfl
  ·rw[Zt3 h] at hk hf ⊢;have hx:(pre++((yat (n % 128+128)::W7 (n / 128))++rest))[k]? =some (yat (n % 128+128)):=ZCS hp;have e:(yat (n % 128+128)).toNat=n % 128+128:=Zpf (by omega);simp only[yae] at hk hf ⊢;rw[ZnF hx (by omega) (by rw[e];omega) (by rw[e];omega),e];have:=Zv1 f (n / 128) (pre++[yat (n % 128+128)]) rest (k+1) (acc+(n % 128+128) % 128*128 ^ k) (by simp[hp]) (by omega) (by omega) (by omega);rw[yaj] at this;simp only[List.cons_append,yx] at this ⊢;rw[this];have e2:n=n % 128+128*(n / 128):=by omega
   have e3:(n % 128+128) % 128=n % 128:=by omega
   rw[e3,Nat.pow_succ];refine Prod.ext rfl (Prod.ext ?_ (by simp;omega));show acc+n % 128*128 ^ k+n / 128*(128 ^ k*128)=acc+n*128 ^ k;rw[show n / 128*(128 ^ k*128)=128*(n / 128)*128 ^ k by rw[ybj (128 ^ k) 128, ←Nat.mul_assoc,ybj (n / 128) 128],Nat.add_assoc, ←Nat.add_mul, ←e2]
def ZGR(r:Zy):Int×Zy:=if(Qu r.1 10 0 0).1=true then(((Qu r.1 10 0 0).2.1:Int),(r.1.drop (Qu r.1 10 0 0).2.2,r.2)) else(0,([],true))
theorem Zr1{z:Int}(h0:0≤z)(hz:z≤9223372036854775807)(rest:List UInt8):ZGR (W7 z.toNat++rest,false)=(z,(rest,false)):=by
 obtain⟨n,rfl⟩:=Int.eq_ofNat_of_zero_le h0;have hl:=YK (n:=n) (by omega);have:=Zv1 10 n [] rest 0 0 rfl (by omega) (by omega) (by omega);simp only[yx,Nat.zero_add,Nat.pow_zero,Nat.mul_one] at this;unfold ZGR;rw[ybf];dsimp only;rw[this];simp
theorem ZGS{n k:Nat}{d:UInt8}(hn:n < 128 ^ k)(hk:k≤8):bits .or .i64 (n:Int) (wi (((d % 128).toNat:Int)*2 ^ (min (wi (7*(k:Int))).toNat 64)))=((n+d.toNat % 128*128 ^ k:Nat):Int):=by
 have e0:(wi (7*(k:Int)))=((7*k:Nat):Int):=by rw[Zz (by omega) (by omega)];omega
 have e1:min ((7*k:Nat):Int).toNat 64=7*k:=by omega
 have e2:128 ^ k=2 ^ (7*k):=by rw[Nat.pow_mul]
 have h1:=ZGQ n k d hn hk
 have e3:((d % 128).toNat:Int)*2 ^ (7*k)=((d.toNat % 128*128 ^ k:Nat):Int):=by
  rw[e2,UInt8.toNat_mod]
  push_cast
  rfl
 rw[e0,e1,e3,Zz (by omega) (by omega)];refine Go.Ev.Zr9 (op:=.or) (k:=.i64) ?_ (by omega) ⟨by show-9223372036854775808≤_;omega,by show _≤9223372036854775807;omega⟩ (by omega) ⟨by show-9223372036854775808≤_;omega,by show _≤9223372036854775807;omega⟩ ⟨by show-9223372036854775808≤_;omega,by show _≤9223372036854775807;omega⟩;show some _=some _;congr 1;simp only[ybf];rw[e2] at hn ⊢;have:=ycx hn (d.toNat % 128);rw[ybj,Nat.or_comm, ←this];omega
theorem Zpg{b:List UInt8}{no:Bool}{k:Nat}(hb:b.length≤2000000)(h:b.length≤k∨8 < k∨(0 < k∧b[k]? =some 0)):XH fuel (k:Int) (b,no)=some (true,(k:Int),(b,no)):=by
 unfold XH;dsimp only;by_cases h1:b.length≤k
 ·rw[if_pos (decide_eq_true (by omega))]
 rw[if_neg (ynd (by omega))];by_cases h2:8 < k
 ·rw[if_pos (decide_eq_true (by omega))]
 rw[if_neg (ynd (by omega))];rcases h with h|h|⟨h,h3⟩
 ·exact absurd h h1
 ·exact absurd h h2
 rw[if_pos (decide_eq_true (by omega)),Zp h3,ya];rfl
theorem ZEd{b:List UInt8}{no:Bool}{k:Nat}{d:UInt8}(hb:b.length≤2000000)(hx:b[k]? =some d)(h2:¬8 < k)(h3:¬(0 < k∧d.toNat=0)):XH fuel (k:Int) (b,no)=some (false,(k:Int),(b,no)):=by
 unfold XH;have h1:k < b.length:=(yr.1 hx).1;dsimp only;rw[if_neg (ynd (by omega)),if_neg (ynd (by omega))];by_cases h4:0 < k
 ·rw[if_pos (decide_eq_true (by omega)),Zp hx,ya]
  have:(d==0)=false:=by
   rw[beq_eq_false_iff_ne];intro h;exact h3 ⟨h4,by rw[h];rfl⟩
  rw[this]
 ·rw[if_neg (ynd (by omega))]
theorem ZzL{b:List UInt8}{no:Bool}(hb:b.length≤2000000):∀(f k n m:Nat),k+f=10→f < m→n < 128 ^ k→
 Zb (X5 fuel) m ((n:Int),(b,no),(k:Int))=some (if(Qu b f k n).1=true then .inr (((Qu b f k n).2.1:Int),(b,no),((Qu b f k n).2.2:Int)) else .inl ((0:Int),([],true),((Qu b f k n).2.2:Int)))
 |f,k,n,0,_,h,_=>by omega
 |0,k,n,m+1,h,_,_=>by
  unfold Zb X5;dsimp only;rw[Zpg hb (.inr (.inl (by omega))),ya]
  rfl
 |f+1,k,n,m+1,h,hf,hn=>by
  unfold Zb X5;dsimp only;by_cases h1:b.length≤k
  ·rw[Zt9 h1,Zpg hb (.inl h1),ya];rfl
  obtain⟨d,hx,_⟩:=Zk (l:=b) (k:=k) (by omega);by_cases h2:8 < k
  ·rw[Zv0 hx h2,Zpg hb (.inr (.inl h2)),ya];rfl
  by_cases h3:0 < k∧d.toNat=0
  ·rw[Zpe hx h2 h3,Zpg hb (.inr (.inr ⟨h3.1,by rw[hx,show d=0 from UInt8.toNat_inj.1 h3.2]⟩)),ya]
   rfl
  rw[ZEd hb hx h2 h3,ya];dsimp only
  rw[if_neg (by decide),Zp hx,ya,ZGS hn (by omega),
   if_pos (decide_eq_true (by rw[Zz (by omega) (by omega)];omega)),Zs (by omega)]
  have hlt:decide (d < 128)=decide (d.toNat < 128):=by
   rw[Bool.eq_iff_iff,decide_eq_true_iff,decide_eq_true_iff,UInt8.lt_iff_toNat_lt];rfl
  rw[hlt];by_cases h4:d.toNat < 128
  ·rw[ZnE hx h2 h3 h4,if_pos (decide_eq_true h4)];rfl
  ·rw[ZnF hx h2 h3 h4,if_neg (by rw[decide_eq_true_iff];exact h4)];exact ZzL hb f (k+1) _ m (by omega) (by omega) (ZEc n k d hn)
theorem ZxU{r:Zy}(h:r.1.length≤2000000):XI fuel r=some (ZGR r):=by
 obtain⟨b,no⟩:=r;unfold XI ZGR;dsimp only at h ⊢;have:=ZzL (no:=no) h 10 0 0 fuel (by omega) (by rw[Zda];omega) (by omega);rw[show((0:Nat):Int)=0 from rfl] at this
 rw[this,ya];by_cases hg:(Qu b 10 0 0).1=true
 ·have hl:=ZzK b 10 0 0 hg;rw[if_pos hg,if_pos hg];dsimp only;rw[if_pos (ZCP (by omega) (by omega)),ybf]
 ·rw[if_neg hg,if_neg hg]
theorem ZIw{b:List UInt8}(h:b.length≤2000000):ZiY fuel b=some (b,false):=by
 unfold ZiY;rw[ZzJ (by omega),ya]
theorem ZEe{l:List UInt64}(hl:l.length≤9223372036854775807):∃b,ZcT fuel l=some b∧(b=false→∀p,p∈l→Q6 p.toNat):=by
 unfold ZcT ZbL
 obtain⟨x,h1,h2⟩:=Yk (step:=Xk fuel) l.length (λk s=>s=(l,(l.length:Int),(k:Int))∧∀j p,j < k→l[j]? =some p→Q6 p.toNat) (λx=>(∃k:Nat,x=.inl (k:Int))∨x=.inr ()∧∀p,p∈l→Q6 p.toNat) (i:=(l,(l.length:Int),(0:Int))) ⟨rfl,λj p hj=>by omega⟩ (by omega) (by
  rintro k _ hk ⟨rfl,hj⟩;obtain⟨e,he,_⟩:=Zk hk;unfold Xk;dsimp only;rw[if_pos (Z9 hk),Zp he,ya,ZBm,ya,Zs (by omega)];by_cases hp:Q6 e.toNat
  ·rw[decide_eq_true hp];left;refine⟨_,rfl,rfl,λj p h3 h4=> ?_⟩;by_cases h5:j < k
   ·exact hj j p h5 h4
   ·have:j=k:=by omega
    subst this;rw[he] at h4;cases h4;exact hp
  ·rw[decide_eq_false hp];right;exact⟨_,rfl,.inl ⟨k,rfl⟩⟩) (by
  rintro _ ⟨rfl,hj⟩;unfold Xk;dsimp only;rw[if_neg (by rw[ZW];decide)];refine⟨_,rfl,.inr ⟨rfl,λp hp=> ?_⟩⟩;obtain⟨j,hj1,hj2⟩:=List.getElem_of_mem hp;exact hj j p hj1 (by rw[yac hj1,hj2]))
 rw[h1,ya];rcases h2 with⟨k,rfl⟩|⟨rfl,h2⟩
 ·dsimp only;rw[ya];refine⟨_,rfl,λh=> ?_⟩;exact absurd (of_decide_eq_false h) (by omega)
 ·exact⟨_,rfl,λ_=>h2⟩
def ZBr(l:Lock):Prop:=l.length≤9223372036854775807∧∀b,b∈l→b.1.length≤9223372036854775807
theorem Zrf(z:Int):∃b,VN fuel z=some b∧(b=true→0≤z∧z≤1048576):=by
 unfold VN;by_cases h:z ≥ 0
 ·rw[if_pos (decide_eq_true h)];exact⟨_,rfl,λh2=>⟨h,of_decide_eq_true h2⟩⟩
 ·rw[if_neg (by rw[decide_eq_true_iff];exact h)];exact⟨_,rfl,λh2=>by cases h2⟩
theorem Zua{l:Lock}(hl:ZBr l):∃b,YA fuel l=some b∧(b=true↔Wh l∧Vg l):=by
 have key:∃b,YA fuel l=some b∧(b=true→Wh l∧Vg l):=by
  unfold YA;obtain⟨h0,h1⟩:=hl
  obtain⟨x,hx,hp⟩:=Yk (step:=Wt fuel) l.length (λk s=>s=(l,(l.length:Int),(k:Int),l)∧∀j b,j < k→l[j]? =some b→ZD6 b∧ZD7 b)
   (λx=>x=.inl (false,l)∨(x=.inr l∧∀b,b∈l→ZD6 b∧ZD7 b)) (i:=(l,(l.length:Int),(0:Int),l)) ⟨rfl,λj b hj=>by omega⟩ (by omega) (by
   rintro k _ hk ⟨rfl,hj⟩;obtain⟨e,he,hm⟩:=Zk hk
   have hnext:(ZD6 e∧ZD7 e)→∀j b,j < k+1→l[j]? =some b→ZD6 b∧ZD7 b:=by
    intro hE j b h2 h3;by_cases h4:j < k
    ·exact hj j b h4 h3
    ·have:j=k:=by omega
     subst this;rw[he] at h3;cases h3;exact hE
   unfold Wt;dsimp only;rw[if_pos (Z9 hk),Zp he,ya];by_cases k1:(e.1.length:Int) > 12
   ·right;rw[if_pos (decide_eq_true k1)];exact⟨_,rfl,.inl rfl⟩
   rw[if_neg (by rw[decide_eq_true_iff];exact k1)];obtain⟨b,hb,hbp⟩:=ZEe (h1 e hm);rw[hb,ya]
   cases b with
   |true=>right;exact⟨_,rfl,.inl rfl⟩
   |false=>
    obtain⟨c,hc,hc2⟩:=Zrf e.2.1;obtain⟨d,hd,hd2⟩:=Zrf e.2.2.1;rw[if_neg (by decide),hc,ya,hd,ya]
    cases c with
    |false=>right;exact⟨_,rfl,.inl rfl⟩
    |true=>
     cases d with
     |false=>right;exact⟨_,rfl,.inl rfl⟩
     |true=>
      have hn:=λhz:e.2.2.2≠0→Q6 e.2.2.2.toNat=>hnext ⟨⟨by omega,(hc2 rfl).1,(hc2 rfl).2,(hd2 rfl).1,(hd2 rfl).2⟩,hbp rfl,hz⟩;rw[if_neg (by decide),if_neg (by decide),Zs (by omega)];by_cases hz:e.2.2.2=0
      ·rw[if_neg (by rw[hz];decide)];left;exact⟨_,rfl,rfl,hn λh=>absurd hz h⟩
      ·rw[if_pos (by simp[hz]),ZBm,ya];by_cases hpt:Q6 e.2.2.2.toNat
       ·rw[decide_eq_true hpt];left;exact⟨_,rfl,rfl,hn λ_=>hpt⟩
       ·rw[decide_eq_false hpt];right;exact⟨_,rfl,.inl rfl⟩) (by
   rintro _ ⟨rfl,hj⟩;unfold Wt;dsimp only;rw[if_neg (by rw[ZW];decide)];refine⟨_,rfl,.inr ⟨rfl,λb hb=> ?_⟩⟩;obtain⟨j,hj1,hj2⟩:=List.getElem_of_mem hb;exact hj j b hj1 (by rw[yac hj1,hj2]))
  rw[hx,ya];rcases hp with rfl|⟨rfl,hp⟩
  ·exact⟨_,rfl,λh=>by cases h⟩
  ·dsimp only;by_cases h2:(l.length:Int) > 0
   ·rw[if_pos (decide_eq_true h2)];refine⟨_,rfl,λh3=>⟨⟨by omega, ?_,λb hb=>(hp b hb).1⟩,λb hb=>(hp b hb).2⟩⟩;have:=of_decide_eq_true h3;omega
   ·rw[if_neg (by rw[decide_eq_true_iff];exact h2)];exact⟨_,rfl,λh=>by cases h⟩
 obtain⟨b,h1,h2⟩:=key;refine⟨b,h1,h2,λh=> ?_⟩;rw[Q0 h.1 h.2] at h1;exact(Option.some.inj h1).symm
theorem ZCT{α:Type}{l:List α}{k:Nat}{e:α}(h:l[k]? =some e):l.drop k=e::l.drop (k+1):=by
 obtain⟨h1,h2⟩:=yr.1 h;rw[List.drop_eq_getElem_cons h1,h2]
theorem ZzM{α:Type}{f:α→List UInt8}{l:List α}{k:Nat}{e:α}(h:l[k]? =some e):cat f (l.drop k)=f e++cat f (l.drop (k+1)):=by
 rw[ZCT h,ZzC]
theorem Zjz{α:Type}{f:α→List UInt8}{c n:Nat}{l:List α}(h:∀x,x∈l→(f x).length≤c)(hn:l.length≤n)(k:Nat):(cat f (l.drop k)).length≤n*c:=by
 refine Nat.le_trans (ZxR λx hx=>h x (List.mem_of_mem_drop hx)) (yby c ?_);rw[List.length_drop];omega
theorem ZBs{a:List UInt8}(h:a.length≤2000000):XW fuel a a=some true:=by
 unfold XW;rw[if_neg (by simp),show(a,a,(a.length:Int),(0:Int))=(λk:Nat=>(a,a,(a.length:Int),(k:Int))) 0 from rfl,ZN (x:=.inr ()) a.length (λk:Nat=>(a,a,(a.length:Int),(k:Int))) ?_ ?_ (by omega),ya]
 ·intro k hk;obtain⟨e,he,_⟩:=Zk hk;unfold Xm;dsimp only;rw[if_pos (Z9 hk),Zp he,ya,ya,Zs (by omega),if_neg (by simp)]
 ·unfold Xm;dsimp only;rw[if_neg (by rw[ZW];decide)]
theorem ZEf{b:List UInt8}{n i:Int}{l:Lock}{rest:List UInt8}{acc:List ZJ}{i1 i2:Int}{u:UInt64}{ks:List UInt64}(hk:ks.length≤12)(hr:rest.length≤100000):
 Zb (Zav fuel) fuel (b,n,i,(ks.length:Int),(0:Int),l,(cat Zt5 ks++rest,false),acc,i1,i2,u,([]:List UInt64))=some (b,n,i,l,(rest,false),acc,i1,i2,u,ks):=by
 refine ZN ks.length (λk:Nat=>(b,n,i,(ks.length:Int),(k:Int),l,(cat Zt5 (ks.drop k)++rest,false),acc,i1,i2,u,ks.take k)) ?_ ?_ (by omega)
 ·intro k hk2;obtain⟨e,he,_⟩:=Zk hk2;have hl:=Zjz (f:=Zt5) (c:=8) (λx _=>Nat.le_of_eq (ZaF _)) hk k;unfold Zav;dsimp only;rw[if_pos (Z9 hk2),ZCQ (by dsimp only;rw[yp];omega),ya,ZzM he,yaj];unfold Zt5;rw[ZCR,if_pos (Z2 (by rw[yai];omega) (by rw[yai];omega)),Zs (by omega),Zfe he]
 ·unfold Zav;dsimp only;rw[if_neg (by rw[ZW];decide),List.drop_length,ybk];rfl
theorem Zv2{l:Lock}(h:Wh l)(hp:Vg l):Za8 fuel (VC l)=some (l,true):=by
 have hlen:=Zfo h;unfold Za8;rw[ZIw (by omega),ya,ZxU (by dsimp only;omega),ya];have h0:=h.2.1
 have e0:ZGR (VC l,false)=((l.length:Int),(cat brF l,false)):=by
  have:=Zr1 (z:=(l.length:Int)) (by omega) (by omega) (cat brF l);rw[ybf] at this;exact this
 have hbl:∀k,(cat brF (l.drop k)).length≤4*131:=Zjz (λx hx=>ZxS (h.2.2 x hx)) h0;rw[e0];dsimp only;generalize hb:VC l=b at hlen
 rw[show(b,(l.length:Int),(0:Int),([]:Lock),(cat brF l,false),([]:List ZJ))=(λk:Nat=>(b,(l.length:Int),(k:Int),([]:Lock),(cat brF (l.drop k),false),l.take k)) 0 from rfl,
  ZN (x:=(b,([]:Lock),(([]:List UInt8),false),l)) l.length (λk:Nat=>(b,(l.length:Int),(k:Int),([]:Lock),(cat brF (l.drop k),false),l.take k)) ?_ ?_ (by omega),ya]
 ·dsimp only;rw[Q0 h hp,ya,if_neg (by decide),Zgu h hp,ya,hb,ZBs (by omega),ya];rfl
 ·intro k hk;obtain⟨e,he,hm⟩:=Zk hk;obtain⟨e1,e2,e3,e4,e5⟩:=h.2.2 e hm;have hl:=hbl k;have hl2:=hbl (k+1);have r2:=YK (n:=e.2.1.toNat) (by omega);have r3:=YK (n:=e.2.2.1.toNat) (by omega);have r4:=ZaF e.2.2.2.toNat
  have hks:=Zjz (f:=Zt5) (c:=8) (l:=e.1) (λx _=>Nat.le_of_eq (ZaF _)) e1 0;rw[List.drop_zero] at hks;unfold Zde;dsimp only;rw[if_pos (Z9 hk),ZxU (by dsimp only;omega),ya,if_neg (by rw[beq_iff_eq];omega),ZzM he];unfold brF;simp only[yaj];have q1:=Zr1 (z:=(e.1.length:Int)) (by omega) (by omega) (cat Zt5 e.1++(W7 e.2.1.toNat++(W7 e.2.2.1.toNat++(Zqc e.2.2.2.toNat++cat brF (l.drop (k+1))))));rw[ybf] at q1;unfold brF at q1 hl2;rw[q1];dsimp only;rw[if_neg (ynd (by omega)),ZEf e1 (by simp only[yp];omega),ya];dsimp only;rw[ZxU (by simp only[yp];omega),ya,Zr1 e2 (by omega)];dsimp only;rw[ZxU (by simp only[yp];omega),ya,Zr1 e4 (by omega)];dsimp only;rw[ZCQ (by simp only[yp];omega),ya,ZCR,if_pos (Z2 (by rw[yai];omega) (by rw[yai];omega)),Zs (by omega),Zfe he]
 ·unfold Zde;dsimp only;rw[if_neg (by rw[ZW];decide),List.drop_length,ybk];rfl
def amt(l:List Out)(p:Nat):Int:=((l[p]?).map (·.1)).getD 0
theorem ZCU{l:List Out}{p:Nat}{e:Out}(h:l[p]? =some e):amt l p=e.1:=by
 unfold amt;rw[h];rfl
theorem ZCV{l:List Out}{j p:Nat}{x:Out}(h:j < l.length):amt (l.set j x) p=if p=j then x.1 else amt l p:=by
 unfold amt;by_cases hp:p=j
 ·subst hp;rw[ycr h,if_pos rfl];rfl
 ·rw[List.getElem?_set_ne (Ne.symm hp),if_neg hp]
def ZCW(l:List Out):Prop:=∀o,o∈l→0≤o.1∧o.1≤1152921504606846976
theorem ZIx{a b:Out}(ha:0≤a.1∧a.1≤1152921504606846976)(hb:0≤b.1∧b.1≤1152921504606846976):∃z,ZaQ fuel a b=some z∧(z < 0→a.1≤b.1)∧(¬z < 0→b.1≤a.1):=by
 unfold ZaQ;rw[Zz (by omega) (by omega)];exact⟨_,rfl,λ_=>by omega,λ_=>by omega⟩
def But(l:List Out)(i j:Nat):Prop:=∀p q,p < q→q≤i→q≠j→amt l p≤amt l q
theorem ZCX(n:Int)(i:Nat):∀(j f:Nat)(u:List Unit)(l:List Out),j < f→j≤i→i < l.length→l.length≤20→ZCW l→But l i j→
 ∃r,Zb (X1 fuel) f ((0:Int),n,(i:Int),(j:Int),u,l)=some ((0:Int),n,(i:Int),u,r)∧r.Perm l∧∀p q,p < q→q≤i→amt r p≤amt r q
 |0,f,u,l,hf,hj,hi,hl,hA,hb=>by
  obtain⟨f,rfl⟩:=Nat.exists_eq_succ_of_ne_zero (n:=f) (by omega)
  have e:X1 fuel ((0:Int),n,(i:Int),((0:Nat):Int),u,l)=some (.inr ((0:Int),n,(i:Int),u,l)):=by
   unfold X1;dsimp only;rw[if_neg (ynd (by omega))]
  unfold Zb;rw[e,ya]
  exact⟨_,rfl,List.Perm.refl _,λp q h1 h2=>hb p q h1 h2 (by omega)⟩
 |j+1,f,u,l,hf,hj,hi,hl,hA,hb=>by
  obtain⟨f,rfl⟩:=Nat.exists_eq_succ_of_ne_zero (n:=f) (by omega);obtain⟨x,hx,xm⟩:=Zk (l:=l) (k:=j+1) (by omega);obtain⟨y,hy,ym⟩:=Zk (l:=l) (k:=j) (by omega);obtain⟨z,hz,z1,z2⟩:=ZIx (hA x xm) (hA y ym);have ax:=ZCU hx;have ay:=ZCU hy;have e1:wi (((j+1:Nat):Int) - 1)=(j:Int):=by rw[Zz (by omega) (by omega)];omega
  have hset:(l.set (j+1) y).length=l.length:=List.length_set;obtain⟨w,hw,_⟩:=Zk (l:=l.set (j+1) y) (k:=j) (by omega)
  have hstep:X1 fuel ((0:Int),n,(i:Int),((j+1:Nat):Int),u,l)=if z < 0 then some (.inl ((0:Int),n,(i:Int),(j:Int),u,(l.set (j+1) y).set j x)) else some (.inr ((0:Int),n,(i:Int),u,l)):=by
   unfold X1;dsimp only;rw[if_pos (decide_eq_true (by omega)),e1,if_pos (Yf (by omega) (by omega)),ybf,ybf,hx,ya,if_pos (Yf (by omega) (by omega)),hy,ya,hz,ya];by_cases h0:z < 0
   ·rw[if_pos (decide_eq_true h0),if_pos (Yf (by omega) (by omega)),ya,if_pos (Yf (by omega) (by omega)),ya,if_pos (Yf (by omega) (by omega)),ya,if_pos (Yf (by omega) (by omega)),hw,ya,if_pos h0]
   ·rw[if_neg (by rw[decide_eq_true_iff];exact h0),if_neg h0]
  unfold Zb;rw[hstep];by_cases h0:z < 0
  ·rw[if_pos h0,ya]
   have hp:((l.set (j+1) y).set j x).Perm l:=by
    have h:=@List.set_set_perm _ l (j+1) j (by omega) (by omega);rw[(yr.1 hx).2,(yr.1 hy).2] at h;exact h
   have ha:∀p,amt ((l.set (j+1) y).set j x) p=if p=j then x.1 else if p=j+1 then y.1 else amt l p:=by
    intro p;rw[ZCV (by omega),ZCV (by omega)]
   obtain⟨r,r1,r2,r3⟩:=ZCX n i j f u ((l.set (j+1) y).set j x) (by omega) (by omega) (by simp;omega) (by simp;omega) (λo ho=>hA o (hp.mem_iff.1 ho)) (by
    intro p q h1 h2 h3;rw[ha,ha,if_neg h3];have hz1:=z1 h0;by_cases k1:q=j+1
    ·subst k1;rw[if_pos rfl];by_cases k2:p=j
     ·rw[if_pos k2];exact hz1
     ·rw[if_neg k2,if_neg (by omega), ←ay];exact hb p j (by omega) (by omega) (by omega)
    ·rw[if_neg k1];by_cases k2:p=j
     ·rw[if_pos k2, ←ax];exact hb (j+1) q (by omega) h2 k1
     ·rw[if_neg k2];by_cases k3:p=j+1
      ·rw[if_pos k3, ←ay];exact hb j q (by omega) h2 k1
      ·rw[if_neg k3];exact hb p q h1 h2 k1)
   exact⟨r,r1,r2.trans hp,r3⟩
  ·rw[if_neg h0,ya];refine⟨_,rfl,List.Perm.refl _, ?_⟩;intro p q h1 h2;by_cases k1:q=j+1
   ·subst k1;have h3:=z2 h0;by_cases k2:p=j
    ·rw[k2,ax,ay];exact h3
    ·have:=hb p j (by omega) (by omega) (by omega);omega
   ·exact hb p q h1 h2 k1
theorem ZGT(u:List Unit)(l:List Out)(hl:l.length≤20)(hA:ZCW l):∃r,VO fuel (0:Int) (l.length:Int) u l=some (u,r)∧r.Perm l∧∀p q,p < q→q < l.length→amt r p≤amt r q:=by
 unfold VO;rw[show wi ((0:Int)+1)=1 from rfl]
 obtain⟨x,g1,r,rfl,g2,g3⟩:=Yk (step:=X2 fuel) (l.length - 1) (λk s=>∃r,s=((0:Int),(l.length:Int),((k+1:Nat):Int),u,r)∧r.Perm l∧∀p q,p < q→q < k+1→amt r p≤amt r q) (λx=>∃r,x=(u,r)∧r.Perm l∧∀p q,p < q→q < l.length→amt r p≤amt r q)
  (i:=((0:Int),(l.length:Int),(1:Int),u,l)) ⟨_,rfl,List.Perm.refl _,λp q h1 h2=>by omega⟩ (by omega) (by
  rintro k _ hk ⟨r,rfl,hp,hs⟩;left;have hrl:=hp.length_eq;obtain⟨t,t1,t2,t3⟩:=ZCX (l.length:Int) (k+1) (k+1) fuel u r (by rw[Zda];omega) (by omega) (by omega) (by omega) (λo ho=>hA o (hp.mem_iff.1 ho)) (λp q h1 h2 h3=>hs p q h1 (by omega));unfold X2;dsimp only;rw[if_pos (decide_eq_true (by omega)),t1,ya];dsimp only;rw[Zs (by omega)];exact⟨_,rfl,_,rfl,t2.trans hp,λp q h1 h2=>t3 p q h1 (by omega)⟩) (by
  rintro _ ⟨r,rfl,hp,hs⟩;unfold X2;dsimp only;rw[if_neg (ynd (by omega))];exact⟨_,rfl,_,rfl,hp,λp q h1 h2=>hs p q h1 (by omega)⟩)
 rw[g1,ya];exact⟨_,rfl,g2,g3⟩
theorem ZEg(u:List Unit)(l:List Out){a b:Int}(h:b≤a)(h0:0≤a)(h1:a≤100):VO fuel a b u l=some (u,l):=by
 unfold VO;rw[Zz (z:=a+1) (by omega) (by omega)]
 have e:Zb (X2 fuel) fuel (a,b,a+1,u,l)=some (u,l):=by
  refine ZN 0 (λk:Nat=>(a,b,a+1,u,l)) (λk hk=>by omega) ?_ (by omega);unfold X2;dsimp only;rw[if_neg (ynd (by omega))]
 rw[e,ya]
theorem ZKI(u:List Unit)(l:List Out)(hl:l.length≤20)(hA:ZCW l):∃r,ZoJ fuel u l=some (u,r)∧r.Perm l∧∀p q,p < q→q < l.length→amt r p≤amt r q:=by
 obtain⟨r,r1,r2,r3⟩:=ZGT u l hl hA;have hrl:=r2.length_eq
 have fin:∀(a:Int)(b:Int),Zb (ZaR fuel) fuel ((l.length:Int),(20:Int),u,r)=some (u,r):=by
  intro _ _;refine ZN 0 (λk:Nat=>((l.length:Int),(20:Int),u,r)) (λk hk=>by omega) ?_ (by omega);unfold ZaR;dsimp only;rw[if_neg (ynd (by omega))]
 unfold ZoJ Zi1;by_cases h20:l.length=20
 ·have e:Zb (X3 fuel) fuel ((l.length:Int),(20:Int),(0:Int),(20:Int),u,l)=some ((l.length:Int),(20:Int),(20:Int),u,r):=by
   refine ZN 1 (λk:Nat=>if k=0 then((l.length:Int),(20:Int),(0:Int),(20:Int),u,l) else((l.length:Int),(20:Int),(20:Int),(40:Int),u,r)) ?_ ?_ (by omega)
   ·intro k hk;have:k=0:=by omega
    subst this;rw[if_pos rfl,if_neg (by omega)];unfold X3;dsimp only;rw[h20] at r1;rw[if_pos (decide_eq_true (by omega))];rw[show((20:Nat):Int)=20 from rfl] at r1
    rw[r1,ya];dsimp only;rw[if_pos (by simp[hrl])];rfl
   ·rw[if_neg (by omega)];unfold X3;dsimp only;rw[if_neg (ynd (by omega))]
  rw[e,ya];dsimp only;rw[ZEg u r (by omega) (by omega) (by omega),ya];dsimp only;rw[fin 0 0,ya,ya];exact⟨r,rfl,r2,r3⟩
 ·have e:Zb (X3 fuel) fuel ((l.length:Int),(20:Int),(0:Int),(20:Int),u,l)=some ((l.length:Int),(20:Int),(0:Int),u,l):=by
   refine ZN 0 (λk:Nat=>((l.length:Int),(20:Int),(0:Int),(20:Int),u,l)) (λk hk=>by omega) ?_ (by omega);unfold X3;dsimp only;rw[if_neg (ynd (by omega))]
  rw[e,ya];dsimp only;rw[r1,ya];dsimp only;rw[fin 0 0,ya,ya];exact⟨r,rfl,r2,r3⟩
theorem ZxV{l:Lock}(h:Wh l)(hp:Vg l):Ve fuel l=some l:=by
 unfold Ve;rw[Zgu h hp,ya,Zv2 h hp,ya]
def Zel(op h0 h1 fee i:Int):Int:=if i=op then hav i h0 h1 - fee else hav i h0 h1
def ZGU(l0 l1:Lock)(i:Int):Lock:=if i=0 then l0 else l1
def Zqe(op h0 h1 fee:Int)(l0 l1:Lock)(i:Int):List Out:=if Zel op h0 h1 fee i ≥ 100 then[(Zel op h0 h1 fee i,ZGU l0 l1 i)] else[]
theorem Zph(d z:Int):WQ fuel (Tm d) z=some (decide (z ≥ 100)):=rfl
theorem Zv3{A:Int}{k0 k1:Kit}{op:Int}{s:State}{h0 h1 fee:Int}{l0 l1:Lock}(i:Int)(hi:i=0∨i=1)(hb0:0≤h0∧h0≤5000000000)(hb1:0≤h1∧h1≤5000000000)(hf:0≤fee∧fee≤5000000000)
 (k0':Wh l0∧Vg l0) (k1':Wh l1∧Vg l1) (t:Tx) (ins:List In) (note:Int) (u:List Unit) (acc:List Out) (ha:acc.length≤5):
 ∃u',VA fuel (fee,[h0,h1],i,Z7 A k0 k1 op,s,[l0,l1],t,ins,note,u,acc)=some (.inl (fee,[h0,h1],i+1,Z7 A k0 k1 op,s,[l0,l1],t,ins,note,u',acc++Zqe op h0 h1 fee l0 l1 i)):=by
 have hT:(Z7 A k0 k1 op).2.2.2.1=[Tm 5,Tm 6]:=rfl;have hO:(Z7 A k0 k1 op).2.2.2.2=op:=rfl;have hidx:idx ([h0,h1]:List Int) i=some (hav i h0 h1):=by rcases hi with rfl|rfl <;> rfl
 have hlk:([l0,l1]:List Lock)[i.toNat]? =some (ZGU l0 l1 i):=by rcases hi with rfl|rfl <;> rfl
 have hk:Ve fuel (ZGU l0 l1 i)=some (ZGU l0 l1 i):=by
  rcases hi with rfl|rfl
  ·exact ZxV k0'.1 k0'.2
  ·exact ZxV k1'.1 k1'.2
 have hh:0≤hav i h0 h1∧hav i h0 h1≤5000000000:=by
  unfold hav;split <;> omega
 have hw:wi (i+1)=i+1:=by rcases hi with rfl|rfl <;> rfl
 unfold VA;dsimp only;rw[if_pos (by rcases hi with rfl|rfl <;> rfl),hidx,ya,hO,hT];unfold Zqe Zel;generalize hx:hav i h0 h1=x at hh;by_cases he:i=op
 ·rw[if_pos (by rw[he];exact beq_self_eq_true _),Zz (z:=x - fee) (by omega) (by omega)];simp only[yar,yaq,ya,Zph,if_pos he];by_cases hs:x - fee ≥ 100
  ·simp only[decide_eq_true hs,if_true,if_pos (YD hi),hlk,ya,hk,if_pos hs,hw];rw[if_pos (Z2 (by omega) (by omega))];exact⟨_,rfl⟩
  ·simp only[decide_eq_false hs,Bool.false_eq_true,if_false,if_neg hs,ybi,hw];exact⟨_,rfl⟩
 ·rw[if_neg (by rw[beq_iff_eq];exact he)];simp only[yar,yaq,ya,Zph,if_neg he];by_cases hs:x ≥ 100
  ·simp only[decide_eq_true hs,if_true,if_pos (YD hi),hlk,ya,hk,if_pos hs,hw];rw[if_pos (Z2 (by omega) (by omega))];exact⟨_,rfl⟩
  ·simp only[decide_eq_false hs,Bool.false_eq_true,if_false,if_neg hs,ybi,hw];exact⟨_,rfl⟩
def outs0(op h0 h1 fee:Int)(l0 l1:Lock):List Out:=Zqe op h0 h1 fee l0 l1 0++Zqe op h0 h1 fee l0 l1 1
theorem Zub(op h0 h1 fee:Int)(l0 l1:Lock)(i:Int):(Zqe op h0 h1 fee l0 l1 i).length≤1:=by
 unfold Zqe;split <;> simp
theorem Zv4(op h0 h1 fee:Int)(l0 l1:Lock):(outs0 op h0 h1 fee l0 l1).length≤2:=by
 unfold outs0;have:=Zub op h0 h1 fee l0 l1 0;have:=Zub op h0 h1 fee l0 l1 1;rw[yp];omega
theorem ZGV{A:Int}{k0 k1:Kit}{op:Int}(h:ChOk A k0 k1 op){s:State}{h0 h1:Int}(hs:StIn A s h0 h1)(hc:hav op h0 h1 ≥ cost s.2.2.2 s.2.2.1.length):ZbP fuel (Z7 A k0 k1 op) s=some (decide (s.2.2.1=[])):=by
 unfold ZbP
 cases hl:s.2.2.1 with
 |nil=>
  rw[if_pos (by rfl),ZKG h hs,ya,decide_eq_true hc]
  rfl
 |cons a b=>
  rw[if_neg (by rw[beq_iff_eq,yae];omega)];rfl
theorem ZCY{A:Int}{k0 k1:Kit}{op:Int}(ho:op=0∨op=1){s:State}{h0 h1:Int}(hv:s.2.1=[h0,h1])(fee:Int):YS fuel (Z7 A k0 k1 op) s op fee=some (decide (52≤fee∧fee≤hav op h0 h1)):=by
 have hO:(Z7 A k0 k1 op).2.2.2.2=op:=rfl;unfold YS;rw[hO,if_neg (by simp),hv,Zdo ho,if_pos (YD ho)];by_cases h:fee ≥ 52
 ·rw[if_pos (decide_eq_true h),ya];simp[h]
 ·rw[if_neg (by rw[decide_eq_true_iff];exact h),decide_eq_false (by omega)]
theorem ZIy{A:Int}{k0 k1:Kit}{op i:Int}(hi:i≠op)(s:State)(fee:Int):YS fuel (Z7 A k0 k1 op) s i fee=some (fee==0):=by
 have hO:(Z7 A k0 k1 op).2.2.2.2=op:=rfl;unfold YS;rw[hO,if_pos (by simpa using hi)]
structure Mk(op h0 h1 fee:Int)(l0 l1:Lock)(r:List Out):Prop where
 pm:r.Perm (outs0 op h0 h1 fee l0 l1)
 srt:∀p q,p < q→q < r.length→amt r p≤amt r q
theorem ZIz{A:Int}{k0 k1:Kit}{op:Int}(h:ChOk A k0 k1 op){s:State}{h0 h1 fee:Int}{l0 l1:Lock}(hs:StIn A s h0 h1)(hc:hav op h0 h1 ≥ cost s.2.2.2 s.2.2.1.length)(hn:s.2.2.1=[])
 (g0:Wh l0∧Vg l0) (g1:Wh l1∧Vg l1) (f0:52≤fee) (f1:fee≤hav op h0 h1):
 ∃r,closing_MakeM fuel (Z7 A k0 k1 op) s [l0,l1] fee=some (([((z32,0),(0,[],0))],r,2097154),0)∧Mk op h0 h1 fee l0 l1 r:=by
 have hA:=h.hi;have ht:=hs.tot;rw[hn] at ht;have h0n:amtC ([]:List Cond)=0:=rfl;have p0:=hs.p0;have p1:=hs.p1
 have hh:hav op h0 h1≤4300000000:=by
  unfold hav;split <;> omega
 have hO:(Z7 A k0 k1 op).2.2.2.2=op:=rfl;unfold closing_MakeM;rw[ZGV h hs hc,ya,if_neg (by rw[hn];decide),yar,ya,Q0 g0.1 g0.2,ya,if_neg (by decide)];rw[yaq,yar,ya,Q0 g1.1 g1.2,ya,if_neg (by decide),hO,ZCY h.o hs.hv,ya,if_neg (by simp[f0,f1]),hs.hv];obtain⟨u1,e1⟩:=Zv3 (A:=A) (k0:=k0) (k1:=k1) (op:=op) (s:=s) (h0:=h0) (h1:=h1) (fee:=fee) (l0:=l0) (l1:=l1) 0 (.inl rfl) (by omega) (by omega) (by omega) g0 g1 (([]:List In),([]:List Out),(0:Int)) ([((Z7 A k0 k1 op).1,(0,[],0))]:List In) 2097154 [] [] (by simp);obtain⟨u2,e2⟩:=Zv3 (A:=A) (k0:=k0) (k1:=k1) (op:=op) (s:=s) (h0:=h0) (h1:=h1) (fee:=fee) (l0:=l0) (l1:=l1) 1 (.inr rfl) (by omega) (by omega) (by omega) g0 g1 (([]:List In),([]:List Out),(0:Int)) ([((Z7 A k0 k1 op).1,(0,[],0))]:List In) 2097154 u1 ([]++Zqe op h0 h1 fee l0 l1 0) (by have:=Zub op h0 h1 fee l0 l1 0;simp;omega)
 rw[show(fee,[h0,h1],(0:Int),Z7 A k0 k1 op,s,[l0,l1],(([]:List In),([]:List Out),(0:Int)),([((Z7 A k0 k1 op).1,(0,[],0))]:List In),(2097154:Int),([]:List Unit),([]:List Out))=(λk:Nat=>(fee,[h0,h1],(k:Int),Z7 A k0 k1 op,s,[l0,l1],(([]:List In),([]:List Out),(0:Int)),([((Z7 A k0 k1 op).1,(0,[],0))]:List In),(2097154:Int),(if k=0 then[] else if k=1 then u1 else u2),(if k=0 then[] else if k=1 then Zqe op h0 h1 fee l0 l1 0 else outs0 op h0 h1 fee l0 l1))) 0 from rfl,
  ZN (x:=(Z7 A k0 k1 op,s,[l0,l1],(([]:List In),([]:List Out),(0:Int)),([((Z7 A k0 k1 op).1,(0,[],0))]:List In),(2097154:Int),u2,outs0 op h0 h1 fee l0 l1)) 2 (λk:Nat=>(fee,[h0,h1],(k:Int),Z7 A k0 k1 op,s,[l0,l1],(([]:List In),([]:List Out),(0:Int)),([((Z7 A k0 k1 op).1,(0,[],0))]:List In),(2097154:Int),(if k=0 then[] else if k=1 then u1 else u2),(if k=0 then[] else if k=1 then Zqe op h0 h1 fee l0 l1 0 else outs0 op h0 h1 fee l0 l1))) ?_ ?_ (by omega),ya]
 ·dsimp only
  have hAm:ZCW (outs0 op h0 h1 fee l0 l1):=by
   intro o ho;unfold outs0 Zqe at ho
   have hp:∀i,Zel op h0 h1 fee i≤5000000000:=by
    intro i;unfold Zel hav;split <;> split <;> omega
   have hp0:=hp 0;have hp1:=hp 1;rw[yci] at ho;rcases ho with ho|ho
   all_goals
    split at ho
    ·rw[yan] at ho;subst ho;dsimp only;omega
    ·simp at ho
  have hlen:=Zv4 op h0 h1 fee l0 l1;obtain⟨r,r1,r2,r3⟩:=ZKI u2 (outs0 op h0 h1 fee l0 l1) (by omega) hAm;rw[r1,ya];dsimp only;have hrl:=r2.length_eq;rw[if_pos (by simp[hrl])];exact⟨r,rfl,r2,λp q hp hq=>r3 p q hp (by omega)⟩
 ·intro k hk;rcases (show k=0∨k=1 by omega) with rfl|rfl
  ·exact e1
  ·exact e2
 ·unfold VA;rfl
end Go.Proofs.YtmkgbalfkhaflaaGreat
end
section
set_option maxRecDepth 100000
namespace Go.Proofs.YtmkgbalfkhaflaaGreat
open Go Go.Ev
noncomputable section
def his:FuncId→HI
 |7=>{ eqs:=true,own:=[],still:=[0,42,66,70,79,82,94,97,102,105,110,113,121,124,129,132,141,142,147,148,153,158,173,174,177,182,183,186,191,192,195,232,233,253],row:=[],deep:=[],frz:=[],ghost:=[],gst:=[]}
 |15=>{ eqs:=true,own:=[],still:=[7,8,20,45,48,49,50,55,56,57],row:=[],deep:=[],frz:=[],ghost:=[],gst:=[]}
 |50=>{ eqs:=true,own:=[],still:=[6],row:=[],deep:=[],frz:=[],ghost:=[],gst:=[]}
 |10=>{ eqs:=true,own:=[],still:=[12,13,23,28,37,38,42,43,44,45,58],row:=[],deep:=[],frz:=[],ghost:=[(55,[([6],Zi,84),([7],Zi,84)])],gst:=[]}
 |14=>{ eqs:=true,own:=[],still:=[2,30,33,35],row:=[],deep:=[],frz:=[],ghost:=[],gst:=[]}
 |16=>{ eqs:=true,own:=[72,134],still:=[4,5,20,30,38,40,58,62,63,65,72,73,95,97,101,102,103,105,107,122,123,124,125,127,134,135],row:=[],deep:=[],frz:=[],ghost:=[],gst:=[]}
 |13=>{ eqs:=true,own:=[3,15,17],still:=[2,15,16],row:=[],deep:=[],frz:=[],ghost:=[],gst:=[]}
 |48=>{ eqs:=true,own:=[8],still:=[8,9],row:=[],deep:=[],frz:=[],ghost:=[],gst:=[]}
 |47=>{ eqs:=true,own:=[0,16,28],still:=[4,8,10,20],row:=[],deep:=[],frz:=[],ghost:=[],gst:=[]}
 |43=>{ eqs:=true,own:=[],still:=[5,7,8],row:=[],deep:=[],frz:=[],ghost:=[],gst:=[]}
 |12=>{ eqs:=true,own:=[],still:=[3,12,19,37,38,41,43,45],row:=[],deep:=[],frz:=[],ghost:=[],gst:=[]}
 |44=>{ eqs:=true,own:=[],still:=[9,13,17,21],row:=[],deep:=[],frz:=[],ghost:=[],gst:=[]}
 |100=>{ eqs:=true,own:=[],still:=[3],row:=[],deep:=[],frz:=[],ghost:=[],gst:=[]}
 |99=>{ eqs:=true,own:=[],still:=[4,15],row:=[],deep:=[],frz:=[],ghost:=[],gst:=[]}
 |9=>{ eqs:=true,own:=[],still:=[2],row:=[],deep:=[],frz:=[],ghost:=[],gst:=[]}
 |103=>{ eqs:=true,own:=[5,7],still:=[2],row:=[],deep:=[],frz:=[],ghost:=[],gst:=[]}
 |_=>{}
def ghs:FuncId→List (Nat×GOp)
 |15=>[(8,.melt 13),(14,.nn 17)]
 |10=>[(10,.any 14 4 (.arr 2 Zn))]
 |_=>[]
def ZKJ:List (Fs yc):=[QX 18446744073709551616,Zea 18446744073709551616,ZfP 18446744073709551616,Zed 18446744073709551616,Zef 18446744073709551616,Zlk 18446744073709551616,Zhp 18446744073709551616,Zhv 18446744073709551616,ZiZ 18446744073709551616,Zga 18446744073709551616,Zf5 18446744073709551616,Zf8 18446744073709551616,Zgm 18446744073709551616,ZtN 18446744073709551616,ZnB 18446744073709551616,Zjs 18446744073709551616,WJ 18446744073709551616,WI 18446744073709551616,Zf9 18446744073709551616,Zb4 18446744073709551616,Zc4 18446744073709551616,Zgo 18446744073709551616,Zd6 18446744073709551616]
def specs:=ZKJ.map Fs.fo
def ZLT:List (TypeId×String×FuncId):=[]
theorem ZGW:AllOk specs:=Zzf ⟨okN QX Zd0,okN Zea ZaO,okN ZfP ZfQ,okN Zed Zee,okN Zef ZjQ,okN Zlk Zll,okN Zhp Wl,okN Zhv Zat,okN ZiZ Zi0,okN Zga Zlj,okN Zf5 Zf6,okN Zf8 Zlh,okN Zgm Zgn,okN ZtN Zie,okN ZnB ZtU,okN Zjs ZxH,okN WJ Zag,okN WI Zae,okN Zf9 Zli,okN Zb4 Zhe,okN Zc4 Zc5,okN Zgo Zlv,okN Zd6 V3,ytt⟩
theorem ZIA:MtOk yc ZLT:=trivial
theorem ran:ZJ3 yc his specs ZLT 100 7 ghs=some true:=by decide+kernel
def ZKK(F:Nat):Fs yc:=⟨7,[],[],[],[⟨.ret,[(0,.v .bool)],[],[.bool]⟩],λ_=>some true⟩
def ZI8:Fs yc:=ZKK fuel
theorem ZKL:ZI8.Ok:=ZJ4 ZGW ZIA ran
end
end Go.Proofs.YtmkgbalfkhaflaaGreat
end
section
set_option maxRecDepth 4000
namespace Go.Proofs.YtmkgbalfkhaflaaGreat
open Go Go.Ev
noncomputable section
def YN(F:Nat)(s0_0:ZE)(s0_1:Kit)(s0_2:Int)(s0_3:Int)(s0_4:(List Int))(s0_5:Int)(s0_6:(List Lock))(s0_7:Int)(s0_8:Sig)(s1:(List Cond))(s2:(List Msg))(s3:(List Msg)):Option ((Tx×ZE×Kit×Int×Int×(List Int)×Int×(List Lock)×Int×Sig×(List Cond)×(List Msg)×(List Msg))):=
 (closing_MakeM F s0_0 (s0_3,s0_4,s1,s0_5) s0_6 s0_7).bind λo1053=>
 some (o1053.1,s0_0,s0_1,s0_2,s0_3,s0_4,s0_5,s0_6,s0_7,s0_8,s1,s2,s3)
def ZlB:Fs yc:=⟨44,[.ref 0 []],[.var (.agg [.v Zf,.v Z4,.v yI,.agg [.v yI,.v (.arr 2 yI),.own 1 Zq,.v yI],.v (.arr 2 Zn),.v yI,.own 2 Zi,.own 3 Zi,.v ZX]) true,.log Zq 82,.log Zi 84,.log Zi 84],[Zf,Z4,yI,yI,(.arr 2 yI),yI,(.arr 2 Zn),yI,ZX,(.sl Zq),(.sl Zi),(.sl Zi)],[⟨.ret,[(0,.v yTx)],[.var (.agg [.v Zf,.v Z4,.v yI,.agg [.v yI,.v (.arr 2 yI),.own 1 Zq,.v yI],.v (.arr 2 Zn),.v yI,.own 2 Zi,.own 3 Zi,.v ZX]) true,.log Zq 82,.log Zi 84,.log Zi 84],[yTx,Zf,Z4,yI,yI,(.arr 2 yI),yI,(.arr 2 Zn),yI,ZX,(.sl Zq),(.sl Zi),(.sl Zi)]⟩],λx=>YN fuel x.1 x.2.1 x.2.2.1 x.2.2.2.1 x.2.2.2.2.1 x.2.2.2.2.2.1 x.2.2.2.2.2.2.1 x.2.2.2.2.2.2.2.1 x.2.2.2.2.2.2.2.2.1 x.2.2.2.2.2.2.2.2.2.1 x.2.2.2.2.2.2.2.2.2.2.1 x.2.2.2.2.2.2.2.2.2.2.2⟩
theorem Zkg:ZlB.Ok:=fnO { still:=[9,13,17,21]} [] [Zk3] ⟨ZjQ,ytt⟩
def ZI(F:Nat)(x0:ZE)(x1:Kit)(x2:Int)(x3:Int)(x4:(List Int))(x5:Int)(x6:(List Lock))(x7:Int)(x8:Sig)(x9:(List Cond))(x10:(List Msg))(x11:(List Msg)):Option (Tx):=(YN F x0 x1 x2 x3 x4 x5 x6 x7 x8 x9 x10 x11).map λo=>o.1
def Q1:Rs yc:=⟨44,[.ref 0 []],[.var (.agg [.v Zf,.v Z4,.v yI,.agg [.v yI,.v (.arr 2 yI),.own 1 Zq,.v yI],.v (.arr 2 Zn),.v yI,.own 2 Zi,.own 3 Zi,.v ZX]) true,.log Zq 82,.log Zi 84,.log Zi 84],[Zf,Z4,yI,yI,(.arr 2 yI),yI,(.arr 2 Zn),yI,ZX,(.sl Zq),(.sl Zi),(.sl Zi)],.v yTx,[yTx],λx=>ZI fuel x.1 x.2.1 x.2.2.1 x.2.2.2.1 x.2.2.2.2.1 x.2.2.2.2.2.1 x.2.2.2.2.2.2.1 x.2.2.2.2.2.2.2.1 x.2.2.2.2.2.2.2.2.1 x.2.2.2.2.2.2.2.2.2.1 x.2.2.2.2.2.2.2.2.2.2.1 x.2.2.2.2.2.2.2.2.2.2.2⟩
theorem Zbs:Q1.Ok:=by
 rintro⟨x0,x1,x2,x3,x4,x5,x6,x7,x8,x9,x10,x11⟩ o h;obtain⟨y,h1,h2⟩:=Zc (show(YN fuel x0 x1 x2 x3 x4 x5 x6 x7 x8 x9 x10 x11).map (λo=>o.1)=some o from h)
 have hk:y=(y.1,x0,x1,x2,x3,x4,x5,x6,x7,x8,x9,x10,x11):=by
  unfold YN at h1;obtain⟨z,g1,g2⟩:=Option.bind_eq_some_iff.1 h1;cases g2;rfl
 obtain⟨args,R,H,q1,q2,q3⟩:=Zkg (x0,x1,x2,x3,x4,x5,x6,x7,x8,x9,x10,x11) y h1;refine⟨args,R,H,q1,q2,λq hq=> ?_⟩;subst h2;obtain⟨r,e1,e2⟩:=q3 _ _ ([q.1],H) ⟨rfl,rfl⟩ (by rw[hk];cases q1;cases q2;cases hq;rfl);cases e1;exact e2
def W8(F:Nat)(s0_0:ZE)(s0_1:Kit)(s0_2:Int)(s0_3:Int)(s0_4:(List Int))(s0_5:Int)(s0_6:(List Lock))(s0_7:Int)(s0_8:Sig)(s1:(List Cond))(s2:(List Msg))(s3:(List Msg)):Option ((Tx×Bool×ZE×Kit×Int×Int×(List Int)×Int×(List Lock)×Int×Sig×(List Cond)×(List Msg)×(List Msg))):=
 (Vd F s3 13).bind λo1060=>
 if(!o1060.2)=true then
  some (([],[],0),false,s0_0,s0_1,s0_2,s0_3,s0_4,s0_5,s0_6,s0_7,s0_8,s1,s2,s3)
 else
 (ZI F s0_0 s0_1 s0_2 s0_3 s0_4 s0_5 s0_6 s0_7 s0_8 s1 s2 s3).bind λo1061=>
 (Xn F s0_1 o1061).bind λo1062=>
 if(inB s0_2 2)=true then
  (([s0_8,s0_8]:List Sig)[s0_2.toNat]?).bind λe1063=>
  ((([s0_8,s0_8]:List Sig).set s0_2.toNat o1062)[0]?).bind λe1064=>
  ((([s0_8,s0_8]:List Sig).set s0_2.toNat o1062)[1]?).bind λe1065=>
  (VS F o1061 e1064 e1065).bind λo1066=>
  some (o1066,true,s0_0,s0_1,s0_2,s0_3,s0_4,s0_5,s0_6,s0_7,s0_8,s1,s2,s3)
 else
 none
def Zgv:Fs yc:=⟨12,[.ref 0 []],[.var (.agg [.v Zf,.v Z4,.v yI,.agg [.v yI,.v (.arr 2 yI),.own 1 Zq,.v yI],.v (.arr 2 Zn),.v yI,.own 2 Zi,.own 3 Zi,.v ZX]) true,.log Zq 82,.log Zi 84,.log Zi 84],[Zf,Z4,yI,yI,(.arr 2 yI),yI,(.arr 2 Zn),yI,ZX,(.sl Zq),(.sl Zi),(.sl Zi)],[⟨.ret,[(0,.tup [.v yTx,.v .bool])],[.var (.agg [.v Zf,.v Z4,.v yI,.agg [.v yI,.v (.arr 2 yI),.own 1 Zq,.v yI],.v (.arr 2 Zn),.v yI,.own 2 Zi,.own 3 Zi,.v ZX]) true,.log Zq 82,.log Zi 84,.log Zi 84],[yTx,.bool,Zf,Z4,yI,yI,(.arr 2 yI),yI,(.arr 2 Zn),yI,ZX,(.sl Zq),(.sl Zi),(.sl Zi)]⟩],λx=>W8 fuel x.1 x.2.1 x.2.2.1 x.2.2.2.1 x.2.2.2.2.1 x.2.2.2.2.2.1 x.2.2.2.2.2.2.1 x.2.2.2.2.2.2.2.1 x.2.2.2.2.2.2.2.2.1 x.2.2.2.2.2.2.2.2.2.1 x.2.2.2.2.2.2.2.2.2.2.1 x.2.2.2.2.2.2.2.2.2.2.2⟩
def ZMy:HI:={ still:=[3,12,19,37,38,41,43,45]}
theorem Zmu:Zgv.Ok:=Ztc (fi:={ hi:=ZMy}) (specs:={ l:=[QB,ZhB,ZmX],mt:=[],ro:=[Q1]}) (okR ⟨V3,Zf6,Zlh,ytt⟩ trivial ⟨Zbs,ytt⟩)
def Zac(F:Nat)(a1:Msg)(s0:(List Msg)):Option ((List Msg)):=
 (Vd F s0 a1.1).bind λo1069=>
 if o1069.2=true then
  some s0
 else
 (Wc F a1.2.2.2.2.2.2.2.2.2.2.2.2.2).bind λo1070=>
 if(apB s0.length 1 328)=true then
  let y1071:(List Msg):=s0++([(a1.1,0,0,(0,0,0,0,0),0,[],a1.2.2.2.2.2.2.1,a1.2.2.2.2.2.2.2.1,yzz,0,([],[],0),(0,0,0,0,0),(0,0,0,0,0,0),o1070)]:List Msg)
  some y1071
 else
 none
def Zhh:Fs yc:=⟨47,[.own 0 Zi,.v Zi],[.log Zi 84],[Zi,(.sl Zi)],[⟨.ret,[(0,.own 0 Zi)],[.log Zi 84],[(.sl Zi)]⟩],λx=>Zac fuel x.1 x.2⟩
def ZMz:HI:={ own:=[0,4,15,16,28],still:=[8,10,20]}
theorem ZnG:Zhh.Ok:=fnO ZMz [] [QB,Zek] ⟨V3,Zc5,ytt⟩
abbrev ZLU:Type:=(Int×Int×ZE×Kit×Int×Int×(List Int)×Int×(List Lock)×Int×Sig×(List Cond)×(List Msg)×(List Msg)×(List Msg))
abbrev ZMA:Type:=(ZE×Kit×Int×Int×(List Int)×Int×(List Lock)×Int×Sig×(List Cond)×(List Msg)×(List Msg)×(List Msg))
def WB(F:Nat)(s:ZLU):Option (ZLU⊕ZMA):=
 if(decide (s.2.1 < s.1))=true then
  (idx s.2.2.2.2.2.2.2.2.2.2.2.2.1 s.2.1).bind λe1068=>
  (Zac F e1068 s.2.2.2.2.2.2.2.2.2.2.2.2.2.2).bind λo1072=>
  some (.inl (s.1,wi (s.2.1+1),s.2.2.1,s.2.2.2.1,s.2.2.2.2.1,s.2.2.2.2.2.1,s.2.2.2.2.2.2.1,s.2.2.2.2.2.2.2.1,s.2.2.2.2.2.2.2.2.1,s.2.2.2.2.2.2.2.2.2.1,s.2.2.2.2.2.2.2.2.2.2.1,s.2.2.2.2.2.2.2.2.2.2.2.1,s.2.2.2.2.2.2.2.2.2.2.2.2.1,s.2.2.2.2.2.2.2.2.2.2.2.2.2.1,o1072))
 else
 some (.inr (s.2.2.1,s.2.2.2.1,s.2.2.2.2.1,s.2.2.2.2.2.1,s.2.2.2.2.2.2.1,s.2.2.2.2.2.2.2.1,s.2.2.2.2.2.2.2.2.1,s.2.2.2.2.2.2.2.2.2.1,s.2.2.2.2.2.2.2.2.2.2.1,s.2.2.2.2.2.2.2.2.2.2.2.1,s.2.2.2.2.2.2.2.2.2.2.2.2.1,s.2.2.2.2.2.2.2.2.2.2.2.2.2.1,s.2.2.2.2.2.2.2.2.2.2.2.2.2.2))
def ZLV:List ESh:=[.var (.agg [.v Zf,.v Z4,.v yI,.agg [.v yI,.v (.arr 2 yI),.own 1 Zq,.v yI],.v (.arr 2 Zn),.v yI,.own 2 Zi,.own 3 Zi,.v ZX]) true,.log Zq 82,.log Zi 84,.log Zi 84,.log Zi 84]
abbrev ZMB:List Ty:=[Zf,Z4,yI,yI,(.arr 2 yI),yI,(.arr 2 Zn),yI,ZX,(.sl Zq),(.sl Zi),(.sl Zi),(.sl Zi)]
abbrev ZMC:List Ty:=[yI,yI,Zf,Z4,yI,yI,(.arr 2 yI),yI,(.arr 2 Zn),yI,ZX,(.sl Zq),(.sl Zi),(.sl Zi),(.sl Zi)]
def Zd3:Lp:=⟨[(3,.own 4 Zi),(9,.own 2 Zi),(10,.v yI),(11,.v yI)],ZLV,ZMC,[⟨.exit 0,[(3,.own 4 Zi)],ZLV,ZMB⟩],Zb (WB fuel) fuel⟩
def ZLW:HI:={ own:=[3,15,17],still:=[2,15,16]}
theorem Zit:Zd3.okA yc 13 0:=ZC ZLW [] [Zhh] ⟨ZnG,ytt⟩
def ZT(F:Nat)(s0_0:ZE)(s0_1:Kit)(s0_2:Int)(s0_3:Int)(s0_4:(List Int))(s0_5:Int)(s0_6:(List Lock))(s0_7:Int)(s0_8:Sig)(s1:(List Cond))(s2:(List Msg))(s3:(List Msg)):Option (((List Msg)×ZE×Kit×Int×Int×(List Int)×Int×(List Lock)×Int×Sig×(List Cond)×(List Msg)×(List Msg))):=
 (Zb (WB F) F ((s2.length:Int),0,s0_0,s0_1,s0_2,s0_3,s0_4,s0_5,s0_6,s0_7,s0_8,s1,s2,s3,[])).bind λo1073=>
 some (o1073.2.2.2.2.2.2.2.2.2.2.2.2,o1073.1,o1073.2.1,o1073.2.2.1,o1073.2.2.2.1,o1073.2.2.2.2.1,o1073.2.2.2.2.2.1,o1073.2.2.2.2.2.2.1,o1073.2.2.2.2.2.2.2.1,o1073.2.2.2.2.2.2.2.2.1,o1073.2.2.2.2.2.2.2.2.2.1,o1073.2.2.2.2.2.2.2.2.2.2.1,o1073.2.2.2.2.2.2.2.2.2.2.2.1)
def Vs:Fs yc:=⟨13,[.ref 0 []],[.var (.agg [.v Zf,.v Z4,.v yI,.agg [.v yI,.v (.arr 2 yI),.own 1 Zq,.v yI],.v (.arr 2 Zn),.v yI,.own 2 Zi,.own 3 Zi,.v ZX]) true,.log Zq 82,.log Zi 84,.log Zi 84],[Zf,Z4,yI,yI,(.arr 2 yI),yI,(.arr 2 Zn),yI,ZX,(.sl Zq),(.sl Zi),(.sl Zi)],[⟨.ret,[(0,.v (.sl Zi))],[.var (.agg [.v Zf,.v Z4,.v yI,.agg [.v yI,.v (.arr 2 yI),.own 1 Zq,.v yI],.v (.arr 2 Zn),.v yI,.own 2 Zi,.own 3 Zi,.v ZX]) true,.log Zq 82,.log Zi 84,.log Zi 84],[(.sl Zi),Zf,Z4,yI,yI,(.arr 2 yI),yI,(.arr 2 Zn),yI,ZX,(.sl Zq),(.sl Zi),(.sl Zi)]⟩],λx=>ZT fuel x.1 x.2.1 x.2.2.1 x.2.2.2.1 x.2.2.2.2.1 x.2.2.2.2.2.1 x.2.2.2.2.2.2.1 x.2.2.2.2.2.2.2.1 x.2.2.2.2.2.2.2.2.1 x.2.2.2.2.2.2.2.2.2.1 x.2.2.2.2.2.2.2.2.2.2.1 x.2.2.2.2.2.2.2.2.2.2.2⟩
theorem Q2:Vs.Ok:=fnO ZLW [(0,Zd3)] [] trivial ⟨Zit,ytt⟩
def YH(F:Nat)(a1:Msg)(s0:(List Msg)):Option ((List Msg)):=
 (Vd F s0 a1.1).bind λo1077=>
 if o1077.2=true then
  some s0
 else
 (Wc F a1.2.2.2.2.2.2.2.2.2.2.2.2.2).bind λo1078=>
 if(apB s0.length 1 328)=true then
  let y1079:(List Msg):=s0++([(a1.1,0,0,(0,0,0,0,0),0,[],a1.2.2.2.2.2.2.1,a1.2.2.2.2.2.2.2.1,yzz,0,([],[],0),(0,0,0,0,0),(0,0,0,0,0,0),o1078)]:List Msg)
  some y1079
 else
 none
def Zcf:Fs yc:=⟨47,[.own 0 Zi,.v Zi],[.log Zi 84],[Zi,(.sl Zi)],[⟨.ret,[(0,.own 0 Zi)],[.log Zi 84],[(.sl Zi)]⟩],λx=>YH fuel x.1 x.2⟩
theorem Zgw:Zcf.Ok:=fnO ZMi [] [QB,Zek] ⟨V3,Zc5,ytt⟩
def Yp(F:Nat)(a1:Msg)(s0_0:ZE)(s0_1:Kit)(s0_2:Int)(s0_3:Int)(s0_4:(List Int))(s0_5:Int)(s0_6:(List Lock))(s0_7:Int)(s0_8:Sig)(s1:(List Cond))(s2:(List Msg))(s3:(List Msg)):Option ((ZE×Kit×Int×Int×(List Int)×Int×(List Lock)×Int×Sig×(List Cond)×(List Msg)×(List Msg))):=
 (YH F a1 s2).bind λo1080=>
 some (s0_0,s0_1,s0_2,s0_3,s0_4,s0_5,s0_6,s0_7,s0_8,s1,o1080,s3)
def Zcg:Fs yc:=⟨48,[.ref 0 [],.v Zi],[.var (.agg [.v Zf,.v Z4,.v yI,.agg [.v yI,.v (.arr 2 yI),.own 1 Zq,.v yI],.v (.arr 2 Zn),.v yI,.own 2 Zi,.own 3 Zi,.v ZX]) true,.log Zq 82,.log Zi 84,.log Zi 84],[Zi,Zf,Z4,yI,yI,(.arr 2 yI),yI,(.arr 2 Zn),yI,ZX,(.sl Zq),(.sl Zi),(.sl Zi)],[⟨.ret,[(0,.tup [])],[.var (.agg [.v Zf,.v Z4,.v yI,.agg [.v yI,.v (.arr 2 yI),.own 1 Zq,.v yI],.v (.arr 2 Zn),.v yI,.own 2 Zi,.own 3 Zi,.v ZX]) true,.log Zq 82,.log Zi 84,.log Zi 84],[Zf,Z4,yI,yI,(.arr 2 yI),yI,(.arr 2 Zn),yI,ZX,(.sl Zq),(.sl Zi),(.sl Zi)]⟩],λx=>Yp fuel x.1 x.2.1 x.2.2.1 x.2.2.2.1 x.2.2.2.2.1 x.2.2.2.2.2.1 x.2.2.2.2.2.2.1 x.2.2.2.2.2.2.2.1 x.2.2.2.2.2.2.2.2.1 x.2.2.2.2.2.2.2.2.2.1 x.2.2.2.2.2.2.2.2.2.2.1 x.2.2.2.2.2.2.2.2.2.2.2.1 x.2.2.2.2.2.2.2.2.2.2.2.2⟩
theorem Zgx:Zcg.Ok:=fnO { own:=[8],still:=[8,9]} [] [Zcf] ⟨Zgw,ytt⟩
def ZU(F:Nat)(s0_0:ZE)(s0_1:Kit)(s0_2:Int)(s0_3:Int)(s0_4:(List Int))(s0_5:Int)(s0_6:(List Lock))(s0_7:Int)(s0_8:Sig)(s1:(List Cond))(s2:(List Msg))(s3:(List Msg)):Option (((List Msg)×ZE×Kit×Int×Int×(List Int)×Int×(List Lock)×Int×Sig×(List Cond)×(List Msg)×(List Msg))):=
 if(s0_2==s0_0.2.2.2.2)=true then
  if(inB s0_2 2)=true then
   (s0_6[s0_2.toNat]?).bind λe1075=>
   (VE F e1075).bind λo1076=>
   (Yp F (12,0,0,(0,0,0,0,0),0,[],s0_7,(0,0),yzz,0,([],[],0),(0,0,0,0,0),(0,0,0,0,0,0),o1076) s0_0 s0_1 s0_2 s0_3 s0_4 s0_5 s0_6 s0_7 s0_8 s1 s2 s3).bind λo1081=>
   (ZT F o1081.1 o1081.2.1 o1081.2.2.1 o1081.2.2.2.1 o1081.2.2.2.2.1 o1081.2.2.2.2.2.1 o1081.2.2.2.2.2.2.1 o1081.2.2.2.2.2.2.2.1 o1081.2.2.2.2.2.2.2.2.1 o1081.2.2.2.2.2.2.2.2.2.1 o1081.2.2.2.2.2.2.2.2.2.2.1 o1081.2.2.2.2.2.2.2.2.2.2.2).bind λo1082=>
   some (o1082.1,o1082.2.1,o1082.2.2.1,o1082.2.2.2.1,o1082.2.2.2.2.1,o1082.2.2.2.2.2.1,o1082.2.2.2.2.2.2.1,o1082.2.2.2.2.2.2.2.1,o1082.2.2.2.2.2.2.2.2.1,o1082.2.2.2.2.2.2.2.2.2.1,o1082.2.2.2.2.2.2.2.2.2.2.1,o1082.2.2.2.2.2.2.2.2.2.2.2.1,o1082.2.2.2.2.2.2.2.2.2.2.2.2)
  else
  none
 else
 if(inB s0_2 2)=true then
  (s0_6[s0_2.toNat]?).bind λe1083=>
  (VE F e1083).bind λo1084=>
  (Yp F (12,0,0,(0,0,0,0,0),0,[],0,(0,0),yzz,0,([],[],0),(0,0,0,0,0),(0,0,0,0,0,0),o1084) s0_0 s0_1 s0_2 s0_3 s0_4 s0_5 s0_6 s0_7 s0_8 s1 s2 s3).bind λo1085=>
  (ZT F o1085.1 o1085.2.1 o1085.2.2.1 o1085.2.2.2.1 o1085.2.2.2.2.1 o1085.2.2.2.2.2.1 o1085.2.2.2.2.2.2.1 o1085.2.2.2.2.2.2.2.1 o1085.2.2.2.2.2.2.2.2.1 o1085.2.2.2.2.2.2.2.2.2.1 o1085.2.2.2.2.2.2.2.2.2.2.1 o1085.2.2.2.2.2.2.2.2.2.2.2).bind λo1086=>
  some (o1086.1,o1086.2.1,o1086.2.2.1,o1086.2.2.2.1,o1086.2.2.2.2.1,o1086.2.2.2.2.2.1,o1086.2.2.2.2.2.2.1,o1086.2.2.2.2.2.2.2.1,o1086.2.2.2.2.2.2.2.2.1,o1086.2.2.2.2.2.2.2.2.2.1,o1086.2.2.2.2.2.2.2.2.2.2.1,o1086.2.2.2.2.2.2.2.2.2.2.2.1,o1086.2.2.2.2.2.2.2.2.2.2.2.2)
 else
 none
def Vt:Fs yc:=⟨14,[.ref 0 []],[.var (.agg [.v Zf,.v Z4,.v yI,.agg [.v yI,.v (.arr 2 yI),.own 1 Zq,.v yI],.v (.arr 2 Zn),.v yI,.own 2 Zi,.own 3 Zi,.v ZX]) true,.log Zq 82,.log Zi 84,.log Zi 84],[Zf,Z4,yI,yI,(.arr 2 yI),yI,(.arr 2 Zn),yI,ZX,(.sl Zq),(.sl Zi),(.sl Zi)],[⟨.ret,[(0,.v (.sl Zi))],[.var (.agg [.v Zf,.v Z4,.v yI,.agg [.v yI,.v (.arr 2 yI),.own 1 Zq,.v yI],.v (.arr 2 Zn),.v yI,.own 2 Zi,.own 3 Zi,.v ZX]) true,.log Zq 82,.log Zi 84,.log Zi 84],[(.sl Zi),Zf,Z4,yI,yI,(.arr 2 yI),yI,(.arr 2 Zn),yI,ZX,(.sl Zq),(.sl Zi),(.sl Zi)]⟩],λx=>ZU fuel x.1 x.2.1 x.2.2.1 x.2.2.2.1 x.2.2.2.2.1 x.2.2.2.2.2.1 x.2.2.2.2.2.2.1 x.2.2.2.2.2.2.2.1 x.2.2.2.2.2.2.2.2.1 x.2.2.2.2.2.2.2.2.2.1 x.2.2.2.2.2.2.2.2.2.2.1 x.2.2.2.2.2.2.2.2.2.2.2⟩
theorem Q3:Vt.Ok:=fnO { still:=[2,30,33,35]} [] [ZbT,Zcg,Vs] ⟨Zat,Zgx,Q2,ytt⟩
def Z3(F:Nat)(a1:Msg)(s0_0:ZE)(s0_1:Kit)(s0_2:Int)(s0_3:Int)(s0_4:(List Int))(s0_5:Int)(s0_6:(List Lock))(s0_7:Int)(s0_8:Sig)(s1:(List Cond))(s2:(List Msg))(s3:(List Msg)):Option (((List Msg)×Int×ZE×Kit×Int×Int×(List Int)×Int×(List Lock)×Int×Sig×(List Cond)×(List Msg)×(List Msg))):=
 (Vd F s3 12).bind λo1097=>
 if(a1.1==12)=true then
  (Za8 F a1.2.2.2.2.2.2.2.2.2.2.2.2.2).bind λo1098=>
  if o1097.2=true then
   (Zff F o1097.1.2.2.2.2.2.2.2.2.2.2.2.2.2 a1.2.2.2.2.2.2.2.2.2.2.2.2.2).bind λo1099=>
   if(!o1099)=true then
    some ([],4,s0_0,s0_1,s0_2,s0_3,s0_4,s0_5,s0_6,s0_7,s0_8,s1,s2,s3)
   else
   if(o1097.1.2.2.2.2.2.2.1 !=a1.2.2.2.2.2.2.1)=true then
    some ([],4,s0_0,s0_1,s0_2,s0_3,s0_4,s0_5,s0_6,s0_7,s0_8,s1,s2,s3)
   else
   if(!o1098.2)=true then
    some ([],2,s0_0,s0_1,s0_2,s0_3,s0_4,s0_5,s0_6,s0_7,s0_8,s1,s2,s3)
   else
   (YS F s0_0 (s0_3,s0_4,s1,s0_5) (wi (1 - s0_2)) a1.2.2.2.2.2.2.1).bind λo1100=>
   if(!o1100)=true then
    some ([],13,s0_0,s0_1,s0_2,s0_3,s0_4,s0_5,s0_6,s0_7,s0_8,s1,s2,s3)
   else
   (YH F a1 s3).bind λo1101=>
   if(inB (wi (1 - s0_2)) 2)=true then
    (s0_6[(wi (1 - s0_2)).toNat]?).bind λe1102=>
    if((wi (1 - s0_2))==s0_0.2.2.2.2)=true then
     (ZU F s0_0 s0_1 s0_2 s0_3 s0_4 s0_5 (s0_6.set ((wi (1 - s0_2)).toNat) o1098.1) a1.2.2.2.2.2.2.1 s0_8 s1 s2 o1101).bind λ(_,A,B,C,D,E,G,H,I,J,K,L,M)=>
     (ZI F A B C D E G H I J K L M).bind λo1104=>
     (Xn F B o1104).bind λo1105=>
     (Yp F (13,0,0,(0,0,0,0,0),0,[],0,o1105,yzz,0,([],[],0),(0,0,0,0,0),(0,0,0,0,0,0),[]) A B C D E G H I J K L M).bind λ(n,o,p,q,r,t,u,v,w,x,y,z)=>
     (ZT F n o p q r t u v w x y z).bind λ(a,b,c,d,e,f,g,h,i,j,k,l,m)=>
     some (a,0,b,c,d,e,f,g,h,i,j,k,l,m)
    else
    (ZU F s0_0 s0_1 s0_2 s0_3 s0_4 s0_5 (s0_6.set ((wi (1 - s0_2)).toNat) o1098.1) s0_7 s0_8 s1 s2 o1101).bind λ(_,A,B,C,D,E,G,H,I,J,K,L,M)=>
    (ZI F A B C D E G H I J K L M).bind λo1109=>
    (Xn F B o1109).bind λo1110=>
    (Yp F (13,0,0,(0,0,0,0,0),0,[],0,o1110,yzz,0,([],[],0),(0,0,0,0,0),(0,0,0,0,0,0),[]) A B C D E G H I J K L M).bind λ(n,o,p,q,r,t,u,v,w,x,y,z)=>
    (ZT F n o p q r t u v w x y z).bind λ(a,b,c,d,e,f,g,h,i,j,k,l,m)=>
    some (a,0,b,c,d,e,f,g,h,i,j,k,l,m)
   else
   none
  else
  if(!o1098.2)=true then
   some ([],2,s0_0,s0_1,s0_2,s0_3,s0_4,s0_5,s0_6,s0_7,s0_8,s1,s2,s3)
  else
  (YS F s0_0 (s0_3,s0_4,s1,s0_5) (wi (1 - s0_2)) a1.2.2.2.2.2.2.1).bind λo1113=>
  if(!o1113)=true then
   some ([],13,s0_0,s0_1,s0_2,s0_3,s0_4,s0_5,s0_6,s0_7,s0_8,s1,s2,s3)
  else
  (YH F a1 s3).bind λo1114=>
  if(inB (wi (1 - s0_2)) 2)=true then
   (s0_6[(wi (1 - s0_2)).toNat]?).bind λe1115=>
   if((wi (1 - s0_2))==s0_0.2.2.2.2)=true then
    (ZU F s0_0 s0_1 s0_2 s0_3 s0_4 s0_5 (s0_6.set ((wi (1 - s0_2)).toNat) o1098.1) a1.2.2.2.2.2.2.1 s0_8 s1 s2 o1114).bind λ(_,A,B,C,D,E,G,H,I,J,K,L,M)=>
    (ZI F A B C D E G H I J K L M).bind λo1117=>
    (Xn F B o1117).bind λo1118=>
    (Yp F (13,0,0,(0,0,0,0,0),0,[],0,o1118,yzz,0,([],[],0),(0,0,0,0,0),(0,0,0,0,0,0),[]) A B C D E G H I J K L M).bind λ(n,o,p,q,r,t,u,v,w,x,y,z)=>
    (ZT F n o p q r t u v w x y z).bind λ(a,b,c,d,e,f,g,h,i,j,k,l,m)=>
    some (a,0,b,c,d,e,f,g,h,i,j,k,l,m)
   else
   (ZU F s0_0 s0_1 s0_2 s0_3 s0_4 s0_5 (s0_6.set ((wi (1 - s0_2)).toNat) o1098.1) s0_7 s0_8 s1 s2 o1114).bind λ(_,A,B,C,D,E,G,H,I,J,K,L,M)=>
   (ZI F A B C D E G H I J K L M).bind λo1122=>
   (Xn F B o1122).bind λo1123=>
   (Yp F (13,0,0,(0,0,0,0,0),0,[],0,o1123,yzz,0,([],[],0),(0,0,0,0,0),(0,0,0,0,0,0),[]) A B C D E G H I J K L M).bind λ(n,o,p,q,r,t,u,v,w,x,y,z)=>
   (ZT F n o p q r t u v w x y z).bind λ(a,b,c,d,e,f,g,h,i,j,k,l,m)=>
   some (a,0,b,c,d,e,f,g,h,i,j,k,l,m)
  else
  none
 else
 if(a1.1==13)=true then
  if(!o1097.2)=true then
   some ([],14,s0_0,s0_1,s0_2,s0_3,s0_4,s0_5,s0_6,s0_7,s0_8,s1,s2,s3)
  else
  if(inB (wi (1 - s0_2)) 2)=true then
   (s0_0.2.2.1[(wi (1 - s0_2)).toNat]?).bind λe1126=>
   (ZI F s0_0 s0_1 s0_2 s0_3 s0_4 s0_5 s0_6 s0_7 s0_8 s1 s2 s3).bind λo1127=>
   (Zf2 F o1127).bind λo1128=>
   (sign_VerifyM F e1126.1 o1128 a1.2.2.2.2.2.2.2.1).bind λo1129=>
   if(!o1129)=true then
    some ([],7,s0_0,s0_1,s0_2,s0_3,s0_4,s0_5,s0_6,s0_7,s0_8,s1,s2,s3)
   else
   (YH F a1 s3).bind λo1130=>
   some ([],0,s0_0,s0_1,s0_2,s0_3,s0_4,s0_5,s0_6,s0_7,a1.2.2.2.2.2.2.2.1,s1,s2,o1130)
  else
  none
 else
 some ([],1,s0_0,s0_1,s0_2,s0_3,s0_4,s0_5,s0_6,s0_7,s0_8,s1,s2,s3)
def Zbb:Fs yc:=⟨16,[.ref 0 [],.v Zi],[.var (.agg [.v Zf,.v Z4,.v yI,.agg [.v yI,.v (.arr 2 yI),.own 1 Zq,.v yI],.v (.arr 2 Zn),.v yI,.own 2 Zi,.own 3 Zi,.v ZX]) true,.log Zq 82,.log Zi 84,.log Zi 84],[Zi,Zf,Z4,yI,yI,(.arr 2 yI),yI,(.arr 2 Zn),yI,ZX,(.sl Zq),(.sl Zi),(.sl Zi)],[⟨.ret,[(0,.tup [.v (.sl Zi),.v yI])],[.var (.agg [.v Zf,.v Z4,.v yI,.agg [.v yI,.v (.arr 2 yI),.own 1 Zq,.v yI],.v (.arr 2 Zn),.v yI,.own 2 Zi,.own 3 Zi,.v ZX]) true,.log Zq 82,.log Zi 84,.log Zi 84],[(.sl Zi),yI,Zf,Z4,yI,yI,(.arr 2 yI),yI,(.arr 2 Zn),yI,ZX,(.sl Zq),(.sl Zi),(.sl Zi)]⟩],λx=>Z3 fuel x.1 x.2.1 x.2.2.1 x.2.2.2.1 x.2.2.2.2.1 x.2.2.2.2.2.1 x.2.2.2.2.2.2.1 x.2.2.2.2.2.2.2.1 x.2.2.2.2.2.2.2.2.1 x.2.2.2.2.2.2.2.2.2.1 x.2.2.2.2.2.2.2.2.2.2.1 x.2.2.2.2.2.2.2.2.2.2.2.1 x.2.2.2.2.2.2.2.2.2.2.2.2⟩
def ZMD:HI:={ own:=[72,134],still:=[4,5,20,30,38,40,58,62,63,65,72,73,95,97,101,102,103,105,107,122,123,124,125,127,134,135]}
theorem ZeI:Zbb.Ok:=Ztc (fi:={ hi:=ZMD}) (specs:={ l:=[Zcf,QB,ZkW,Zm1,ZbQ,Vt,ZhB,Zcg,Vs,Zl1,ZhM],mt:=[],ro:=[Q1]}) (okR ⟨Zgw,V3,Zi0,Zlv,ZaO,Q3,Zf6,Zgx,Q2,Zie,Zgn,ytt⟩ trivial ⟨Zbs,ytt⟩)
end
end Go.Proofs.YtmkgbalfkhaflaaGreat
end
section
set_option maxRecDepth 4000
namespace Go.Proofs.YtmkgbalfkhaflaaGreat
open Go Go.Ev
theorem ZEh{l r:List Out}(h:l.Perm r):amts l=amts r:=by
 unfold amts
 induction h with
 |nil=>rfl
 |cons x _ ih=>rw[yag,yag,List.sum_cons,List.sum_cons,ih]
 |swap x y l=>rw[yag,yag,yag,yag,List.sum_cons,List.sum_cons,List.sum_cons,List.sum_cons];omega
 |trans _ _ ih1 ih2=>rw[ih1,ih2]
def shn(n:Int):Int:=if n ≥ 100 then n else 0
theorem ZGX(op h0 h1 fee:Int)(l0 l1:Lock):amts (outs0 op h0 h1 fee l0 l1)=shn (Zel op h0 h1 fee 0)+shn (Zel op h0 h1 fee 1):=by
 unfold outs0 Zqe shn amts;split <;> split <;> simp
theorem ZIB{op h0 h1 fee:Int}{l0 l1:Lock}{o:Out}(h:o∈outs0 op h0 h1 fee l0 l1):o.1 ≥ 100∧∃i:Int,(i=0∨i=1)∧o=(Zel op h0 h1 fee i,ZGU l0 l1 i):=by
 unfold outs0 Zqe at h;rw[yci] at h;rcases h with h|h
 all_goals
  split at h
  ·rw[yan] at h;subst h;exact⟨by assumption,_,by simp,rfl⟩
  ·simp at h
theorem Zfg{op h0 h1 fee:Int}(p0:0≤h0)(p1:0≤h1)(hA:h0+h1≤4300000000)(f0:52≤fee)(f1:fee≤hav op h0 h1)(i:Int):0≤Zel op h0 h1 fee i∧Zel op h0 h1 fee i≤4300000000:=by
 unfold Zel hav at*;by_cases hi:i=op
 ·subst hi;rw[if_pos rfl];split at f1 <;> split <;> omega
 ·rw[if_neg hi];split <;> omega
theorem ZzN{op h0 h1 fee:Int}(ho:op=0∨op=1):Zel op h0 h1 fee 0+Zel op h0 h1 fee 1=h0+h1 - fee:=by
 unfold Zel hav;rcases ho with rfl|rfl
 ·simp;omega
 ·simp;omega
theorem Mk.outs{op h0 h1 fee:Int}{l0 l1:Lock}{r:List Out}(h:Mk op h0 h1 fee l0 l1 r)(p0:0≤h0)(p1:0≤h1)(hA:h0+h1≤4300000000)(f0:52≤fee)(f1:fee≤hav op h0 h1)(g0:Wh l0∧Vg l0)(g1:Wh l1∧Vg l1):
 r.length≤2∧(∀o,o∈r→o.1 ≥ 100∧o.1≤4300000000∧Zt4 o)∧amts r=shn (Zel op h0 h1 fee 0)+shn (Zel op h0 h1 fee 1)∧TxWf (([((z32,0),(0,[],0))]:List In),r,2097154)∧TxOk (([((z32,0),(0,[],0))]:List In),r,2097154)∧amts r≤1125899906842624:=by
 have hl:=h.pm.length_eq;have hl2:=Zv4 op h0 h1 fee l0 l1;have q0:=Zfg p0 p1 hA f0 f1 0;have q1:=Zfg p0 p1 hA f0 f1 1
 have ho:∀o,o∈r→o.1 ≥ 100∧o.1≤4300000000∧Zt4 o:=by
  intro o ho;obtain⟨h1',i,hi,rfl⟩:=ZIB (h.pm.mem_iff.1 ho);have hp:=Zfg p0 p1 hA f0 f1 i;refine⟨h1',hp.2,by dsimp only;omega,by dsimp only;omega, ?_⟩;rcases hi with rfl|rfl
  ·exact g0
  ·exact g1
 have hs:amts r=shn (Zel op h0 h1 fee 0)+shn (Zel op h0 h1 fee 1):=by rw[ZEh h.pm,ZGX]
 have hx:∀x,x∈([((z32,0),(0,[],0))]:List In)→x=((z32,0),(0,[],0)):=λx hx=>yan.1 hx;refine⟨by omega,ho,hs,⟨λx h=>by rw[hx x h];rfl,by show(2097154:Int)≤_;decide⟩,⟨by simp,by simp,by dsimp only;omega,by show(0:Int)≤2097154;decide,λx h=>by rw[hx x h];refine⟨by decide,by decide,by decide,by decide,by decide⟩,λo h=>(ho o h).2.2⟩, ?_⟩;rw[hs];unfold shn;split <;> split <;> omega
def ZKM:Msg:=((0:Int),(0:Int),(0:Int),((0:Int),(0:Int),(0:Int),(0:UInt64),(0:Int)),(0:UInt64),([]:List UInt8),(0:Int),((0:UInt64),(0:UInt64)),yzz,(0:UInt64),(([]:List In),([]:List Out),(0:Int)),((0:UInt64),(0:UInt64),(0:UInt64),(0:UInt64),(0:UInt64)),((0:Int),(0:Int),(0:Int),(0:Int),(0:Int),(0:Int)),([]:List UInt8))
def fnd(l:List Msg)(k:Int):Option Msg:=l.find? λe=>e.1==k
theorem ZGY{l:List Msg}(hl:l.length≤1000000)(k:Int):(fnd l k=none∧ZkH fuel l k=some (-1,k))∨∃(j:Nat)(e:Msg),fnd l k=some e∧l[j]? =some e∧ZkH fuel l k=some ((j:Int),k):=by
 unfold ZkH
 obtain⟨x,g1,g2⟩:=Yk (step:=Zdz fuel) l.length (λj s=>s=(l,(l.length:Int),(j:Int),k)∧fnd l k=fnd (l.drop j) k) (λx=>(x=.inr k∧fnd l k=none)∨∃(j:Nat)(e:Msg),x=.inl ((j:Int),k)∧fnd l k=some e∧l[j]? =some e) (i:=(l,(l.length:Int),(0:Int),k)) ⟨rfl,rfl⟩ (by omega) (by
  rintro j _ hk ⟨rfl,hj⟩;obtain⟨e,he,hm⟩:=Zk hk;unfold Zdz Zd5;dsimp only;rw[if_pos (Z9 hk),Zp he,ya,ya,Zs (by omega)];rw[ZCT he] at hj;unfold fnd at hj ⊢;rw[List.find?_cons] at hj;by_cases h:e.1=k
  ·have hb:(e.1==k)=true:=by rw[h];exact beq_self_eq_true _
   rw[hb] at hj;right;dsimp only;rw[if_pos hb];exact⟨_,rfl,.inr ⟨j,e,rfl,hj,he⟩⟩
  ·have hb:(e.1==k)=false:=by rw[beq_eq_false_iff_ne];exact h
   rw[hb] at hj;left;dsimp only;rw[if_neg (by rw[hb];decide)];exact⟨_,rfl,rfl,hj⟩) (by
  rintro _ ⟨rfl,hj⟩;unfold Zdz;dsimp only;rw[if_neg (by rw[ZW];decide)];rw[List.drop_length] at hj;exact⟨_,rfl,.inl ⟨rfl,hj⟩⟩)
 rw[g1,ya];rcases g2 with⟨rfl,g2⟩|⟨j,e,rfl,g2,g3⟩
 ·exact .inl ⟨g2,rfl⟩
 ·exact .inr ⟨j,e,g2,g3,rfl⟩
theorem Zl6{l:List Msg}(hl:l.length≤1000000)(k:Int):Vd fuel l k=some ((fnd l k).getD ZKM,(fnd l k).isSome):=by
 unfold Vd;rcases ZGY hl k with⟨h1,h2⟩|⟨j,e,h1,h2,h3⟩
 ·rw[h2,h1,ya];rfl
 ·rw[h3,h1,ya,if_neg (ynd (by omega)),Zp h2];rfl
theorem Zv5{b:List UInt8}(h:b.length≤1000000000):Wc fuel b=some b:=by
 unfold Wc;rw[if_pos (Z2 (by omega) (by omega))]
def ZME(m:Msg):Msg:=(m.1,0,0,(0,0,0,0,0),0,[],m.2.2.2.2.2.2.1,m.2.2.2.2.2.2.2.1,yzz,0,([],[],0),(0,0,0,0,0),(0,0,0,0,0,0),m.2.2.2.2.2.2.2.2.2.2.2.2.2)
def byt(m:Msg):List UInt8:=m.2.2.2.2.2.2.2.2.2.2.2.2.2
def YZ(l:List Msg)(m:Msg):List Msg:=if(fnd l m.1).isSome=true then l else l++[ZME m]
theorem ZGZ{l:List Msg}{m:Msg}(hl:l.length≤1000000)(hm:(byt m).length≤1000000000):Zac fuel m l=some (YZ l m):=by
 unfold Zac YZ;rw[Zl6 hl,ya];dsimp only;split
 ·rfl
 ·have hb:Wc fuel m.2.2.2.2.2.2.2.2.2.2.2.2.2=some m.2.2.2.2.2.2.2.2.2.2.2.2.2:=Zv5 hm;rw[hb,ya,if_pos (Z2 (by omega) (by omega))];rfl
theorem Zuc{l:List Msg}{m:Msg}(hl:l.length≤1000000)(hm:(byt m).length≤1000000000):YH fuel m l=some (YZ l m):=by
 unfold YH YZ;rw[Zl6 hl,ya];dsimp only;split
 ·rfl
 ·have hb:Wc fuel m.2.2.2.2.2.2.2.2.2.2.2.2.2=some m.2.2.2.2.2.2.2.2.2.2.2.2.2:=Zv5 hm;rw[hb,ya,if_pos (Z2 (by omega) (by omega))];rfl
def Zgy(l:List Msg):List Msg:=l.foldl YZ []
theorem Zl7(l:List Msg)(m:Msg):(YZ l m).length≤l.length+1:=by
 unfold YZ;split <;> simp
theorem ZzO:∀(l acc:List Msg),(l.foldl YZ acc).length≤acc.length+l.length
 |[],acc=>by simp
 |m::r,acc=>by
  have h1:=ZzO r (YZ acc m);have h2:=Zl7 acc m;rw[List.foldl_cons,yae];omega
theorem Zpi{l:List Msg}(hl:l.length≤100000)(hm:∀m,m∈l→(byt m).length≤1000000000)(c:ZE)(k:Kit)(me no:Int)(hv:List Int)(r:Int)(lk:List Lock)(fee:Int)(sg:Sig)(cs:List Cond)(hd:List Msg):
 ZT fuel c k me no hv r lk fee sg cs l hd=some (Zgy l,c,k,me,no,hv,r,lk,fee,sg,cs,l,hd):=by
 unfold ZT
 rw[show((l.length:Int),(0:Int),c,k,me,no,hv,r,lk,fee,sg,cs,l,hd,([]:List Msg))=(λj:Nat=>((l.length:Int),(j:Int),c,k,me,no,hv,r,lk,fee,sg,cs,l,hd,Zgy (l.take j))) 0 from rfl,
  ZN (x:=(c,k,me,no,hv,r,lk,fee,sg,cs,l,hd,Zgy l)) l.length (λj:Nat=>((l.length:Int),(j:Int),c,k,me,no,hv,r,lk,fee,sg,cs,l,hd,Zgy (l.take j))) ?_ ?_ (by omega),ya]
 ·intro j hj;obtain⟨e,he,hme⟩:=Zk hj;have h1:=ZzO (l.take j) [];rw[yai] at h1;unfold WB;dsimp only;rw[if_pos (Z9 hj),Zp he,ya,ZGZ (by unfold Zgy;simp at h1 ⊢;omega) (hm e hme),ya,Zs (by omega),Zfe he];unfold Zgy;rw[List.foldl_append];rfl
 ·unfold WB;dsimp only;rw[if_neg (by rw[ZW];decide),ybk]
theorem ZEi(k:Kit):Zfd fuel k=some (ZY k):=by
 unfold Zfd;rw[Zdn,ya,Zdn,ya,Zdn,ya,Zdn,ya,Zdn,ya];rfl
def ZzP(k0 k1:Kit)(me:Int):Kit:=if me=1 then k1 else k0
def ZzQ(op h0 h1 me fee:Int):Bool:=if me=op then decide (52≤fee∧fee≤hav op h0 h1) else fee==0
theorem ZCZ{A:Int}{k0 k1:Kit}{op:Int}(ho:op=0∨op=1){s:State}{h0 h1:Int}(hv:s.2.1=[h0,h1])(me fee:Int):YS fuel (Z7 A k0 k1 op) s me fee=some (ZzQ op h0 h1 me fee):=by
 unfold ZzQ;by_cases h:me=op
 ·rw[if_pos h,h,ZCY ho hv]
 ·rw[if_neg h,ZIy h]
theorem ZKN{A:Int}{k0 k1:Kit}{op:Int}(h:ChOk A k0 k1 op){s:State}{h0 h1:Int}(hs:StIn A s h0 h1)(hc:hav op h0 h1 ≥ cost s.2.2.2 s.2.2.1.length){me:Int}(hme:me=0∨me=1){l:Lock}(hl:ZBr l)(fee:Int):
 ∃r,YA fuel l=some r∧(r=true↔Wh l∧Vg l)∧Ys fuel (Z7 A k0 k1 op) (ZzP k0 k1 me) me s l fee=
  if r=false then some (.inl 1) else if s.2.2.1≠[] then some (.inl 14) else if ZzQ op h0 h1 me fee=false then some (.inl 13)
  else some (.inr (0,Z7 A k0 k1 op,ZzP k0 k1 me,me,s.1,s.2.1,s.2.2.2,([([]:Lock),([]:Lock)]:List Lock).set me.toNat l,fee,((0:UInt64),(0:UInt64)),([]:List Cond),([]:List Msg),([]:List Msg))):=by
 obtain⟨r,r1,r2⟩:=Zua hl;refine⟨r,r1,r2, ?_⟩;have hB:(Z7 A k0 k1 op).2.2.1[me.toNat]? =some (ZY (ZzP k0 k1 me)):=by rcases hme with rfl|rfl <;> rfl
 unfold Ys;rw[if_neg (ynd (by omega)),if_neg (ynd (by omega)),r1,ya]
 cases r with
 |false=>rw[if_pos (by decide),if_pos rfl]
 |true=>
  rw[if_neg (by decide),if_neg (by decide),ZEi,ya,if_pos (YD hme),hB,ya,if_neg (by simp),ZGV h hs hc,ya];by_cases hn:s.2.2.1=[]
  ·rw[if_neg (by rw[hn];decide),if_neg (by simp[hn]),ZCZ h.o hs.hv,ya]
   cases ZzQ op h0 h1 me fee with
   |false=>rw[if_pos (by decide),if_pos rfl]
   |true=>
    rw[if_neg (by decide),if_neg (by decide),ZxV (r2.1 rfl).1 (r2.1 rfl).2,ya,if_pos (YD hme)];have hz:([([]:Lock),([]:Lock)]:List Lock)[me.toNat]? =some []:=by rcases hme with rfl|rfl <;> rfl
    rw[hz,ya]
  ·rw[if_pos (by simp[hn]),if_pos hn]
def Xw(op me fee:Int):Int:=if me=op then fee else 0
def Y3(rate:Int)(b:List UInt8):Msg:=(12,0,0,(0,0,0,0,0),0,[],rate,(0,0),yzz,0,([],[],0),(0,0,0,0,0),(0,0,0,0,0,0),b)
theorem ZBt{l:List Msg}{m:Msg}(hl:l.length≤1000000)(hm:(byt m).length≤1000000000)(c:ZE)(k:Kit)(me no:Int)(hv:List Int)(r:Int)(lk:List Lock)(fee:Int)(sg:Sig)(cs:List Cond)(hd:List Msg):
 Yp fuel m c k me no hv r lk fee sg cs l hd=some (c,k,me,no,hv,r,lk,fee,sg,cs,YZ l m,hd):=by
 unfold Yp;rw[Zuc hl hm,ya]
theorem ZzR{A:Int}{k0 k1:Kit}{op:Int}{me:Int}(hme:me=0∨me=1){lk:List Lock}{l:Lock}(hlk:lk[me.toNat]? =some l)(h:Wh l)(hp:Vg l){said:List Msg}(hl:said.length≤10000)(hm:∀m,m∈said→(byt m).length≤1000000000)(k:Kit)(no:Int)(hv:List Int)(r:Int)(fee:Int)(sg:Sig)(cs:List Cond)(hd:List Msg):
 ZU fuel (Z7 A k0 k1 op) k me no hv r lk fee sg cs said hd=some (Zgy (YZ said (Y3 (Xw op me fee) (VC l))),Z7 A k0 k1 op,k,me,no,hv,r,lk,fee,sg,cs,YZ said (Y3 (Xw op me fee) (VC l)),hd):=by
 have hO:(Z7 A k0 k1 op).2.2.2.2=op:=rfl;have hlen:=Zfo h
 have ha:∀m:Msg,(byt m).length≤1000000000→(YZ said m).length≤100000∧∀x,x∈YZ said m→(byt x).length≤1000000000:=by
  intro m hm2;refine⟨by have:=Zl7 said m;omega,λx hx=> ?_⟩;unfold YZ at hx;split at hx
  ·exact hm x hx
  ·rcases yci.1 hx with hx|hx
   ·exact hm x hx
   ·rw[yan.1 hx];exact hm2
 have hb:∀rate,(byt (Y3 rate (VC l))).length≤1000000000:=λrate=>by
  show(VC l).length≤_;omega
 unfold ZU Xw;unfold Y3 at hb ⊢;rw[hO];generalize Z7 A k0 k1 op=c;by_cases he:me=op
 ·rw[if_pos (by rw[he];exact beq_self_eq_true _),if_pos (YD hme),hlk,ya,Zgu h hp,ya];rw[ZBt (by omega) (hb fee),ya];dsimp only;rw[Zpi (ha _ (hb fee)).1 (ha _ (hb fee)).2,ya,if_pos he]
 ·rw[if_neg (by rw[beq_iff_eq];exact he),if_pos (YD hme),hlk,ya,Zgu h hp,ya];rw[ZBt (by omega) (hb 0),ya];dsimp only;rw[Zpi (ha _ (hb 0)).1 (ha _ (hb 0)).2,ya,if_neg he]
end Go.Proofs.YtmkgbalfkhaflaaGreat
end
section
set_option maxRecDepth 4000
namespace Go.Proofs.YtmkgbalfkhaflaaGreat
open Go Go.Ev
noncomputable section
abbrev ZIC:Type:=((List UInt8)×Int×Bool×Int×Int×Corsnedlaw21Play×ZE×Kit×Int×Int×(List Int)×Int×(List Lock)×Int×Sig×ZE×Kit×Int×Int×(List Int)×Int×(List Lock)×Int×Sig×(List Cond)×(List Msg)×(List Msg)×(List Cond)×(List Msg)×(List Msg)×ZE×State)
def ZjZ:List ESh:=[.var (.v Ze) true,.var (.agg [.v Zf,.v Z4,.v yI,.agg [.v yI,.v (.arr 2 yI),.own 3 Zq,.v yI],.v (.arr 2 Zn),.v yI,.own 4 Zi,.own 5 Zi,.v ZX]) true,.var (.agg [.v Zf,.v Z4,.v yI,.agg [.v yI,.v (.arr 2 yI),.own 6 Zq,.v yI],.v (.arr 2 Zn),.v yI,.own 7 Zi,.own 8 Zi,.v ZX]) true,.log Zq 82,.log Zi 84,.log Zi 84,.log Zq 82,.log Zi 84,.log Zi 84,.var (.arr 2 1 [.ref 1 [],.ref 2 []]) true,.var (.v Zf) true,.var (.v Zg) true]
abbrev ZKO:List Ty:=[(.sl .u8),(.int .u16),.bool,yI,yI,Ze,Zf,Z4,yI,yI,(.arr 2 yI),yI,(.arr 2 Zn),yI,ZX,Zf,Z4,yI,yI,(.arr 2 yI),yI,(.arr 2 Zn),yI,ZX,(.sl Zq),(.sl Zi),(.sl Zi),(.sl Zq),(.sl Zi),(.sl Zi),Zf,Zg]
def Zqf:HI:={ still:=[8,38,39,67,81,85,89,101,112,116,120,126,132,135,148,149,170,173,178,181,207,212,213,231,232,235,239]}
abbrev ZLX:Type:=(Int×Bool×Int×Corsnedlaw21Play×ZE×Kit×Int×Int×(List Int)×Int×(List Lock)×Int×Sig×ZE×Kit×Int×Int×(List Int)×Int×(List Lock)×Int×Sig×(List Cond)×(List Msg)×(List Msg)×(List Cond)×(List Msg)×(List Msg)×ZE×State)
abbrev ZLY:List Ty:=[(.int .u16),.bool,yI,Ze,Zf,Z4,yI,yI,(.arr 2 yI),yI,(.arr 2 Zn),yI,ZX,Zf,Z4,yI,yI,(.arr 2 yI),yI,(.arr 2 Zn),yI,ZX,(.sl Zq),(.sl Zi),(.sl Zi),(.sl Zq),(.sl Zi),(.sl Zi),Zf,Zg]
def YQ(F:Nat):ZIC→Option ZIC
 |(A,B,C,D,E,G,H,I,J,K,L,M,N,O,P,Q,R,S,T,U,V,W,X,Y,Z,b0,b1,b2,b3,b4,b5,b6)=>
 (idx A E).bind λe1140=>
 if(((e1140 % 2).toNat:Int)==0)=true then
  (ZT F Q R S T U V W X Y b2 b3 b4).bind λ(m,n,o,p,q,r,t,u,v,w,x,y,z)=>
  (idx A E).bind λe1142=>
  let y1143:Bool:=decide (((e1142 / 2).toNat:Int) ≥ (m.length:Int))
  if y1143=true then
   (ZU F H I J K L M N O P Z b0 b1).bind λ(_,a,b,c,d,e,f,g,h,i,j,k,l)=>
   some (A,B,C,D,E,G,a,b,c,d,e,f,g,h,i,n,o,p,q,r,t,u,v,w,j,k,l,x,y,z,b5,b6)
  else
  (idx m ((e1142 / 2).toNat:Int)).bind λe1145=>
  (Z3 F e1145 H I J K L M N O P Z b0 b1).bind λ(_,_,a,b,c,d,e,f,g,h,i,j,k,l)=>
  some (A,B,C,D,E,G,a,b,c,d,e,f,g,h,i,n,o,p,q,r,t,u,v,w,j,k,l,x,y,z,b5,b6)
 else
 if(((e1140 % 2).toNat:Int)==1)=true then
  (ZT F H I J K L M N O P Z b0 b1).bind λ(m,n,o,p,q,r,t,u,v,w,x,y,z)=>
  (idx A E).bind λe1148=>
  let y1149:Bool:=decide (((e1148 / 2).toNat:Int) ≥ (m.length:Int))
  if y1149=true then
   (ZU F Q R S T U V W X Y b2 b3 b4).bind λ(_,a,b,c,d,e,f,g,h,i,j,k,l)=>
   some (A,B,C,D,E,G,n,o,p,q,r,t,u,v,w,a,b,c,d,e,f,g,h,i,x,y,z,j,k,l,b5,b6)
  else
  (idx m ((e1148 / 2).toNat:Int)).bind λe1151=>
  (Z3 F e1151 Q R S T U V W X Y b2 b3 b4).bind λ(_,_,a,b,c,d,e,f,g,h,i,j,k,l)=>
  some (A,B,C,D,E,G,n,o,p,q,r,t,u,v,w,a,b,c,d,e,f,g,h,i,x,y,z,j,k,l,b5,b6)
 else
 none
def V6:Lp:=⟨[(2,.v (.sl .u8)),(3,.v (.int .u16)),(9,.v .bool),(10,.ref 9 []),(11,.ref 10 []),(12,.ref 11 []),(13,.v yI),(15,.v yI)],ZjZ,ZKO,[⟨.normal,[(2,.v (.sl .u8)),(3,.v (.int .u16)),(9,.v .bool),(10,.ref 9 []),(11,.ref 10 []),(12,.ref 11 []),(13,.v yI),(15,.v yI)],ZjZ,ZKO⟩],YQ fuel⟩
theorem Zcl:V6.Is yc (VM yc 6) (ZmA (Qe yc 6 0) 2):=Zs9 (n:=0) (g:=6) (fi:={ hi:=Zqf,gh:=[(1,.split 16 [0,1])]}) (specs:={ l:=[Vs,Vt,Zbb]}) (okS ⟨Q2,Q3,ZeI,ytt⟩)
def ZZ(F:Nat):ZIC→Option (ZIC⊕ZLX)
 |(J,K,L,M,I,N,O,P,Q,R,S,T,U,V,W,X,Y,Z,b0,b1,b2,b3,b4,b5,b6,b7,b8,b9,c0,c1,c2,c3)=>
 if(decide (I < (J.length:Int)))=true then
  (YQ F (J,K,L,M,I,N,O,P,Q,R,S,T,U,V,W,X,Y,Z,b0,b1,b2,b3,b4,b5,b6,b7,b8,b9,c0,c1,c2,c3)).bind λ(a,b,c,d,e,f,g,h,i,j,k,l,m,n,o,p,q,r,t,u,v,w,x,y,z,A,B,C,D,E,G,H)=>
  some (.inl (a,b,c,d,wi (e+1),f,g,h,i,j,k,l,m,n,o,p,q,r,t,u,v,w,x,y,z,A,B,C,D,E,G,H))
 else
 some (.inr (K,L,M,N,O,P,Q,R,S,T,U,V,W,X,Y,Z,b0,b1,b2,b3,b4,b5,b6,b7,b8,b9,c0,c1,c2,c3))
def V7:Lp:=⟨[(2,.v (.sl .u8)),(3,.v (.int .u16)),(9,.v .bool),(10,.ref 9 []),(11,.ref 10 []),(12,.ref 11 []),(13,.v yI),(15,.v yI)],ZjZ,ZKO,[⟨.exit 0,[(3,.v (.int .u16)),(9,.v .bool),(10,.ref 9 []),(11,.ref 10 []),(12,.ref 11 []),(13,.v yI)],ZjZ,ZLY⟩],Zb (ZZ fuel) fuel⟩
theorem Zcm:V7.okA yc 6 0:=ZiQ (fi:={ hi:=Zqf,bk:=[(2,V6)],gh:=[(4,.split 16 [0,1])]}) (specs:={ l:=[]}) (okS trivial) (hb:=⟨Zcl,ytt⟩)
abbrev ZLZ:Type:=(Int×Bool×Int×Int×Int×(List Msg)×Int×Corsnedlaw21Play×ZE×Kit×Int×Int×(List Int)×Int×(List Lock)×Int×Sig×ZE×Kit×Int×Int×(List Int)×Int×(List Lock)×Int×Sig×(List Cond)×(List Msg)×(List Msg)×(List Cond)×(List Msg)×(List Msg)×ZE×State)
abbrev ZG0:Type:=(Int×Bool×Int×Int×Int×Corsnedlaw21Play×ZE×Kit×Int×Int×(List Int)×Int×(List Lock)×Int×Sig×ZE×Kit×Int×Int×(List Int)×Int×(List Lock)×Int×Sig×(List Cond)×(List Msg)×(List Msg)×(List Cond)×(List Msg)×(List Msg)×ZE×State)
abbrev ZID:List Ty:=[(.int .u16),.bool,yI,yI,yI,Ze,Zf,Z4,yI,yI,(.arr 2 yI),yI,(.arr 2 Zn),yI,ZX,Zf,Z4,yI,yI,(.arr 2 yI),yI,(.arr 2 Zn),yI,ZX,(.sl Zq),(.sl Zi),(.sl Zi),(.sl Zq),(.sl Zi),(.sl Zi),Zf,Zg]
abbrev ZMF:List Ty:=[(.int .u16),.bool,yI,yI,yI,(.sl Zi),yI,Ze,Zf,Z4,yI,yI,(.arr 2 yI),yI,(.arr 2 Zn),yI,ZX,Zf,Z4,yI,yI,(.arr 2 yI),yI,(.arr 2 Zn),yI,ZX,(.sl Zq),(.sl Zi),(.sl Zi),(.sl Zq),(.sl Zi),(.sl Zi),Zf,Zg]
abbrev ZKP:Type:=(Int×Bool×Int×Int×Corsnedlaw21Play×ZE×Kit×Int×Int×(List Int)×Int×(List Lock)×Int×Sig×ZE×Kit×Int×Int×(List Int)×Int×(List Lock)×Int×Sig×(List Cond)×(List Msg)×(List Msg)×(List Cond)×(List Msg)×(List Msg)×ZE×State)
abbrev ZL0:List Ty:=[(.int .u16),.bool,yI,yI,Ze,Zf,Z4,yI,yI,(.arr 2 yI),yI,(.arr 2 Zn),yI,ZX,Zf,Z4,yI,yI,(.arr 2 yI),yI,(.arr 2 Zn),yI,ZX,(.sl Zq),(.sl Zi),(.sl Zi),(.sl Zq),(.sl Zi),(.sl Zi),Zf,Zg]
def Zx(F:Nat):ZLZ→Option (ZLZ⊕ZG0)
 |(C,D,E,G,o,n,m,H,I,J,K,L,M,N,O,P,Q,p,q,r,t,u,v,w,x,y,R,S,T,z,A,B,U,V)=>
 let y1190:Bool:=decide (m < (n.length:Int))
 if y1190=true then
  if(o==0)=true then
   (idx n m).bind λe1191=>
   (Z3 F e1191 p q r t u v w x y z A B).bind λ(_,_,a,b,c,d,e,f,g,h,i,j,k,l)=>
   some (.inl (C,D,E,G,0,n,wi (m+1),H,I,J,K,L,M,N,O,P,Q,a,b,c,d,e,f,g,h,i,R,S,T,j,k,l,U,V))
  else
  if(o==1)=true then
   (idx n m).bind λe1193=>
   (Z3 F e1193 I J K L M N O P Q R S T).bind λ(_,_,a,b,c,d,e,f,g,h,i,j,k,l)=>
   some (.inl (C,D,E,G,1,n,wi (m+1),H,a,b,c,d,e,f,g,h,i,p,q,r,t,u,v,w,x,y,j,k,l,z,A,B,U,V))
  else
  none
 else
 some (.inr (C,D,E,G,o,H,I,J,K,L,M,N,O,P,Q,p,q,r,t,u,v,w,x,y,R,S,T,z,A,B,U,V))
def W9:Lp:=⟨[(3,.v (.int .u16)),(9,.v .bool),(10,.ref 9 []),(11,.ref 10 []),(12,.ref 11 []),(13,.v yI),(19,.v yI),(20,.v yI),(21,.v (.sl Zi)),(22,.v yI)],ZjZ,ZMF,[⟨.exit 6,[(3,.v (.int .u16)),(9,.v .bool),(10,.ref 9 []),(11,.ref 10 []),(12,.ref 11 []),(13,.v yI),(19,.v yI),(20,.v yI)],ZjZ,ZID⟩],Zb (Zx fuel) fuel⟩
theorem ZaG:W9.okA yc 6 3:=ZiQ (fi:={ hi:=Zqf,gh:=[(2,.split 20 [0,1])]}) (specs:={ l:=[Zbb]}) (okS ⟨ZeI,ytt⟩)
def XL(F:Nat):ZG0→Option ZG0
 |(V,W,X,Y,Z,b0,b1,b2,b3,b4,b5,b6,b7,b8,b9,c0,c1,c2,c3,c4,c5,c6,c7,c8,c9,d0,d1,d2,d3,d4,d5,d6)=>
 if(Z==0)=true then
  (ZU F b1 b2 b3 b4 b5 b6 b7 b8 b9 c9 d0 d1).bind λ(I,J,K,L,M,N,O,P,Q,R,S,T,U)=>
  (Zb (Zx F) F (V,W,X,Y,0,I,0,b0,J,K,L,M,N,O,P,Q,R,c0,c1,c2,c3,c4,c5,c6,c7,c8,S,T,U,d2,d3,d4,d5,d6)).bind λ(a,b,c,d,e,f,g,h,i,j,k,l,m,n,o,p,q,r,t,u,v,w,x,y,z,A,B,C,D,E,G,H)=>
  some (a,b,c,d,e,f,g,h,i,j,k,l,m,n,o,p,q,r,t,u,v,w,x,y,z,A,B,C,D,E,G,H)
 else
 if(Z==1)=true then
  (ZU F c0 c1 c2 c3 c4 c5 c6 c7 c8 d2 d3 d4).bind λ(I,J,K,L,M,N,O,P,Q,R,S,T,U)=>
  (Zb (Zx F) F (V,W,X,Y,1,I,0,b0,b1,b2,b3,b4,b5,b6,b7,b8,b9,J,K,L,M,N,O,P,Q,R,c9,d0,d1,S,T,U,d5,d6)).bind λ(a,b,c,d,e,f,g,h,i,j,k,l,m,n,o,p,q,r,t,u,v,w,x,y,z,A,B,C,D,E,G,H)=>
  some (a,b,c,d,e,f,g,h,i,j,k,l,m,n,o,p,q,r,t,u,v,w,x,y,z,A,B,C,D,E,G,H)
 else
 none
def VG:Lp:=⟨[(3,.v (.int .u16)),(9,.v .bool),(10,.ref 9 []),(11,.ref 10 []),(12,.ref 11 []),(13,.v yI),(19,.v yI),(20,.v yI)],ZjZ,ZID,[⟨.normal,[(3,.v (.int .u16)),(9,.v .bool),(10,.ref 9 []),(11,.ref 10 []),(12,.ref 11 []),(13,.v yI),(19,.v yI),(20,.v yI)],ZjZ,ZID⟩],XL fuel⟩
theorem Zch:VG.Is yc (VM yc 6) (ZmA (Qe yc 6 2) 2):=Zs9 (n:=3) (g:=6) (fi:={ hi:=Zqf,lp:=[(3,W9)],gh:=[(0,.split 20 [0,1])]}) (specs:={ l:=[Vt]}) (okS ⟨Q3,ytt⟩) ⟨ZaG,ytt⟩
def Yg(F:Nat):ZG0→Option (ZG0⊕ZKP)
 |(J,K,L,M,I,N,O,P,Q,R,S,T,U,V,W,X,Y,Z,b0,b1,b2,b3,b4,b5,b6,b7,b8,b9,c0,c1,c2,c3)=>
 if(decide (I < 2))=true then
  (XL F (J,K,L,M,I,N,O,P,Q,R,S,T,U,V,W,X,Y,Z,b0,b1,b2,b3,b4,b5,b6,b7,b8,b9,c0,c1,c2,c3)).bind λ(a,b,c,d,e,f,g,h,i,j,k,l,m,n,o,p,q,r,t,u,v,w,x,y,z,A,B,C,D,E,G,H)=>
  some (.inl (a,b,c,d,wi (e+1),f,g,h,i,j,k,l,m,n,o,p,q,r,t,u,v,w,x,y,z,A,B,C,D,E,G,H))
 else
 some (.inr (J,K,L,M,N,O,P,Q,R,S,T,U,V,W,X,Y,Z,b0,b1,b2,b3,b4,b5,b6,b7,b8,b9,c0,c1,c2,c3))
def V8:Lp:=⟨[(3,.v (.int .u16)),(9,.v .bool),(10,.ref 9 []),(11,.ref 10 []),(12,.ref 11 []),(13,.v yI),(19,.v yI),(20,.v yI)],ZjZ,ZID,[⟨.exit 4,[(3,.v (.int .u16)),(9,.v .bool),(10,.ref 9 []),(11,.ref 10 []),(12,.ref 11 []),(13,.v yI),(19,.v yI)],ZjZ,ZL0⟩],Zb (Yg fuel) fuel⟩
theorem Zcn:V8.okA yc 6 2:=ZiQ (fi:={ hi:=Zqf,bk:=[(2,VG)],gh:=[(3,.split 20 [0,1])]}) (specs:={ l:=[]}) (okS trivial) (hb:=⟨Zch,ytt⟩)
def Yh(F:Nat):ZKP→Option (ZKP⊕ZLX)
 |(I,J,K,H,L,M,N,O,P,Q,R,S,T,U,V,W,X,Y,Z,b0,b1,b2,b3,b4,b5,b6,b7,b8,b9,c0,c1)=>
 if(decide (H < 2))=true then
  (Zb (Yg F) F (I,J,K,H,0,L,M,N,O,P,Q,R,S,T,U,V,W,X,Y,Z,b0,b1,b2,b3,b4,b5,b6,b7,b8,b9,c0,c1)).bind λ(a,b,c,d,e,f,g,h,i,j,k,l,m,n,o,p,q,r,t,u,v,w,x,y,z,A,B,C,D,E,G)=>
  some (.inl (a,b,c,wi (d+1),e,f,g,h,i,j,k,l,m,n,o,p,q,r,t,u,v,w,x,y,z,A,B,C,D,E,G))
 else
 some (.inr (I,J,K,L,M,N,O,P,Q,R,S,T,U,V,W,X,Y,Z,b0,b1,b2,b3,b4,b5,b6,b7,b8,b9,c0,c1))
def V9:Lp:=⟨[(3,.v (.int .u16)),(9,.v .bool),(10,.ref 9 []),(11,.ref 10 []),(12,.ref 11 []),(13,.v yI),(19,.v yI)],ZjZ,ZL0,[⟨.exit 2,[(3,.v (.int .u16)),(9,.v .bool),(10,.ref 9 []),(11,.ref 10 []),(12,.ref 11 []),(13,.v yI)],ZjZ,ZLY⟩],Zb (Yh fuel) fuel⟩
theorem Zco:V9.okA yc 6 1:=ZC Zqf [(2,V8)] [] trivial ⟨Zcn,ytt⟩
abbrev ZMG:Type:=(Int×Bool×Int×Bool×Bool×Corsnedlaw21Play×ZE×Kit×Int×Int×(List Int)×Int×(List Lock)×Int×Sig×ZE×Kit×Int×Int×(List Int)×Int×(List Lock)×Int×Sig×(List Cond)×(List Msg)×(List Msg)×(List Cond)×(List Msg)×(List Msg)×ZE×State×Tx×Tx×(List ZG)×(List (Zu×ZaC)))
abbrev ZMH:Type:=(Bool×Corsnedlaw21Play×ZE×Kit×Int×Int×(List Int)×Int×(List Lock)×Int×Sig×ZE×Kit×Int×Int×(List Int)×Int×(List Lock)×Int×Sig×(List Cond)×(List Msg)×(List Msg)×(List Cond)×(List Msg)×(List Msg)×ZE×State×Tx×Tx×(List ZG)×(List (Zu×ZaC)))
abbrev ZMI:Type:=(Int×Bool×Int×Corsnedlaw21Play×ZE×Kit×Int×Int×(List Int)×Int×(List Lock)×Int×Sig×ZE×Kit×Int×Int×(List Int)×Int×(List Lock)×Int×Sig×(List Cond)×(List Msg)×(List Msg)×(List Cond)×(List Msg)×(List Msg)×ZE×State×Tx×Tx×(List ZG)×(List (Zu×ZaC)))
def YI(F:Nat):ZMG→Option (ZMH⊕ZMI)
 |(a,b,c,d,e,f,g,h,i,j,k,l,m,n,o,p,q,r,t,u,v,w,x,y,z,A,B,C,D,E,G,H,I,J,K,L)=>
 if(!d)=true then
  some (.inl (false,f,g,h,i,j,k,l,m,n,o,p,q,r,t,u,v,w,x,y,z,A,B,C,D,E,G,H,I,J,K,L))
 else
 if(!e)=true then
  some (.inl (false,f,g,h,i,j,k,l,m,n,o,p,q,r,t,u,v,w,x,y,z,A,B,C,D,E,G,H,I,J,K,L))
 else
 (Zo2 F I J).bind λo1207=>
 if(!o1207)=true then
  some (.inl (false,f,g,h,i,j,k,l,m,n,o,p,q,r,t,u,v,w,x,y,z,A,B,C,D,E,G,H,I,J,K,L))
 else
 some (.inr (a,b,c,f,g,h,i,j,k,l,m,n,o,p,q,r,t,u,v,w,x,y,z,A,B,C,D,E,G,H,I,J,K,L))
def ZG1:List ESh:=[.var (.v Ze) true,.var (.agg [.v Zf,.v Z4,.v yI,.agg [.v yI,.v (.arr 2 yI),.own 3 Zq,.v yI],.v (.arr 2 Zn),.v yI,.own 4 Zi,.own 5 Zi,.v ZX]) true,.var (.agg [.v Zf,.v Z4,.v yI,.agg [.v yI,.v (.arr 2 yI),.own 6 Zq,.v yI],.v (.arr 2 Zn),.v yI,.own 7 Zi,.own 8 Zi,.v ZX]) true,.log Zq 82,.log Zi 84,.log Zi 84,.log Zq 82,.log Zi 84,.log Zi 84,.var (.arr 2 1 [.ref 1 [],.ref 2 []]) true,.var (.v Zf) true,.var (.v Zg) true,.var (.v yTx) true,.var (.v yTx) true,.var (.agg [.mp 15,.v (.sl Zv)]) true,.map 165 Zj Xg]
abbrev ZMJ:List Ty:=[.bool,Ze,Zf,Z4,yI,yI,(.arr 2 yI),yI,(.arr 2 Zn),yI,ZX,Zf,Z4,yI,yI,(.arr 2 yI),yI,(.arr 2 Zn),yI,ZX,(.sl Zq),(.sl Zi),(.sl Zi),(.sl Zq),(.sl Zi),(.sl Zi),Zf,Zg,yTx,yTx,(.sl Zv),(Qz Zj Xg)]
abbrev ZMK:List Ty:=[(.int .u16),.bool,yI,Ze,Zf,Z4,yI,yI,(.arr 2 yI),yI,(.arr 2 Zn),yI,ZX,Zf,Z4,yI,yI,(.arr 2 yI),yI,(.arr 2 Zn),yI,ZX,(.sl Zq),(.sl Zi),(.sl Zi),(.sl Zq),(.sl Zi),(.sl Zi),Zf,Zg,yTx,yTx,(.sl Zv),(Qz Zj Xg)]
abbrev ZML:List Ty:=[(.int .u16),.bool,yI,.bool,.bool,Ze,Zf,Z4,yI,yI,(.arr 2 yI),yI,(.arr 2 Zn),yI,ZX,Zf,Z4,yI,yI,(.arr 2 yI),yI,(.arr 2 Zn),yI,ZX,(.sl Zq),(.sl Zi),(.sl Zi),(.sl Zq),(.sl Zi),(.sl Zi),Zf,Zg,yTx,yTx,(.sl Zv),(Qz Zj Xg)]
def VH:Lp:=⟨[(3,.v (.int .u16)),(9,.v .bool),(11,.ref 10 []),(12,.ref 11 []),(13,.v yI),(23,.ref 12 []),(24,.v .bool),(25,.ref 13 []),(26,.v .bool),(27,.ref 14 [])],ZG1,ZML,[⟨.ret,[(8,.v .bool)],ZG1,ZMJ⟩,⟨.normal,[(3,.v (.int .u16)),(9,.v .bool),(11,.ref 10 []),(12,.ref 11 []),(13,.v yI),(23,.ref 12 []),(27,.ref 14 [])],ZG1,ZMK⟩],YI fuel⟩
theorem Zci:VH.Is yc (VM yc 6) (ZmA (Zak yc 6) 35):=Zs9 (n:=0) (g:=6) (fi:={ hi:=Zqf,gh:=[(0,.nn 27)]}) (specs:={ l:=[ZvM]}) (okS ⟨ZtU,ytt⟩)
abbrev ZIE:Type:=(Int×Bool×Int×Int×Int×Bool×Int×Int×Corsnedlaw21Play×ZE×Kit×Int×Int×(List Int)×Int×(List Lock)×Int×Sig×ZE×Kit×Int×Int×(List Int)×Int×(List Lock)×Int×Sig×(List Cond)×(List Msg)×(List Msg)×(List Cond)×(List Msg)×(List Msg)×ZE×State×Tx×Tx×(List ZG)×(List (Zu×ZaC))×(List Int))
def Ziu:List ESh:=[.var (.v Ze) true,.var (.agg [.v Zf,.v Z4,.v yI,.agg [.v yI,.v (.arr 2 yI),.own 3 Zq,.v yI],.v (.arr 2 Zn),.v yI,.own 4 Zi,.own 5 Zi,.v ZX]) true,.var (.agg [.v Zf,.v Z4,.v yI,.agg [.v yI,.v (.arr 2 yI),.own 6 Zq,.v yI],.v (.arr 2 Zn),.v yI,.own 7 Zi,.own 8 Zi,.v ZX]) true,.log Zq 82,.log Zi 84,.log Zi 84,.log Zq 82,.log Zi 84,.log Zi 84,.var (.arr 2 1 [.ref 1 [],.ref 2 []]) true,.var (.v Zf) true,.var (.v Zg) true,.var (.v yTx) true,.var (.v yTx) true,.var (.agg [.mp 15,.v (.sl Zv)]) true,.map 165 Zj Xg,.var (.v (.arr 2 yI)) true]
abbrev ZKQ:List Ty:=[(.int .u16),.bool,yI,yI,yI,.bool,yI,yI,Ze,Zf,Z4,yI,yI,(.arr 2 yI),yI,(.arr 2 Zn),yI,ZX,Zf,Z4,yI,yI,(.arr 2 yI),yI,(.arr 2 Zn),yI,ZX,(.sl Zq),(.sl Zi),(.sl Zi),(.sl Zq),(.sl Zi),(.sl Zi),Zf,Zg,yTx,yTx,(.sl Zv),(Qz Zj Xg),(.arr 2 yI)]
abbrev ZL1:Type:=(Int×Bool×Int×Int×Int×Bool×Int×Corsnedlaw21Play×ZE×Kit×Int×Int×(List Int)×Int×(List Lock)×Int×Sig×ZE×Kit×Int×Int×(List Int)×Int×(List Lock)×Int×Sig×(List Cond)×(List Msg)×(List Msg)×(List Cond)×(List Msg)×(List Msg)×ZE×State×Tx×Tx×(List ZG)×(List (Zu×ZaC))×(List Int))
abbrev ZL2:List Ty:=[(.int .u16),.bool,yI,yI,yI,.bool,yI,Ze,Zf,Z4,yI,yI,(.arr 2 yI),yI,(.arr 2 Zn),yI,ZX,Zf,Z4,yI,yI,(.arr 2 yI),yI,(.arr 2 Zn),yI,ZX,(.sl Zq),(.sl Zi),(.sl Zi),(.sl Zq),(.sl Zi),(.sl Zi),Zf,Zg,yTx,yTx,(.sl Zv),(Qz Zj Xg),(.arr 2 yI)]
abbrev ZKR:Type:=(Bool×Corsnedlaw21Play×ZE×Kit×Int×Int×(List Int)×Int×(List Lock)×Int×Sig×ZE×Kit×Int×Int×(List Int)×Int×(List Lock)×Int×Sig×(List Cond)×(List Msg)×(List Msg)×(List Cond)×(List Msg)×(List Msg)×ZE×State×Tx×Tx×(List ZG)×(List (Zu×ZaC))×(List Int))
abbrev ZMM:Type:=(Int×Bool×Int×Int×Int×Bool×Corsnedlaw21Play×ZE×Kit×Int×Int×(List Int)×Int×(List Lock)×Int×Sig×ZE×Kit×Int×Int×(List Int)×Int×(List Lock)×Int×Sig×(List Cond)×(List Msg)×(List Msg)×(List Cond)×(List Msg)×(List Msg)×ZE×State×Tx×Tx×(List ZG)×(List (Zu×ZaC))×(List Int))
abbrev ZKS:List Ty:=[.bool,Ze,Zf,Z4,yI,yI,(.arr 2 yI),yI,(.arr 2 Zn),yI,ZX,Zf,Z4,yI,yI,(.arr 2 yI),yI,(.arr 2 Zn),yI,ZX,(.sl Zq),(.sl Zi),(.sl Zi),(.sl Zq),(.sl Zi),(.sl Zi),Zf,Zg,yTx,yTx,(.sl Zv),(Qz Zj Xg),(.arr 2 yI)]
abbrev ZMN:List Ty:=[(.int .u16),.bool,yI,yI,yI,.bool,Ze,Zf,Z4,yI,yI,(.arr 2 yI),yI,(.arr 2 Zn),yI,ZX,Zf,Z4,yI,yI,(.arr 2 yI),yI,(.arr 2 Zn),yI,ZX,(.sl Zq),(.sl Zi),(.sl Zi),(.sl Zq),(.sl Zi),(.sl Zi),Zf,Zg,yTx,yTx,(.sl Zv),(Qz Zj Xg),(.arr 2 yI)]
abbrev ZIF:Type:=(Int×Bool×Int×Int×Int×Corsnedlaw21Play×ZE×Kit×Int×Int×(List Int)×Int×(List Lock)×Int×Sig×ZE×Kit×Int×Int×(List Int)×Int×(List Lock)×Int×Sig×(List Cond)×(List Msg)×(List Msg)×(List Cond)×(List Msg)×(List Msg)×ZE×State×Tx×Tx×(List ZG)×(List (Zu×ZaC))×(List Int))
abbrev ZKT:List Ty:=[(.int .u16),.bool,yI,yI,yI,Ze,Zf,Z4,yI,yI,(.arr 2 yI),yI,(.arr 2 Zn),yI,ZX,Zf,Z4,yI,yI,(.arr 2 yI),yI,(.arr 2 Zn),yI,ZX,(.sl Zq),(.sl Zi),(.sl Zi),(.sl Zq),(.sl Zi),(.sl Zi),Zf,Zg,yTx,yTx,(.sl Zv),(Qz Zj Xg),(.arr 2 yI)]
abbrev ZMO:Type:=(Int×Bool×Int×Int×Corsnedlaw21Play×ZE×Kit×Int×Int×(List Int)×Int×(List Lock)×Int×Sig×ZE×Kit×Int×Int×(List Int)×Int×(List Lock)×Int×Sig×(List Cond)×(List Msg)×(List Msg)×(List Cond)×(List Msg)×(List Msg)×ZE×State×Tx×Tx×(List ZG)×(List (Zu×ZaC))×(List Int))
abbrev ZMP:List Ty:=[(.int .u16),.bool,yI,yI,Ze,Zf,Z4,yI,yI,(.arr 2 yI),yI,(.arr 2 Zn),yI,ZX,Zf,Z4,yI,yI,(.arr 2 yI),yI,(.arr 2 Zn),yI,ZX,(.sl Zq),(.sl Zi),(.sl Zi),(.sl Zq),(.sl Zi),(.sl Zi),Zf,Zg,yTx,yTx,(.sl Zv),(Qz Zj Xg),(.arr 2 yI)]
def Y4(F:Nat):ZIE→Option ZIE
 |(a,b,c,d,e,f,g,h,i,j,k,l,m,n,o,p,q,r,t,u,v,w,x,y,z,A,B,C,D,E,G,H,I,J,K,L,M,N,O,P)=>
 (idx L.2.1 h).bind λe1269=>
 if(inB e 2)=true then
  (P[e.toNat]?).bind λe1270=>
  if(e1269.1==e1270)=true then
   (idx L.2.1 h).bind λe1271=>
   if(inB e 2)=true then
    (J.2.2.1[e.toNat]?).bind λe1272=>
    (XX F e1272.2.1).bind λo1273=>
    (Zju F e1271.2 o1273).bind λo1274=>
    if o1274=true then
     some (a,b,c,d,e,f,wi (g+1),h,i,j,k,l,m,n,o,p,q,r,t,u,v,w,x,y,z,A,B,C,D,E,G,H,I,J,K,L,M,N,O,P)
    else
    some (a,b,c,d,e,f,g,h,i,j,k,l,m,n,o,p,q,r,t,u,v,w,x,y,z,A,B,C,D,E,G,H,I,J,K,L,M,N,O,P)
   else
   none
  else
  some (a,b,c,d,e,f,g,h,i,j,k,l,m,n,o,p,q,r,t,u,v,w,x,y,z,A,B,C,D,E,G,H,I,J,K,L,M,N,O,P)
 else
 none
def WE:Lp:=⟨[(3,.v (.int .u16)),(9,.v .bool),(11,.ref 10 []),(13,.v yI),(23,.ref 12 []),(27,.ref 14 []),(28,.ref 16 []),(29,.v yI),(30,.v yI),(31,.v .bool),(32,.v yI),(33,.v yI)],Ziu,ZKQ,[⟨.normal,[(3,.v (.int .u16)),(9,.v .bool),(11,.ref 10 []),(13,.v yI),(23,.ref 12 []),(27,.ref 14 []),(28,.ref 16 []),(29,.v yI),(30,.v yI),(31,.v .bool),(32,.v yI),(33,.v yI)],Ziu,ZKQ⟩],Y4 fuel⟩
theorem Zaq:WE.Is yc (VM yc 6) (ZmA (Qe yc 6 5) 2):=ZLc 0 6 Zqf [] [Znz,Zq9] ⟨Zll,ZxI,ytt⟩
def ZM(F:Nat):ZIE→Option (ZIE⊕ZL1)
 |(S,T,U,V,W,X,Y,R,Z,b0,b1,b2,b3,b4,b5,b6,b7,b8,b9,c0,c1,c2,c3,c4,c5,c6,c7,c8,c9,d0,d1,d2,d3,d4,d5,Q,d6,d7,d8,d9)=>
 let y1268:Int:=(Q.2.1.length:Int)
 if(decide (R < y1268))=true then
  (Y4 F (S,T,U,V,W,X,Y,R,Z,b0,b1,b2,b3,b4,b5,b6,b7,b8,b9,c0,c1,c2,c3,c4,c5,c6,c7,c8,c9,d0,d1,d2,d3,d4,d5,Q,d6,d7,d8,d9)).bind λ(a,b,c,d,e,f,g,h,i,j,k,l,m,n,o,p,q,r,t,u,v,w,x,y,z,A,B,C,D,E,G,H,I,J,K,L,M,N,O,P)=>
  some (.inl (a,b,c,d,e,f,g,wi (h+1),i,j,k,l,m,n,o,p,q,r,t,u,v,w,x,y,z,A,B,C,D,E,G,H,I,J,K,L,M,N,O,P))
 else
 some (.inr (S,T,U,V,W,X,Y,Z,b0,b1,b2,b3,b4,b5,b6,b7,b8,b9,c0,c1,c2,c3,c4,c5,c6,c7,c8,c9,d0,d1,d2,d3,d4,d5,Q,d6,d7,d8,d9))
def Va:Lp:=⟨[(3,.v (.int .u16)),(9,.v .bool),(11,.ref 10 []),(13,.v yI),(23,.ref 12 []),(27,.ref 14 []),(28,.ref 16 []),(29,.v yI),(30,.v yI),(31,.v .bool),(32,.v yI),(33,.v yI)],Ziu,ZKQ,[⟨.exit 10,[(3,.v (.int .u16)),(9,.v .bool),(11,.ref 10 []),(13,.v yI),(23,.ref 12 []),(27,.ref 14 []),(28,.ref 16 []),(29,.v yI),(30,.v yI),(31,.v .bool),(32,.v yI)],Ziu,ZL2⟩],Zb (ZM fuel) fuel⟩
theorem ZaH:Va.okA yc 6 5:=ZiQ (fi:={ hi:=Zqf,bk:=[(2,WE)]}) (specs:={ l:=[]}) (okS trivial) (hb:=⟨Zaq,ytt⟩)
def Ym(F:Nat):ZL1→Option (ZKR⊕ZMM)
 |(a,b,c,d,e,f,g,h,i,j,k,l,m,n,o,p,q,r,t,u,v,w,x,y,z,A,B,C,D,E,G,H,I,J,K,L,M,N,O)=>
 if f=true then
  if(decide (g < 1))=true then
   some (.inl (false,h,i,j,k,l,m,n,o,p,q,r,t,u,v,w,x,y,z,A,B,C,D,E,G,H,I,J,K,L,M,N,O))
  else
  some (.inr (a,b,c,d,e,f,h,i,j,k,l,m,n,o,p,q,r,t,u,v,w,x,y,z,A,B,C,D,E,G,H,I,J,K,L,M,N,O))
 else
 some (.inr (a,b,c,d,e,f,h,i,j,k,l,m,n,o,p,q,r,t,u,v,w,x,y,z,A,B,C,D,E,G,H,I,J,K,L,M,N,O))
def WF:Lp:=⟨[(3,.v (.int .u16)),(9,.v .bool),(11,.ref 10 []),(13,.v yI),(23,.ref 12 []),(27,.ref 14 []),(28,.ref 16 []),(29,.v yI),(30,.v yI),(31,.v .bool),(32,.v yI)],Ziu,ZL2,[⟨.ret,[(8,.v .bool)],Ziu,ZKS⟩,⟨.normal,[(3,.v (.int .u16)),(9,.v .bool),(11,.ref 10 []),(13,.v yI),(23,.ref 12 []),(27,.ref 14 []),(28,.ref 16 []),(29,.v yI),(30,.v yI),(31,.v .bool)],Ziu,ZMN⟩],Ym fuel⟩
theorem Zar:WF.Is yc (VM yc 6) (ZmA (ZmA (Qe yc 6 4) 2) 8):=ZLc 0 6 Zqf [] [] trivial
def YJ(F:Nat):ZIF→Option (ZKR⊕ZIF)
 |(d7,d8,d9,f0,f1,f2,f3,f4,f5,f6,f7,f8,f9,g0,g1,g2,g3,g4,g5,g6,g7,g8,g9,h0,h1,h2,h3,h4,h5,h6,h7,h8,h9,i0,i1,i2,i3)=>
 (h7.2.2.2.1[0]?).bind λe1253=>
 if(inB f1 2)=true then
  (i3[f1.toNat]?).bind λe1254=>
  (WQ F e1253 e1254).bind λo1255=>
  if o1255=true then
   (h7.2.2.2.1[1]?).bind λe1256=>
   if(inB f1 2)=true then
    (i3[f1.toNat]?).bind λe1257=>
    (WQ F e1256 e1257).bind λo1258=>
    (Zb (ZM F) F (d7,d8,d9,f0,f1,o1258,0,0,f2,f3,f4,f5,f6,f7,f8,f9,g0,g1,g2,g3,g4,g5,g6,g7,g8,g9,h0,h1,h2,h3,h4,h5,h6,h7,h8,h9,i0,i1,i2,i3)).bind λ(O,P,Q,R,S,T,U,V,W,X,Y,Z,b0,b1,b2,b3,b4,b5,b6,b7,b8,b9,c0,c1,c2,c3,c4,c5,c6,c7,c8,c9,d0,d1,d2,d3,d4,d5,d6)=>
    (Ym F (O,P,Q,R,S,T,U,V,W,X,Y,Z,b0,b1,b2,b3,b4,b5,b6,b7,b8,b9,c0,c1,c2,c3,c4,c5,c6,c7,c8,c9,d0,d1,d2,d3,d4,d5,d6)).bind λo1277=>
    match o1277 with
    |.inl (a,b,c,d,e,f,g,h,i,j,k,l,m,n,o,p,q,r,t,u,v,w,x,y,z,A,B,C,D,E,G,H,I)=>
     some (.inl (a,b,c,d,e,f,g,h,i,j,k,l,m,n,o,p,q,r,t,u,v,w,x,y,z,A,B,C,D,E,G,H,I))
    |.inr (d,e,f,g,b,a,h,i,j,k,l,m,n,o,p,q,r,t,u,v,w,x,y,z,A,B,C,D,E,G,H,I,J,K,L,M,N,c)=>
     if(!a)=true then
      if(inB b 2)=true then
       (c[b.toNat]?).bind λe1280=>
       some (.inr (d,e,f,wi (g+e1280),b,h,i,j,k,l,m,n,o,p,q,r,t,u,v,w,x,y,z,A,B,C,D,E,G,H,I,J,K,L,M,N,c))
      else
      none
     else
     some (.inr (d,e,f,g,b,h,i,j,k,l,m,n,o,p,q,r,t,u,v,w,x,y,z,A,B,C,D,E,G,H,I,J,K,L,M,N,c))
   else
   none
  else
  (Zb (ZM F) F (d7,d8,d9,f0,f1,false,0,0,f2,f3,f4,f5,f6,f7,f8,f9,g0,g1,g2,g3,g4,g5,g6,g7,g8,g9,h0,h1,h2,h3,h4,h5,h6,h7,h8,h9,i0,i1,i2,i3)).bind λ(O,P,Q,R,S,T,U,V,W,X,Y,Z,b0,b1,b2,b3,b4,b5,b6,b7,b8,b9,c0,c1,c2,c3,c4,c5,c6,c7,c8,c9,d0,d1,d2,d3,d4,d5,d6)=>
  (Ym F (O,P,Q,R,S,T,U,V,W,X,Y,Z,b0,b1,b2,b3,b4,b5,b6,b7,b8,b9,c0,c1,c2,c3,c4,c5,c6,c7,c8,c9,d0,d1,d2,d3,d4,d5,d6)).bind λo1282=>
  match o1282 with
  |.inl (a,b,c,d,e,f,g,h,i,j,k,l,m,n,o,p,q,r,t,u,v,w,x,y,z,A,B,C,D,E,G,H,I)=>
   some (.inl (a,b,c,d,e,f,g,h,i,j,k,l,m,n,o,p,q,r,t,u,v,w,x,y,z,A,B,C,D,E,G,H,I))
  |.inr (d,e,f,g,b,a,h,i,j,k,l,m,n,o,p,q,r,t,u,v,w,x,y,z,A,B,C,D,E,G,H,I,J,K,L,M,N,c)=>
   if(!a)=true then
    if(inB b 2)=true then
     (c[b.toNat]?).bind λe1285=>
     some (.inr (d,e,f,wi (g+e1285),b,h,i,j,k,l,m,n,o,p,q,r,t,u,v,w,x,y,z,A,B,C,D,E,G,H,I,J,K,L,M,N,c))
    else
    none
   else
   some (.inr (d,e,f,g,b,h,i,j,k,l,m,n,o,p,q,r,t,u,v,w,x,y,z,A,B,C,D,E,G,H,I,J,K,L,M,N,c))
 else
 none
def VI:Lp:=⟨[(3,.v (.int .u16)),(9,.v .bool),(11,.ref 10 []),(13,.v yI),(23,.ref 12 []),(27,.ref 14 []),(28,.ref 16 []),(29,.v yI),(30,.v yI)],Ziu,ZKT,[⟨.ret,[(8,.v .bool)],Ziu,ZKS⟩,⟨.normal,[(3,.v (.int .u16)),(9,.v .bool),(11,.ref 10 []),(13,.v yI),(23,.ref 12 []),(27,.ref 14 []),(28,.ref 16 []),(29,.v yI),(30,.v yI)],Ziu,ZKT⟩],YJ fuel⟩
theorem Zcj:VI.Is yc (VM yc 6) (ZmA (Qe yc 6 4) 2):=Zs9 (n:=5) (g:=6) (fi:={ hi:=Zqf,lp:=[(5,Va)],bk:=[(8,WF)]}) (specs:={ l:=[Zhl]}) (okS ⟨ZkI,ytt⟩) ⟨ZaH,ytt⟩ (hb:=⟨Zar,ytt⟩)
def Yi(F:Nat):ZIF→Option (ZIF⊕(ZKR⊕ZMO))
 |(O,P,Q,R,N,S,T,U,V,W,X,Y,Z,b0,b1,b2,b3,b4,b5,b6,b7,b8,b9,c0,c1,c2,c3,c4,c5,c6,c7,c8,c9,d0,d1,d2,d3)=>
 if(decide (N < 2))=true then
  (YJ F (O,P,Q,R,N,S,T,U,V,W,X,Y,Z,b0,b1,b2,b3,b4,b5,b6,b7,b8,b9,c0,c1,c2,c3,c4,c5,c6,c7,c8,c9,d0,d1,d2,d3)).bind λo1286=>
  match o1286 with
  |.inl (a,b,c,d,e,f,g,h,i,j,k,l,m,n,o,p,q,r,t,u,v,w,x,y,z,A,B,C,D,E,G,H,I)=>
   some (.inr (.inl (a,b,c,d,e,f,g,h,i,j,k,l,m,n,o,p,q,r,t,u,v,w,x,y,z,A,B,C,D,E,G,H,I)))
  |.inr (a,b,c,d,e,f,g,h,i,j,k,l,m,n,o,p,q,r,t,u,v,w,x,y,z,A,B,C,D,E,G,H,I,J,K,L,M)=>
   some (.inl (a,b,c,d,wi (e+1),f,g,h,i,j,k,l,m,n,o,p,q,r,t,u,v,w,x,y,z,A,B,C,D,E,G,H,I,J,K,L,M))
 else
 some (.inr (.inr (O,P,Q,R,S,T,U,V,W,X,Y,Z,b0,b1,b2,b3,b4,b5,b6,b7,b8,b9,c0,c1,c2,c3,c4,c5,c6,c7,c8,c9,d0,d1,d2,d3)))
def Qa:Lp:=⟨[(3,.v (.int .u16)),(9,.v .bool),(11,.ref 10 []),(13,.v yI),(23,.ref 12 []),(27,.ref 14 []),(28,.ref 16 []),(29,.v yI),(30,.v yI)],Ziu,ZKT,[⟨.ret,[(8,.v .bool)],Ziu,ZKS⟩,⟨.exit 8,[(3,.v (.int .u16)),(9,.v .bool),(13,.v yI),(23,.ref 12 []),(27,.ref 14 []),(29,.v yI)],Ziu,ZMP⟩],Zb (Yi fuel) fuel⟩
theorem Zcp:Qa.okA yc 6 4:=ZiQ (fi:={ hi:=Zqf,bk:=[(2,VI)]}) (specs:={ l:=[]}) (okS trivial) (hb:=⟨Zcj,ytt⟩)
abbrev ZL3:Type:=(Int×Int×(List In)×Int×Int×(List ZG)×(List (Zu×ZaC))×Tx×(List UInt8))
abbrev ZMQ:List Ty:=[yI,yI,(.sl yIn),yI,yI,(.sl Zv),(Qz Zj Xg),yTx,(.arr 32 .u8)]
def ZIG:HI:={ still:=[6,7,21,32,55,57,58,59,63,74]}
def X7(F:Nat)(s:ZL3):Option (ZL3⊕((Int×Int×(List ZG)×(List (Zu×ZaC))×Tx×(List UInt8))⊕(Int×(List ZG)×(List (Zu×ZaC))×Tx×(List UInt8)))):=
 if(decide (s.2.2.2.2.1 < s.2.2.2.1))=true then
  (idx s.2.2.1 s.2.2.2.2.1).bind λe1310=>
  Zvk (Zky s.2.2.2.2.2.2.1 e1310.1) (λe1311=>
   (Zc6 F e1311.1.2 e1310.2 s.2.2.2.2.2.2.2.2 s.1 (wi (s.1 - e1311.2))).bind λo1312=>
   if(o1312 !=0)=true then
    some (.inr (.inl (0,o1312,s.2.2.2.2.2.1,s.2.2.2.2.2.2.1,s.2.2.2.2.2.2.2.1,s.2.2.2.2.2.2.2.2)))
   else
   some (.inl (s.1,wi (s.2.1+e1311.1.1),s.2.2.1,s.2.2.2.1,wi (s.2.2.2.2.1+1),s.2.2.2.2.2.1,s.2.2.2.2.2.2.1,s.2.2.2.2.2.2.2.1,s.2.2.2.2.2.2.2.2))) (
   some (.inr (.inl (0,5,s.2.2.2.2.2.1,s.2.2.2.2.2.2.1,s.2.2.2.2.2.2.2.1,s.2.2.2.2.2.2.2.2))))
 else
 some (.inr (.inr (s.2.1,s.2.2.2.2.2.1,s.2.2.2.2.2.2.1,s.2.2.2.2.2.2.2.1,s.2.2.2.2.2.2.2.2)))
def Zgz:Lp:=⟨[(0,.ref 0 []),(2,.v yI),(4,.ref 2 []),(8,.ref 3 []),(9,.v yI),(35,.v (.sl yIn)),(36,.v yI),(37,.v yI)],[.var (.agg [.mp 1,.v (.sl Zv)]) true,.map 165 Zj Xg,.var (.v yTx) true,.var (.v (.arr 32 .u8)) true],ZMQ,[⟨.ret,[(6,.v yI),(7,.v yI)],[.var (.agg [.mp 1,.v (.sl Zv)]) true,.map 165 Zj Xg,.var (.v yTx) true,.var (.v (.arr 32 .u8)) true],[yI,yI,(.sl Zv),(Qz Zj Xg),yTx,(.arr 32 .u8)]⟩,⟨.exit 0,[(0,.ref 0 []),(4,.ref 2 []),(9,.v yI)],[.var (.agg [.mp 1,.v (.sl Zv)]) true,.map 165 Zj Xg,.var (.v yTx) true,.var (.v (.arr 32 .u8)) true],[yI,(.sl Zv),(Qz Zj Xg),yTx,(.arr 32 .u8)]⟩],Zb (X7 fuel) fuel⟩
theorem Zkh:Zgz.okA yc 30 0:=ZC ZIG [] [Zrd] ⟨ZxM,ytt⟩
abbrev ZL4:Type:=(Int×(List Zu)×Int×Int×(List ZG)×(List (Zu×ZaC))×Tx×(List UInt8))
def X8(F:Nat)(s:ZL4):Option (ZL4⊕((Int×Int×(List ZG)×(List (Zu×ZaC))×Tx×(List UInt8))⊕(Int×(List ZG)×(List (Zu×ZaC))×Tx×(List UInt8)))):=
 if(decide (s.2.2.2.1 < s.2.2.1))=true then
  (idx s.2.1 s.2.2.2.1).bind λe1317=>
  Zvk (Zky s.2.2.2.2.2.1 e1317) (λe1318=>
   some (.inr (.inl (0,4,s.2.2.2.2.1,s.2.2.2.2.2.1,s.2.2.2.2.2.2.1,s.2.2.2.2.2.2.2)))) (
   some (.inl (s.1,s.2.1,s.2.2.1,wi (s.2.2.2.1+1),s.2.2.2.2.1,s.2.2.2.2.2.1,s.2.2.2.2.2.2.1,s.2.2.2.2.2.2.2)))
 else
 some (.inr (.inr (s.1,s.2.2.2.2.1,s.2.2.2.2.2.1,s.2.2.2.2.2.2.1,s.2.2.2.2.2.2.2)))
abbrev ZMR:List Ty:=[yI,(.sl Zj),yI,yI,(.sl Zv),(Qz Zj Xg),yTx,(.arr 32 .u8)]
def ZgA:Lp:=⟨[(0,.ref 0 []),(4,.ref 2 []),(9,.v yI),(75,.v (.sl Zj)),(76,.v yI),(77,.v yI)],[.var (.agg [.mp 1,.v (.sl Zv)]) true,.map 165 Zj Xg,.var (.v yTx) true,.var (.v (.arr 32 .u8)) true],ZMR,[⟨.ret,[(6,.v yI),(7,.v yI)],[.var (.agg [.mp 1,.v (.sl Zv)]) true,.map 165 Zj Xg,.var (.v yTx) true,.var (.v (.arr 32 .u8)) true],[yI,yI,(.sl Zv),(Qz Zj Xg),yTx,(.arr 32 .u8)]⟩,⟨.exit 2,[(4,.ref 2 []),(9,.v yI)],[.var (.agg [.mp 1,.v (.sl Zv)]) true,.map 165 Zj Xg,.var (.v yTx) true,.var (.v (.arr 32 .u8)) true],[yI,(.sl Zv),(Qz Zj Xg),yTx,(.arr 32 .u8)]⟩],Zb (X8 fuel) fuel⟩
theorem Zki:ZgA.okA yc 30 1:=ZC ZIG [] [] trivial
def X9(F:Nat)(s:(Int×(List Out)×Int×Int×(List ZG)×(List (Zu×ZaC))×Tx×(List UInt8))):Option ((Int×(List Out)×Int×Int×(List ZG)×(List (Zu×ZaC))×Tx×(List UInt8))⊕(Int×(List ZG)×(List (Zu×ZaC))×Tx×(List UInt8))):=
 if(decide (s.2.2.2.1 < s.2.2.1))=true then
  (idx s.2.1 s.2.2.2.1).bind λe1322=>
  some (.inl (wi (s.1 - e1322.1),s.2.1,s.2.2.1,wi (s.2.2.2.1+1),s.2.2.2.2.1,s.2.2.2.2.2.1,s.2.2.2.2.2.2.1,s.2.2.2.2.2.2.2))
 else
 some (.inr (s.1,s.2.2.2.2.1,s.2.2.2.2.2.1,s.2.2.2.2.2.2.1,s.2.2.2.2.2.2.2))
abbrev ZMS:List Ty:=[yI,(.sl ZF),yI,yI,(.sl Zv),(Qz Zj Xg),yTx,(.arr 32 .u8)]
def ZgB:Lp:=⟨[(9,.v yI),(93,.v (.sl ZF)),(94,.v yI),(95,.v yI)],[.var (.agg [.mp 1,.v (.sl Zv)]) true,.map 165 Zj Xg,.var (.v yTx) true,.var (.v (.arr 32 .u8)) true],ZMS,[⟨.exit 4,[(9,.v yI)],[.var (.agg [.mp 1,.v (.sl Zv)]) true,.map 165 Zj Xg,.var (.v yTx) true,.var (.v (.arr 32 .u8)) true],[yI,(.sl Zv),(Qz Zj Xg),yTx,(.arr 32 .u8)]⟩],Zb (X9 fuel) fuel⟩
theorem Zkj:ZgB.okA yc 30 2:=ZC ZIG [] [] trivial
def Zad(F:Nat)(a1:Tx)(a2:Int)(s0:(List ZG))(s1:(List (Zu×ZaC))):Option ((Int×Int×(List ZG)×(List (Zu×ZaC)))):=
 (Zbm F a1).bind λo1308=>
 if(!o1308)=true then
  some (0,1,s0,s1)
 else
 if(decide (a2 < 1))=true then
  some (0,1,s0,s1)
 else
 if(decide (a2 > 1048576))=true then
  some (0,1,s0,s1)
 else
 (Zf2 F a1).bind λo1309=>
 (Zb (X7 F) F (a2,0,a1.1,(a1.1.length:Int),0,s0,s1,a1,o1309)).bind λo1313=>
 match o1313 with
 |.inl o1314=>
  some (o1314.1,o1314.2.1,o1314.2.2.1,o1314.2.2.2.1)
 |.inr o1315=>
  (Zo8 F o1315.2.2.2.1).bind λo1316=>
  (Zb (X8 F) F (o1315.1,o1316,(o1316.length:Int),0,o1315.2.1,o1315.2.2.1,o1315.2.2.2.1,o1315.2.2.2.2)).bind λo1319=>
  match o1319 with
  |.inl o1320=>
   some (o1320.1,o1320.2.1,o1320.2.2.1,o1320.2.2.2.1)
  |.inr o1321=>
   (Zb (X9 F) F (o1321.1,o1321.2.2.2.1.2.1,(o1321.2.2.2.1.2.1.length:Int),0,o1321.2.1,o1321.2.2.1,o1321.2.2.2.1,o1321.2.2.2.2)).bind λo1323=>
   if(decide (o1323.1 < 0))=true then
    some (0,8,o1323.2.1,o1323.2.2.1)
   else
   some (o1323.1,0,o1323.2.1,o1323.2.2.1)
def Zhi:Fs yc:=⟨30,[.ref 0 [],.v yTx,.v yI],[.var (.agg [.mp 1,.v (.sl Zv)]) true,.map 165 Zj Xg],[yTx,yI,(.sl Zv),(Qz Zj Xg)],[⟨.ret,[(0,.tup [.v yI,.v yI])],[.var (.agg [.mp 1,.v (.sl Zv)]) true,.map 165 Zj Xg],[yI,yI,(.sl Zv),(Qz Zj Xg)]⟩],λx=>Zad fuel x.1 x.2.1 x.2.2.1 x.2.2.2⟩
theorem ZnH:Zhi.Ok:=fnO ZIG [(0,Zgz),(1,ZgA),(2,ZgB)] [ZfX,Zl1,ZvN] ⟨Zg6,Zie,ZBi,ytt⟩ ⟨Zkh,Zki,Zkj,ytt⟩
def YE(F:Nat)(a0:Corsnedlaw21Play)(a1:Int)(a2:(List UInt8))(a3:Int):Option (Bool):=
 ((some true)).bind λo1089=>
 (V0 F a0 a1).bind λ(m5,m6,k0,j9,k1,k2,k3,k4,k5,k6,k7,k8,k9,l0,l1,l2,l3,l4,l5,l6,l7,l8,l9,m0,m1,m2,m3,m4)=>
 if(decide ((a2.length:Int) > 40))=true then
  some o1089
 else
 if(!j9)=true then
  some false
 else
 (Zb (ZZ F) F (a2,a3,o1089,k0,0,a0,k1,k2,k3,k4,k5,k6,k7,k8,k9,l0,l1,l2,l3,l4,l5,l6,l7,l8,l9,m0,m1,m2,m3,m4,m5,m6)).bind λ(g9,h0,h1,h2,h3,h4,h5,h6,h7,h8,h9,i0,i1,i2,i3,i4,i5,i6,i7,i8,i9,j0,j1,j2,j3,j4,j5,j6,j7,j8)=>
 (Zb (Yh F) F (g9,h0,h1,0,h2,h3,h4,h5,h6,h7,h8,h9,i0,i1,i2,i3,i4,i5,i6,i7,i8,i9,j0,j1,j2,j3,j4,j5,j6,j7,j8)).bind λ(g4,g5,g6,g7,c9,d0,d1,d2,d3,d4,d5,d6,d7,f1,f2,f3,f4,f5,f6,f7,f8,f9,d8,d9,f0,g0,g1,g2,g3,g8)=>
 (W8 F c9 d0 d1 d2 d3 d4 d5 d6 d7 d8 d9 f0).bind λ(c8,b5,b6,b7,b8,b9,c0,c1,c2,c3,c4,c5,c6,c7)=>
 (W8 F f1 f2 f3 f4 f5 f6 f7 f8 f9 g0 g1 g2).bind λ(b4,R,S,T,U,V,W,X,Y,Z,b0,b1,b2,b3)=>
 (ZaT F g3).bind λo1203=>
 (Zjw F [(g3.2.1,o1203)]).bind λo1204=>
 match o1204 with
 |.inl o1205=>
  none
 |.inr o1206=>
  (YI F (g4,g5,g6,b5,R,g7,b6,b7,b8,b9,c0,c1,c2,c3,c4,S,T,U,V,W,X,Y,Z,b0,c5,c6,c7,b1,b2,b3,g3,g8,c8,b4,o1206.1,o1206.2)).bind λo1208=>
  match o1208 with
  |.inl (a,_,_,_,_,_,_,_,_,_,_,_,_,_,_,_,_,_,_,_,_,_,_,_,_,_,_,_,_,_,_,_)=>
   some a
  |.inr (k,l,j,m,n,o,p,q,r,t,u,v,w,x,y,z,A,B,C,D,E,G,H,I,J,K,L,M,h,i,N,O,P,Q)=>
   if(inB h.2.2.2.2 2)=true then
    (i.2.1[h.2.2.2.2.toNat]?).bind λe1211=>
    if(inB h.2.2.2.2 2)=true then
     (i.2.1[h.2.2.2.2.toNat]?).bind λe1212=>
     let y1213:(List Int):=i.2.1.set h.2.2.2.2.toNat (wi (e1211 - j))
     (Zb (Yi F) F (k,l,j,0,0,m,n,o,p,q,r,t,u,v,w,x,y,z,A,B,C,D,E,G,H,I,J,K,L,M,h,i,N,O,P,Q,y1213)).bind λo1289=>
     match o1289 with
     |.inl (a,_,_,_,_,_,_,_,_,_,_,_,_,_,_,_,_,_,_,_,_,_,_,_,_,_,_,_,_,_,_,_,_)=>
      some a
     |.inr (b,e,f,g,_,_,_,_,_,_,_,_,_,_,_,_,_,_,_,_,_,_,_,_,_,_,_,_,_,_,_,a,_,c,d,_)=>
      (Zad F a (wi (1+(wi b))) c d).bind λo1324=>
      (Zf2 F a).bind λo1327=>
      let y1328:Bool:=decide (o1327=yzz)
      if y1328=true then
       some e
      else
      if e=true then
       if(o1324.2.1==0)=true then
        some (o1324.1==(wi (f+g)))
       else
       some false
      else
      some false
    else
    none
   else
   none
def Zfh:Fs yc:=⟨6,[.v Ze,.v (.int .u16),.v (.sl .u8),.v (.int .u16)],[],[Ze,(.int .u16),(.sl .u8),(.int .u16)],[⟨.ret,[(0,.v .bool)],[],[.bool]⟩],λx=>YE fuel x.1 x.2.1 x.2.2.1 x.2.2.2⟩
theorem Zem:Zfh.Ok:=Ztc (fi:={ hi:=Zqf,lp:=[(0,V7),(1,V9),(4,Qa)],bk:=[(35,VH)],gh:=[(36,.nn 27)]}) (specs:={ l:=[ZI8,ZeG,Zgv,Zis,Zrb,Zhi,Zl1]}) (okS ⟨ZKL,Zlu,Zmu,Zo6,ZxK,ZnH,Zie,ytt⟩) ⟨Zcm,Zco,Zcp,ytt⟩ (hb:=⟨Zci,ytt⟩)
abbrev Ziv:Type:=(Int×UInt8×UInt8×Int×(List UInt8)×Int×Sig)
abbrev Ziv.Bytes(x:Ziv):(List UInt8):=x.2.2.2.2.1
end
end Go.Proofs.YtmkgbalfkhaflaaGreat
end
section
set_option maxRecDepth 4000
namespace Go.Proofs.YtmkgbalfkhaflaaGreat
open Go Go.Ev
theorem ZnI(p:UInt64):∃o,Zbn fuel p=some o∧o.length=8:=by
 unfold Zbn
 obtain⟨x,h1,h2⟩:=Yk (step:=QO fuel) 8 (λk s=>∃c,s=(p,(8:Int),(k:Int),c)∧c.length=8) (λx=>x.length=8) (i:=(p,(8:Int),(0:Int),([0,0,0,0,0,0,0,0]:List UInt8))) ⟨_,rfl,rfl⟩ (by omega) (by
  rintro k _ hk ⟨c,rfl,hc⟩;left;obtain⟨e,he,_⟩:=Zk (l:=c) (k:=k) (by omega);unfold QO;dsimp only;rw[if_pos (decide_eq_true (by omega)),Zz (z:=8*(k:Int)) (by omega) (by omega),Zz (z:=56 - 8*(k:Int)) (by omega) (by omega),if_pos (decide_eq_true (by omega)),if_pos (Yf (by omega) (by omega)),ybf,Nat.zero_add,he,ya,Zs (by omega)];exact⟨_,rfl,_,rfl,by rw[List.length_set];exact hc⟩) (by
  rintro _ ⟨c,rfl,hc⟩;unfold QO;dsimp only;rw[if_neg (ynd (by omega))];exact⟨_,rfl,hc⟩)
 rw[h1,ya];exact⟨_,rfl,by simp[h2]⟩
theorem ZzS(r p:UInt64){m:List UInt8}(hm:m.length=32):∃k,V5 fuel r p m=some k:=by
 unfold V5;obtain⟨a,a1,a2⟩:=ZnI r;obtain⟨b,b1,b2⟩:=ZnI p
 obtain⟨c,c1,c2⟩:=ZxP (s:=ZI4) (ls:=[a,b,m]) (by decide) (by simp) (by
  intro l hl;simp only[ybt,yct,or_false] at hl;rcases hl with rfl|rfl|rfl <;> omega)
 obtain⟨k,k1,k2⟩:=ZCD c2;rw[a1,ya,b1,ya,c1,ya,k1,ya];exact⟨_,rfl⟩
theorem tk1:tk 1=1:=ZvP ZA7
theorem ZKU(n:Nat):sc 1 n=1:=by
 rw[←ycf,ZxN,tk1,show(1:UInt64).toNat=1 from rfl,Nat.one_pow]
 rfl
theorem ZKV(p:UInt64)(h:Q6 p.toNat):ad p 1=p:=by
 rw[←ycf,ZKy,ZvP h,tk1];show p.toNat*1 % mdl=_;rw[Nat.mul_one,yah h.2.1]
instance(k:UInt64):Decidable (Key k):=by unfold Key;infer_instance
theorem ZIH(k:UInt64):Zl2 fuel k=some (decide (Key k)):=by
 unfold Zl2;rw[Zqb,ya];by_cases h:k.toNat < ord
 ·rw[if_pos (decide_eq_true h)];congr 1;by_cases h0:k=0
  ·subst h0;rw[decide_eq_false (by unfold Key;exact λh=>absurd h.1 (by decide))];rfl
  ·have:0 < k.toNat:=by
    rcases Nat.eq_zero_or_pos k.toNat with h1|h1
    ·exact absurd (ycf.1 h1) h0
    ·exact h1
   rw[decide_eq_true (p:=Key k) ⟨this,h⟩];exact bne_iff_ne.2 h0
 ·rw[if_neg (by rw[decide_eq_true_iff];exact h),decide_eq_false (λhk=>h hk.2)]
theorem ZC0{k:UInt64}(hk:Key k){m:List UInt8}(hm:m.length=32):∃s,sign_SignM fuel k m=some s∧sign_VerifyM fuel (B k.toNat) m s=some true:=by
 obtain⟨a,a1,a2⟩:=ZnI k
 obtain⟨c,c1,c2⟩:=ZxP (s:=ZI5) (ls:=[a,m]) (by decide) (by simp) (by
  intro l hl;simp only[ybt,yct,or_false] at hl;rcases hl with rfl|rfl <;> omega)
 obtain⟨n,n1,n2⟩:=ZCD c2;obtain⟨x,x1⟩:=ZzS (B n.toNat) (B k.toNat) hm;refine⟨(B n.toNat,yad ((n.toNat+(yad (x.toNat*k.toNat % ord)).toNat) % ord)), ?_, ?_⟩
 ·unfold sign_SignM;rw[ZIH,ya,decide_eq_true hk,if_neg (by decide),a1,ya,c1,ya,n1,ya];unfold Zja;rw[Zdn,ya,ZKz,ZKV _ (Zo9 _),ya,Zdn,ya,x1,ya,ZIo,ya,ZIn,ya];rfl
 ·unfold sign_VerifyM Zcc
  have hr:Q9 fuel (yad ((n.toNat+(yad (x.toNat*k.toNat % ord)).toNat) % ord))=some true:=by
   rw[Zqb,ZxO,decide_eq_true Zt2]
  dsimp only;rw[if_neg (by rw[beq_iff_eq];exact ZCJ hk),ZaE,decide_eq_true (Zo9 _),ya,if_neg (by decide),ZaE,decide_eq_true (show Q6 (1:UInt64).toNat from ZA7),ya,if_neg (by decide),ZaE,decide_eq_true (Zo9 _),ya,if_neg (by decide),hr,ya,if_neg (by decide),x1,ya,Zt1,ya,ZGB,ya,ZBk (by simp),ya,Zdn,ya,ya]
  refine congrArg some ?_;rw[beq_iff_eq,ZLJ,ZxO,ZMr, ←ycf,Zre]
  have e1:(tk (sc 1 (ord - 1))).toNat=1:=by
   rw[ZKU,tk1];rfl
  unfold Zmt Zmt Zmt Zmt;rw[ZtX (Zl4 _),ZvP (Zo9 _),ZvP (Zo9 _),e1,Nat.one_mul,Nat.mul_one,Zre,Zre,Nat.mod_mod,Nat.mod_mod, ←Nat.mul_mod, ←Nat.pow_add];rw[ybj k.toNat, ←Zre, ←Zre, ←ZGz,Nat.add_mod_mod,ZGz]
theorem ite_some{α:Type}{c:Prop}[Decidable c]{a b:Option α}(h1:∃x,a=some x)(h2:∃x,b=some x):∃x,(if c then a else b)=some x:=by
 split
 ·exact h1
 ·exact h2
theorem ZBu(p:UInt64){m:List UInt8}(hm:m.length=32)(s:Sig):∃b,sign_VerifyM fuel p m s=some b:=by
 obtain⟨x,x1⟩:=ZzS s.1 p hm
 have h:∃b,Zcc fuel p m 1 s=some b:=by
  unfold Zcc;rw[ZaE,ZaE,ZaE,Zqb,ya,ya,ya,ya,x1,ya,Zt1,ya,ZGB,ya,ZBk (by simp),ya,Zdn,ya];exact ite_some ⟨_,rfl⟩ (ite_some ⟨_,rfl⟩ (ite_some ⟨_,rfl⟩ (ite_some ⟨_,rfl⟩ (ite_some ⟨_,rfl⟩ ⟨_,rfl⟩))))
 obtain⟨b,hb⟩:=h;unfold sign_VerifyM;rw[hb,ya];exact⟨_,rfl⟩
theorem ZEj{ks:List UInt64}{l:Lock}{w:ZgZ}{m:List UInt8}{b:ZJ}(hn:ks.length≤100)(hw:w.2.1.length=ks.length)(hm:m.length=32):
 ∃x,Zb (Wm fuel) fuel (ks,(ks.length:Int),(0:Int),l,w,m,b)=some x∧((∀(i:Nat)p s,ks[i]? =some p→w.2.1[i]? =some s→sign_VerifyM fuel p m s=some true)→x=.inr (l,w,m,b)):=by
 refine Yk (step:=Wm fuel) ks.length (λk q=>q=(ks,(ks.length:Int),(k:Int),l,w,m,b)) _ (i:=(ks,(ks.length:Int),(0:Int),l,w,m,b)) rfl (by omega) ?_ ?_
 ·rintro k _ hk rfl;obtain⟨p,hp,_⟩:=Zk hk;obtain⟨s,hs,_⟩:=Zk (l:=w.2.1) (k:=k) (by omega);obtain⟨v,hv⟩:=ZBu p hm s;unfold Wm;dsimp only;rw[if_pos (Z9 hk),Zp hp,ya,Zp hs,ya,hv,ya,Zs (by omega)]
  cases v with
  |true=>left;exact⟨_,rfl,rfl⟩
  |false=>
   right;refine⟨_,rfl,λh=> ?_⟩;have:=h k p s hp hs;rw[hv] at this;cases this
 ·rintro _ rfl;unfold Wm;dsimp only;rw[if_neg (by rw[ZW];decide)];exact⟨_,rfl,λ_=>rfl⟩
theorem ZxW{l:Lock}(h0:0 < l.length)(h1:l.length≤4)(h:∀b,b∈l→ZD6 b∧ZD7 b):Wh l∧Vg l:=⟨⟨h0,h1,λb hb=>(h b hb).1⟩,λb hb=>(h b hb).2⟩
theorem nox:(0:UInt64)≠0→Q6 (0:UInt64).toNat:=λh=>absurd rfl h
theorem set_same{α:Type}{l:List α}{k:Nat}{e:α}(h:l[k]? =some e):l.set k e=l:=by
 apply List.ext_getElem?;intro j;by_cases hj:j=k
 ·subst hj;rw[ycr (yr.1 h).1,h]
 ·rw[List.getElem?_set_ne (Ne.symm hj)]
theorem ZG2{p q:UInt64}(hp:Q6 p.toNat)(hq:Q6 q.toNat){m:List UInt8}(hm:m.length=32){a b:Sig}(ha:sign_VerifyM fuel p m a=some true)(hb:sign_VerifyM fuel q m b=some true){h:Int}(hh:0≤h):Zc6 fuel [([p,q],0,0,0)] ((0:Int),([a,b]:List Sig),(0:UInt64)) m h h=some 0:=by
 have hl:Wh [([p,q],0,0,0)]∧Vg [([p,q],0,0,0)]:=by
  refine ZxW (by simp) (by simp) ?_;intro e he;rw[yan.1 he];refine⟨⟨by simp,show(0:Int)≤0 by decide,show(0:Int)≤1048576 by decide,show(0:Int)≤0 by decide,show(0:Int)≤1048576 by decide⟩,λr hr=> ?_,nox⟩;simp only[ybt,yct,or_false] at hr;rcases hr with rfl|rfl
  ·exact hp
  ·exact hq
 obtain⟨z,q1,q2⟩:=ZEj (ks:=[p,q]) (l:=[([p,q],0,0,0)]) (w:=((0:Int),([a,b]:List Sig),(0:UInt64))) (m:=m) (b:=([p,q],0,0,0)) (by simp) (by simp) hm
 have hz:z=.inr ([([p,q],0,0,0)],((0:Int),([a,b]:List Sig),(0:UInt64)),m,([p,q],0,0,0)):=by
  refine q2 ?_;intro i p' s' h1 h2
  match i,h1,h2 with
  |0,h1,h2=>
   simp only[yar,Option.some.injEq] at h1 h2;rw[←h1, ←h2]
   exact ha
  |1,h1,h2=>
   simp only[yar,yaq,Option.some.injEq] at h1 h2;rw[←h1, ←h2]
   exact hb
  |i+2,h1,h2=>simp at h1
 unfold Zc6;rw[Q0 hl.1 hl.2,ya,if_neg (by decide)];dsimp only;rw[if_neg (by simp),if_neg (by simp),ZeV (i:=0) (by omega) (show([([p,q],0,0,0)]:Lock)[(0:Int).toNat]? =some ([p,q],0,0,0) from rfl),ya]
 dsimp only;rw[if_neg (ynd (by omega)),if_neg (ynd (by omega)),if_neg (by simp),if_neg (by simp)];show ybc (Zb (Wm fuel) fuel ([p,q],(([p,q]:List UInt64).length:Int),(0:Int),[([p,q],0,0,0)],((0:Int),([a,b]:List Sig),(0:UInt64)),m,([p,q],0,0,0))) _=_;rw[q1,ya,hz]
def rat(m:Msg):Int:=m.2.2.2.2.2.2.1
def ZKW(m:Msg):Sig:=m.2.2.2.2.2.2.2.1
def byM(g:Sig):Msg:=(13,0,0,(0,0,0,0,0),0,[],0,g,yzz,0,([],[],0),(0,0,0,0,0),(0,0,0,0,0,0),[])
def lkp(me:Int)(own l:Lock):List Lock:=if me=0 then[own,l] else[l,own]
theorem ZC1{me:Int}(h:me=0∨me=1)(own l:Lock):(lkp me own l)[me.toNat]? =some own:=by rcases h with rfl|rfl <;> rfl
theorem ZC2{me:Int}(h:me=0∨me=1)(own l l':Lock):(lkp me own l).set (wi (1 - me)).toNat l'=lkp me own l'∧(lkp me own l)[(wi (1 - me)).toNat]? =some l∧inB (wi (1 - me)) 2=true∧wi (1 - me)=1 - me:=by
 rcases h with rfl|rfl <;> exact⟨rfl,rfl,rfl,rfl⟩
theorem ZEk(a b:List UInt8):((bytesOf a).data.toList==(bytesOf b).data.toList)=decide (a=b):=by
 have:∀l:List UInt8,(bytesOf l).data.toList=l:=λl=>by simp[bytesOf]
 rw[this,this];by_cases h:a=b
 ·subst h;simp
 ·rw[decide_eq_false h,beq_eq_false_iff_ne];exact h
theorem ZEl(a b:List UInt8):Zff fuel a b=some (decide (a=b)):=by
 unfold Zff;rw[ZEk]
theorem ZzT{l:List Msg}(hl:l.length≤1000)(hm:∀m,m∈l→(byt m).length≤1000000000):∀m:Msg,(byt m).length≤1000000000→(YZ l m).length≤1001∧∀x,x∈YZ l m→(byt x).length≤1000000000:=by
 intro m hm2;refine⟨by have:=Zl7 l m;omega,λx hx=> ?_⟩;unfold YZ at hx;split at hx
 ·exact hm x hx
 ·rcases yci.1 hx with hx|hx
  ·exact hm x hx
  ·rw[yan.1 hx];exact hm2
def Zpj(op me fee:Int)(own:Lock)(g:Sig)(said:List Msg):List Msg:=YZ (YZ said (Y3 (Xw op me fee) (VC own))) (byM g)
theorem ZEm{A:Int}{k0 k1:Kit}{op:Int}{s:State}{me:Int}(hme:me=0∨me=1)(hn:s.2.2.1=[]){k:Kit}{own l:Lock}(g0:Wh own)(g1:Vg own){said hd:List Msg}(h1:said.length≤100)(h2:∀m,m∈said→(byt m).length≤1000000000){fee:Int}{t:Tx}{g:Sig}(sg:Sig)
 (hmk:closing_MakeM fuel (Z7 A k0 k1 op) s (lkp me own l) fee=some (t,0)) (hsg:Xn fuel k t=some g):
 ((ZU fuel (Z7 A k0 k1 op) k me s.1 s.2.1 s.2.2.2 (lkp me own l) fee sg [] said hd).bind λx=>
   (ZI fuel x.2.1 x.2.2.1 x.2.2.2.1 x.2.2.2.2.1 x.2.2.2.2.2.1 x.2.2.2.2.2.2.1 x.2.2.2.2.2.2.2.1 x.2.2.2.2.2.2.2.2.1 x.2.2.2.2.2.2.2.2.2.1 x.2.2.2.2.2.2.2.2.2.2.1 x.2.2.2.2.2.2.2.2.2.2.2.1 x.2.2.2.2.2.2.2.2.2.2.2.2).bind λt=>
   (Xn fuel x.2.2.1 t).bind λg=>
   (Yp fuel (byM g) x.2.1 x.2.2.1 x.2.2.2.1 x.2.2.2.2.1 x.2.2.2.2.2.1 x.2.2.2.2.2.2.1 x.2.2.2.2.2.2.2.1 x.2.2.2.2.2.2.2.2.1 x.2.2.2.2.2.2.2.2.2.1 x.2.2.2.2.2.2.2.2.2.2.1 x.2.2.2.2.2.2.2.2.2.2.2.1 x.2.2.2.2.2.2.2.2.2.2.2.2).bind λy=>
   (ZT fuel y.1 y.2.1 y.2.2.1 y.2.2.2.1 y.2.2.2.2.1 y.2.2.2.2.2.1 y.2.2.2.2.2.2.1 y.2.2.2.2.2.2.2.1 y.2.2.2.2.2.2.2.2.1 y.2.2.2.2.2.2.2.2.2.1 y.2.2.2.2.2.2.2.2.2.2.1 y.2.2.2.2.2.2.2.2.2.2.2).bind λz=>
   some (z.1,(0:Int),z.2))=
 some (Zgy (Zpj op me fee own g said),(0:Int),Z7 A k0 k1 op,k,me,s.1,s.2.1,s.2.2.2,lkp me own l,fee,sg,([]:List Cond),Zpj op me fee own g said,hd):=by
 have hb:(byt (Y3 (Xw op me fee) (VC own))).length≤1000000000:=by
  have:=Zfo g0;show(VC own).length≤_;omega
 have hb2:(byt (byM g)).length≤1000000000:=by show(0:Nat)≤_;omega
 obtain⟨a1,a2⟩:=ZzT (by omega) h2 _ hb
 obtain⟨b1,b2⟩:(Zpj op me fee own g said).length≤100000∧∀x,x∈Zpj op me fee own g said→(byt x).length≤1000000000:=by
  unfold Zpj;have:=Zl7 said (Y3 (Xw op me fee) (VC own));obtain⟨q1,q2⟩:=ZzT (by omega) a2 _ hb2;exact⟨by omega,q2⟩
 rw[ZzR hme (ZC1 hme own l) g0 g1 (by omega) h2,ya]
 have hc:ZI fuel (Z7 A k0 k1 op) k me s.1 s.2.1 s.2.2.2 (lkp me own l) fee sg [] (YZ said (Y3 (Xw op me fee) (VC own))) hd=some t:=by
  unfold ZI YN;rw[show(s.1,s.2.1,([]:List Cond),s.2.2.2)=s by rw[←hn],hmk,ya];rfl
 dsimp only;rw[hc,ya,hsg,ya,ZBt (by omega) hb2,ya];dsimp only;rw[show YZ (YZ said (Y3 (Xw op me fee) (VC own))) (byM g)=Zpj op me fee own g said from rfl,Zpi b1 b2,ya]
theorem ZC3{A:Int}{k0 k1:Kit}{op:Int}(ho:op=0∨op=1){s:State}{h0 h1:Int}(hv:s.2.1=[h0,h1])(hn:s.2.2.1=[])(me fee:Int):YS fuel (Z7 A k0 k1 op) (s.1,s.2.1,([]:List Cond),s.2.2.2) me fee=some (ZzQ op h0 h1 me fee):=by
 rw[show(s.1,s.2.1,([]:List Cond),s.2.2.2)=s by rw[←hn],ZCZ ho hv]
theorem ZKX{A:Int}{k0 k1:Kit}{op:Int}(ho:op=0∨op=1){s:State}{h0 h1:Int}(hv:s.2.1=[h0,h1])(hn:s.2.2.1=[]){me:Int}(hme:me=0∨me=1){k:Kit}{own l l':Lock}(g0:Wh own)(g1:Vg own){m:Msg}(hm:m.1=12)(hmb:(byt m).length≤1000000000)
 (hr:Za8 fuel (byt m)=some (l,true)) (hfit:ZzQ op h0 h1 (1 - me) (rat m)=true) {said hd:List Msg} (hf:fnd hd 12=none∨∃o,fnd hd 12=some o∧byt o=byt m∧rat o=rat m)
 (h1':said.length≤100) (h2:∀m,m∈said→(byt m).length≤1000000000) (h3:hd.length≤100) {fee fee':Int} (hfe:fee'=if 1 - me=op then rat m else fee) {t:Tx} {g:Sig} (sg:Sig)
 (hmk:closing_MakeM fuel (Z7 A k0 k1 op) s (lkp me own l) fee'=some (t,0)) (hsg:Xn fuel k t=some g):
 Z3 fuel m (Z7 A k0 k1 op) k me s.1 s.2.1 s.2.2.2 (lkp me own l') fee sg [] said hd=
  some (Zgy (Zpj op me fee' own g said),(0:Int),Z7 A k0 k1 op,k,me,s.1,s.2.1,s.2.2.2,lkp me own l,fee',sg,([]:List Cond),Zpj op me fee' own g said,YZ hd m):=by
 obtain⟨e1,e2,e3,e4⟩:=ZC2 hme own l' l;have hO:(Z7 A k0 k1 op).2.2.2.2=op:=rfl;have hon:YH fuel m hd=some (YZ hd m):=Zuc (by omega) hmb;have hr:Za8 fuel m.2.2.2.2.2.2.2.2.2.2.2.2.2=some (l,true):=hr;have tl:=ZEm (A:=A) (k0:=k0) (k1:=k1) (op:=op) (hd:=YZ hd m) hme hn g0 g1 h1' h2 sg hmk hsg;unfold Z3;rw[Zl6 (by omega),ya,if_pos (by rw[hm];rfl),hr,ya];rw[e1,e2,e3,e4,hO];rcases hf with hf|⟨o,hf,hb,hra⟩
 ·rw[hf,if_neg (by simp),if_neg (by simp),ZC3 ho hv hn];rw[show m.2.2.2.2.2.2.1=rat m from rfl,hfit,ya,if_neg (by decide),hon,ya,if_pos rfl,ya]
  by_cases hp:1 - me=op
  ·rw[if_pos hp] at hfe;subst hfe;rw[if_pos (by rw[hp];exact beq_self_eq_true _)];exact tl
  ·rw[if_neg hp] at hfe;subst hfe;rw[if_neg (by rw[beq_iff_eq];exact hp)];exact tl
 ·rw[hf,if_pos (by rfl)];rw[show(Option.getD (some o) ZKM,Option.isSome (some o)).1.2.2.2.2.2.2.2.2.2.2.2.2.2=byt m from hb,show m.2.2.2.2.2.2.2.2.2.2.2.2.2=byt m from rfl,ZEl,decide_eq_true rfl,ya,if_neg (by decide)]
  rw[show(Option.getD (some o) ZKM,Option.isSome (some o)).1.2.2.2.2.2.2.1=rat m from hra,show m.2.2.2.2.2.2.1=rat m from rfl,if_neg (by simp),if_neg (by simp),ZC3 ho hv hn]
  rw[hfit,ya,if_neg (by decide),hon,ya,if_pos rfl,ya];by_cases hp:1 - me=op
  ·rw[if_pos hp] at hfe;subst hfe;rw[if_pos (by rw[hp];exact beq_self_eq_true _)];exact tl
  ·rw[if_neg hp] at hfe;subst hfe;rw[if_neg (by rw[beq_iff_eq];exact hp)];exact tl
theorem ZKY{A:Int}{k0 k1:Kit}{op:Int}{s:State}(hn:s.2.2.1=[]){me:Int}(hme:me=0∨me=1){k:Kit}{lk:List Lock}{m:Msg}(hm:m.1=13)(hmb:(byt m).length≤1000000000)
 {said hd:List Msg} {o:Msg} (hf:fnd hd 12=some o) (h3:hd.length≤100) {fee:Int} {t:Tx} {id:List UInt8} (sg:Sig)
 (hmk:closing_MakeM fuel (Z7 A k0 k1 op) s lk fee=some (t,0)) (hid:Zf2 fuel t=some id) {v:Bool} (hve:sign_VerifyM fuel (B (ZzP k0 k1 (1 - me)).1.toNat) id (ZKW m)=some v):
 ∃r e,Z3 fuel m (Z7 A k0 k1 op) k me s.1 s.2.1 s.2.2.2 lk fee sg [] said hd=
  some (r,e,Z7 A k0 k1 op,k,me,s.1,s.2.1,s.2.2.2,lk,fee,(if v=true then ZKW m else sg),([]:List Cond),said,(if v=true then YZ hd m else hd)):=by
 have hon:YH fuel m hd=some (YZ hd m):=Zuc (by omega) hmb
 have hc:ZI fuel (Z7 A k0 k1 op) k me s.1 s.2.1 s.2.2.2 lk fee sg [] said hd=some t:=by
  unfold ZI YN;rw[show(s.1,s.2.1,([]:List Cond),s.2.2.2)=s by rw[←hn],hmk,ya];rfl
 obtain⟨e1,e2,e3,e4⟩:=ZC2 hme ([]:Lock) [] [];have hB:(Z7 A k0 k1 op).2.2.1[(1 - me).toNat]? =some (ZY (ZzP k0 k1 (1 - me))):=by rcases hme with rfl|rfl <;> rfl
 unfold Z3;rw[Zl6 (by omega),ya,if_neg (by rw[hm];decide),if_pos (by rw[hm];rfl),hf,if_neg (by simp),e3,e4,hB,if_pos rfl,ya,hc,ya,hid,ya];rw[show(ZY (ZzP k0 k1 (1 - me))).1=B (ZzP k0 k1 (1 - me)).1.toNat from rfl,show m.2.2.2.2.2.2.2.1=ZKW m from rfl,hve,ya]
 cases v with
 |false=>rw[if_pos (by decide)];exact⟨_,_,rfl⟩
 |true=>rw[if_neg (by decide),hon,ya];exact⟨_,_,rfl⟩
theorem ZEn{c:ZE}{k:Kit}{me no:Int}{hv:List Int}{r:Int}{lk:List Lock}{fee:Int}{sg:Sig}{cs:List Cond}{m:Msg}(hm:m.1=13){said hd:List Msg}(hf:fnd hd 12=none)(h3:hd.length≤100):
 Z3 fuel m c k me no hv r lk fee sg cs said hd=some (([]:List Msg),(14:Int),c,k,me,no,hv,r,lk,fee,sg,cs,said,hd):=by
 unfold Z3;rw[Zl6 (by omega),ya,if_neg (by rw[hm];decide),if_pos (by rw[hm];rfl),hf,if_pos (by decide)]
structure Cx where
 A:Int
 k0:Kit
 k1:Kit
 op:Int
 s:State
 h0:Int
 h1:Int
 n:Int
 r:List Out
 g0:Sig
 g1:Sig
namespace Cx
noncomputable section
variable(x:Cx)
def ch:ZE:=Z7 x.A x.k0 x.k1 x.op
def kt(i:Int):Kit:=ZzP x.k0 x.k1 i
def own(i:Int):Lock:=[([B (x.kt i).2.1.toNat],0,0,0)]
def cl(i:Int):Msg:=Y3 (Xw x.op i x.n) (VC (x.own i))
def g(i:Int):Sig:=if i=0 then x.g0 else x.g1
def sy(i:Int):Msg:=byM (x.g i)
def T:Tx:=([((z32,0),(0,[],0))],x.r,2097154)
def nm:List UInt8:=ZCH (Zlz x.T)
structure Ok(x:Cx):Prop where
 c:ChOk x.A x.k0 x.k1 x.op
 s:StIn x.A x.s x.h0 x.h1
 w:hav x.op x.h0 x.h1 ≥ cost x.s.2.2.2 x.s.2.2.1.length
 e:x.s.2.2.1=[]
 f0:52≤x.n
 f1:x.n≤hav x.op x.h0 x.h1
 mkk:Mk x.op x.h0 x.h1 x.n (x.own 0) (x.own 1) x.r
 mm:closing_MakeM fuel x.ch x.s [x.own 0,x.own 1] x.n=some (x.T,0)
 wf:TxWf x.T
 ok:TxOk x.T
 am:amts x.r≤1125899906842624
 sg:∀i,i=0∨i=1→sign_SignM fuel (x.kt i).1 x.nm=some (x.g i)
 ve:∀i,i=0∨i=1→sign_VerifyM fuel (B (x.kt i).1.toNat) x.nm (x.g i)=some true
theorem own_ok(i:Int):Wh (x.own i)∧Vg (x.own i):=by
 refine ZxW (by simp[own]) (by simp[own]) ?_;intro b hb;rw[yan.1 hb];refine⟨⟨by simp,show(0:Int)≤0 by decide,show(0:Int)≤1048576 by decide,show(0:Int)≤0 by decide,show(0:Int)≤1048576 by decide⟩,λr hr=> ?_,nox⟩;rw[yan.1 hr];exact Zo9 _
theorem Zud(p:UInt64):XX fuel p=some [([p],0,0,0)]:=by
 unfold XX Zig Yc;rw[if_pos (Z2 (by simp) (by simp)),ya,ya]
theorem ex{A:Int}{k0 k1:Kit}{op:Int}(c:ChOk A k0 k1 op){s:State}{h0 h1:Int}(hs:StIn A s h0 h1)(w:hav op h0 h1 ≥ cost s.2.2.2 s.2.2.1.length)(e:s.2.2.1=[]){n:Int}(f0:52≤n)(f1:n≤hav op h0 h1):∃r g0 g1,Cx.Ok ⟨A,k0,k1,op,s,h0,h1,n,r,g0,g1⟩:=by
 have o0:=own_ok ⟨A,k0,k1,op,s,h0,h1,n,[],(0,0),(0,0)⟩ 0;have o1:=own_ok ⟨A,k0,k1,op,s,h0,h1,n,[],(0,0),(0,0)⟩ 1;obtain⟨r,m1,m2⟩:=ZIz c hs w e o0 o1 f0 f1;have hA:=c.hi;have ht:=hs.tot;rw[e,show amtC ([]:List Cond)=0 from rfl] at ht
 obtain⟨q1,q2,q3,q4,q5,q6⟩:=m2.outs hs.p0 hs.p1 (by omega) f0 f1 o0 o1;obtain⟨i1,i2⟩:=ZCI q4 q5 q6;obtain⟨a,a1,a2⟩:=ZC0 c.k0.1 i2;obtain⟨b,b1,b2⟩:=ZC0 c.k1.1 i2;refine⟨r,a,b,c,hs,w,e,f0,f1,m2,m1,q4,q5,q6,λi hi=> ?_,λi hi=> ?_⟩
 ·rcases hi with rfl|rfl
  ·exact a1
  ·exact b1
 ·rcases hi with rfl|rfl
  ·exact a2
  ·exact b2
def lk(me:Int)(a:Nat):List Lock:=lkp me (x.own me) (if a < 2 then[] else x.own (1 - me))
def fe(me:Int)(a:Nat):Int:=if a < 2 then Xw x.op me x.n else x.n
def sn(me:Int)(a:Nat):Sig:=if a < 3 then(0,0) else x.g (1 - me)
def sa(me:Int):Nat→List Msg
 |0=>[]
 |1=>[x.cl me]
 |_=>[x.cl me,x.sy me]
def hd(me:Int):Nat→List Msg
 |0=>[]
 |1=>[]
 |2=>[x.cl (1 - me)]
 |_=>[x.cl (1 - me),x.sy (1 - me)]
abbrev en(me:Int)(a:Nat):ZE×Kit×Int×Int×List Int×Int×List Lock×Int×Sig×List Cond×List Msg×List Msg:=
 (x.ch,x.kt me,me,x.s.1,x.s.2.1,x.s.2.2.2,x.lk me a,x.fe me a,x.sn me a,[],x.sa me a,x.hd me a)
def tk(a j:Nat):Nat:=if j=0 then(if a < 2 then 2 else a) else(if a < 2 then a else 3)
def st(a:Nat):Nat:=if a=0 then 1 else a
theorem byt_cl(i:Int):(byt (x.cl i)).length≤1000000000:=by
 have:=Zfo (x.own_ok i).1;show(VC (x.own i)).length≤_;omega
theorem byt_sy(i:Int):(byt (x.sy i)).length≤1000000000:=by show(0:Nat)≤_;omega
theorem sa_of{me:Int}{a:Nat}{m:Msg}(h:m∈x.sa me a):m=x.cl me∨m=x.sy me:=by
 unfold sa at h;split at h <;> simp at h
 ·exact .inl h
 ·exact h
theorem sa_len(me:Int)(a:Nat):(x.sa me a).length≤2:=by unfold sa;split <;> simp
theorem hd_len(me:Int)(a:Nat):(x.hd me a).length≤2:=by unfold hd;split <;> simp
theorem sa_byt{me:Int}{a:Nat}:∀m,m∈x.sa me a→(byt m).length≤1000000000:=by
 intro m h;rcases x.sa_of h with rfl|rfl
 ·exact x.byt_cl _
 ·exact x.byt_sy _
theorem ZzU(me:Int)(a:Nat):Zgy (x.sa me a)=x.sa me a:=by unfold sa;split <;> rfl
theorem again_e(me:Int)(a:Nat):ZT fuel x.ch (x.kt me) me x.s.1 x.s.2.1 x.s.2.2.2 (x.lk me a) (x.fe me a) (x.sn me a) [] (x.sa me a) (x.hd me a)=some (x.sa me a,x.en me a):=by
 rw[Zpi (by have:=x.sa_len me a;omega) x.sa_byt,ZzU]
theorem start_e{me:Int}(hme:me=0∨me=1){a:Nat}(ha:a≤3):ZU fuel x.ch (x.kt me) me x.s.1 x.s.2.1 x.s.2.2.2 (x.lk me a) (x.fe me a) (x.sn me a) [] (x.sa me a) (x.hd me a)=some (x.sa me (st a),x.en me (st a)):=by
 have o:=x.own_ok me
 have hr:Xw x.op me (x.fe me a)=Xw x.op me x.n:=by
  unfold fe Xw;by_cases hm:me=x.op <;> simp[hm]
 have e1:YZ (x.sa me a) (x.cl me)=x.sa me (st a):=by
  match a,ha with
  |0,_=>rfl
  |1,_=>rfl
  |2,_=>rfl
  |3,_=>rfl
 have e2:x.lk me (st a)=x.lk me a∧x.fe me (st a)=x.fe me a∧x.sn me (st a)=x.sn me a∧x.hd me (st a)=x.hd me a:=by
  match a,ha with
  |0,_=>exact⟨rfl,rfl,rfl,rfl⟩
  |1,_=>exact⟨rfl,rfl,rfl,rfl⟩
  |2,_=>exact⟨rfl,rfl,rfl,rfl⟩
  |3,_=>exact⟨rfl,rfl,rfl,rfl⟩
 unfold ch;have hlk:(x.lk me a)[me.toNat]? =some (x.own me):=ZC1 hme _ _;rw[ZzR hme hlk o.1 o.2 (by have:=x.sa_len me a;omega) x.sa_byt,hr,show Y3 (Xw x.op me x.n) (VC (x.own me))=x.cl me from rfl,e1,ZzU, ←e2.1, ←e2.2.1, ←e2.2.2.1, ←e2.2.2.2]
 rfl
theorem ZG3{x:Cx}(h:x.Ok){i:Int}(hi:i=0∨i=1):Xn fuel (x.kt i) x.T=some (x.g i):=by
 unfold Xn;rw[show Zf2 fuel x.T=some x.nm from(ZCI h.wf h.ok h.am).1,ya,h.sg i hi,ya]
theorem ZII{x:Cx}{me:Int}(hme:me=0∨me=1):lkp me (x.own me) (x.own (1 - me))=[x.own 0,x.own 1]:=by
 rcases hme with rfl|rfl <;> rfl
theorem two{i:Int}(h:i=0∨i=1):1 - i=0∨1 - i=1:=by omega
theorem ZI9{x:Cx}(h:x.Ok)(i:Int):ZzQ x.op x.h0 x.h1 i (Xw x.op i x.n)=true:=by
 unfold ZzQ Xw;split
 ·exact decide_eq_true ⟨h.f0,h.f1⟩
 ·rfl
theorem ZG4{x:Cx}{me:Int}(hme:me=0∨me=1){a:Nat}(h:2≤a):x.lk me a=[x.own 0,x.own 1]:=by
 unfold lk;rw[if_neg (by omega),ZII hme]
theorem ZG5{x:Cx}{me:Int}{a:Nat}(h:2≤a):x.fe me a=x.n:=if_neg (by omega)
theorem ZG6(r r':Int)(b b':List UInt8)(g g':Sig):YZ (YZ [] (Y3 r b)) (byM g)=[Y3 r b,byM g]∧YZ (YZ [Y3 r b] (Y3 r b)) (byM g)=[Y3 r b,byM g]∧YZ (YZ [Y3 r b,byM g] (Y3 r b)) (byM g)=[Y3 r b,byM g]∧
 YZ [] (Y3 r b)=[Y3 r b]∧YZ [Y3 r b] (Y3 r' b')=[Y3 r b]∧YZ [Y3 r b,byM g] (Y3 r' b')=[Y3 r b,byM g]∧YZ [Y3 r b] (byM g)=[Y3 r b,byM g]∧YZ [Y3 r b,byM g] (byM g')=[Y3 r b,byM g]:=⟨rfl,rfl,rfl,rfl,rfl,rfl,rfl,rfl⟩
theorem ZG7{x:Cx}{me:Int}{a:Nat}(ha:a≤3):(a < 2∧fnd (x.hd me a) 12=none)∨2≤a∧fnd (x.hd me a) 12=some (x.cl (1 - me)):=by
 match a,ha with
 |0,_=>exact .inl ⟨by omega,rfl⟩
 |1,_=>exact .inl ⟨by omega,rfl⟩
 |2,_=>exact .inr ⟨by omega,rfl⟩
 |3,_=>exact .inr ⟨by omega,rfl⟩
theorem ZL5{x:Cx}{me:Int}{a:Nat}(ha:a≤3):Zpj x.op me x.n (x.own me) (x.g me) (x.sa me a)=x.sa me (tk a 0)∧YZ (x.hd me a) (x.cl (1 - me))=x.hd me (tk a 0)∧x.sn me (tk a 0)=x.sn me a:=by
 obtain⟨k1,k2,k3,_⟩:=ZG6 (Xw x.op me x.n) 0 (VC (x.own me)) [] (x.g me) (0,0);obtain⟨_,_,_,k4,k5,k6,_⟩:=ZG6 (Xw x.op (1 - me) x.n) (Xw x.op (1 - me) x.n) (VC (x.own (1 - me))) (VC (x.own (1 - me))) (x.g (1 - me)) (0,0)
 match a,ha with
 |0,_=>exact⟨k1,k4,rfl⟩
 |1,_=>exact⟨k2,k4,rfl⟩
 |2,_=>exact⟨k3,k5,rfl⟩
 |3,_=>exact⟨k3,k6,rfl⟩
theorem ZL6{x:Cx}{me:Int}{a:Nat}(h2:2≤a)(ha:a≤3):x.sn me (tk a 1)=x.g (1 - me)∧x.sa me (tk a 1)=x.sa me a∧YZ (x.hd me a) (x.sy (1 - me))=x.hd me (tk a 1)∧2≤tk a 1:=by
 obtain⟨_,_,_,_,_,_,k7,k8⟩:=ZG6 (Xw x.op (1 - me) x.n) 0 (VC (x.own (1 - me))) [] (x.g (1 - me)) (x.g (1 - me))
 match a,h2,ha with
 |2,_,_=>exact⟨rfl,rfl,k7,by decide⟩
 |3,_,_=>exact⟨rfl,rfl,k8,by decide⟩
theorem ZL7(a:Nat):2≤tk a 0:=by
 unfold tk;rw[if_pos rfl];split <;> omega
theorem ZxX{x:Cx}(h:x.Ok){me:Int}(hme:me=0∨me=1){a:Nat}(ha:a≤3){m:Msg}{j:Nat}(hm:j=0∧m=x.cl (1 - me)∨j=1∧m=x.sy (1 - me)):
 ∃r e,Z3 fuel m x.ch (x.kt me) me x.s.1 x.s.2.1 x.s.2.2.2 (x.lk me a) (x.fe me a) (x.sn me a) [] (x.sa me a) (x.hd me a)=some (r,e,x.en me (tk a j)):=by
 have hl:=x.sa_len me a;have hh:=x.hd_len me a;rcases hm with⟨rfl,rfl⟩|⟨rfl,rfl⟩
 ·have o:=x.own_ok (1 - me);have ho:=h.c.o
  have hf:fnd (x.hd me a) 12=none∨∃o,fnd (x.hd me a) 12=some o∧byt o=byt (x.cl (1 - me))∧rat o=rat (x.cl (1 - me)):=by
   rcases ZG7 (x:=x) (me:=me) ha with h|h
   ·exact .inl h.2
   ·exact .inr ⟨_,h.2,rfl,rfl⟩
  have hfe:x.n=if 1 - me=x.op then rat (x.cl (1 - me)) else x.fe me a:=by
   split
   ·rename_i hp;show x.n=Xw x.op (1 - me) x.n;unfold Xw;rw[if_pos hp]
   ·rename_i hp;unfold fe;split
    ·unfold Xw;rw[if_pos (by omega)]
    ·rfl
  have key:=ZKX (A:=x.A) (k0:=x.k0) (k1:=x.k1) (k:=x.kt me) (own:=x.own me) (l:=x.own (1 - me)) (l':=if a < 2 then[] else x.own (1 - me)) (fee:=x.fe me a) (said:=x.sa me a) (hd:=x.hd me a) ho h.s.hv h.e hme (x.own_ok me).1 (x.own_ok me).2 (m:=x.cl (1 - me)) rfl (x.byt_cl _) (Zv2 o.1 o.2) (ZI9 h (1 - me)) hf (by omega) x.sa_byt (by omega) hfe (x.sn me a) (t:=x.T) (g:=x.g me) (by rw[ZII hme];exact h.mm) (ZG3 h hme)
  obtain⟨e1,e2,e3⟩:=ZL5 (x:=x) (me:=me) ha;rw[e1,e2,ZII hme] at key;refine⟨Zgy (x.sa me (tk a 0)),0,key.trans ?_⟩;unfold en;rw[ZG4 hme (ZL7 a),ZG5 (ZL7 a),e3];rfl
 ·rcases ZG7 (x:=x) (me:=me) ha with⟨h2,hf⟩|⟨h2,hf⟩
  ·refine⟨[],14,(ZEn (m:=x.sy (1 - me)) rfl hf (by omega)).trans ?_⟩;rw[show tk a 1=a by unfold tk;simp[h2]]
  ·obtain⟨r,e,he⟩:=ZKY (A:=x.A) (k0:=x.k0) (k1:=x.k1) (op:=x.op) (k:=x.kt me) h.e hme (m:=x.sy (1 - me)) rfl (x.byt_sy _) (said:=x.sa me a) hf (by omega) (x.sn me a) (lk:=x.lk me a) (fee:=x.fe me a) (by rw[ZG4 hme h2,ZG5 h2];exact h.mm) (ZCI h.wf h.ok h.am).1 (h.ve (1 - me) (two hme));refine⟨r,e,he.trans ?_⟩;obtain⟨e1,e2,e3,e4⟩:=ZL6 (x:=x) (me:=me) h2 ha;unfold en;rw[if_pos rfl,if_pos rfl,e3,ZG4 hme h2,ZG5 h2,ZG4 hme e4,ZG5 e4,e1,e2];rfl
end
end Cx
theorem Zl8{I α:Type}{step:I→Option (I⊕(Bool⊕Unit))}(st:Nat→I)(a b:List α)(f:α→α→Option Bool)(hl:a.length=b.length)(hn:b.length < 18446744073709551616)
 (hf:∀e g,e∈a→g∈b→∃r,f e g=some r∧(e=g→r=true))
 (hs:∀k e g,k < b.length→a[k]? =some e→b[k]? =some g→step (st k)=(f e g).bind λo=>if(!o)=true then some (.inr (.inl false)) else some (.inl (st (k+1)))) (he:step (st b.length)=some (.inr (.inr ()))):
 ∃x,Zb step fuel (st 0)=some x∧((x=.inl false∧a≠b)∨x=.inr ()):=by
 refine Yk (step:=step) b.length (λk s=>s=st k) _ rfl hn ?_ ?_
 ·rintro k _ hk rfl;obtain⟨e,hz,hm⟩:=Zk (l:=a) (k:=k) (by omega);obtain⟨g,hg,hm2⟩:=Zk hk;obtain⟨r,hr1,hr2⟩:=hf e g hm hm2;rw[hs k e g hk hz hg,hr1,ya]
  cases r with
  |true=>left;exact⟨_,rfl,rfl⟩
  |false=>
   right;refine⟨_,rfl,.inl ⟨rfl,λh=> ?_⟩⟩;subst h;rw[hz] at hg;cases hg;have:=hr2 rfl;cases this
 ·rintro _ rfl;exact⟨_,he,.inr rfl⟩
theorem ZEo{a b:List Sig}(h:b.length≤1000000):∃r,Zhf fuel a b=some r∧(a=b→r=true):=by
 unfold Zhf;by_cases hl:a.length=b.length
 ·rw[if_neg (by simp[hl])]
  obtain⟨x,h1,h2⟩:=Zl8 (step:=QY fuel) (λk:Nat=>(a,b,(a.length:Int),(k:Int))) a b (λe g=>some (decide (e=g))) hl (by omega) (λe g _ _=>⟨_,rfl,λh=>decide_eq_true h⟩) (by
   intro k e g hk he hg;unfold QY;dsimp only;rw[if_pos (decide_eq_true (by omega)),Zp he,ya,Zp hg,ya,Zs (by omega),ya]) (by
   unfold QY;dsimp only;rw[hl,if_neg (by rw[ZW];decide)])
  rw[show((0:Nat):Int)=0 from rfl] at h1
  rw[h1,ya];rcases h2 with⟨rfl,h2⟩|rfl
  ·exact⟨_,rfl,λh=>absurd h h2⟩
  ·exact⟨_,rfl,λ_=>rfl⟩
 ·rw[if_pos (by simp;omega)];exact⟨_,rfl,λh=>by rw[h] at hl;exact absurd rfl hl⟩
theorem Zv6{a b:List UInt64}(h:b.length≤1000000):∃r,Zaz fuel a b=some r∧(a=b→r=true):=by
 unfold Zaz;by_cases hl:a.length=b.length
 ·rw[if_neg (by simp[hl])]
  obtain⟨x,h1,h2⟩:=Zl8 (step:=VB fuel) (λk:Nat=>(a,b,(a.length:Int),(k:Int))) a b (λe g=>some (e==g)) hl (by omega) (λe g _ _=>⟨_,rfl,λh=>by rw[h];exact beq_self_eq_true _⟩) (by
   intro k e g hk he hg;unfold VB;dsimp only;rw[if_pos (decide_eq_true (by omega)),Zp he,ya,Zp hg,ya,Zs (by omega),ya];rfl) (by
   unfold VB;dsimp only;rw[hl,if_neg (by rw[ZW];decide)])
  rw[show((0:Nat):Int)=0 from rfl] at h1
  rw[h1,ya];rcases h2 with⟨rfl,h2⟩|rfl
  ·exact⟨_,rfl,λh=>absurd h h2⟩
  ·exact⟨_,rfl,λ_=>rfl⟩
 ·rw[if_pos (by simp;omega)];exact⟨_,rfl,λh=>by rw[h] at hl;exact absurd rfl hl⟩
theorem ZIJ{a b:In}(h:b.2.2.1.length≤1000000):∃r,Zgp fuel a b=some r∧(a=b→r=true):=by
 unfold Zgp;obtain⟨r,h1,h2⟩:=ZEo (a:=a.2.2.1) h;rw[h1,ya];by_cases k1:a.1=b.1
 ·rw[if_pos (decide_eq_true k1)];by_cases k2:a.2.1=b.2.1
  ·rw[if_pos (by rw[k2];exact beq_self_eq_true _)];by_cases k3:a.2.2.2=b.2.2.2
   ·rw[if_pos (by rw[k3];exact beq_self_eq_true _)];exact⟨_,rfl,λh=>h2 (by rw[h])⟩
   ·rw[if_neg (by rw[beq_iff_eq];exact k3)];exact⟨_,rfl,λh=>absurd (by rw[h]) k3⟩
  ·rw[if_neg (by rw[beq_iff_eq];exact k2)];exact⟨_,rfl,λh=>absurd (by rw[h]) k2⟩
 ·rw[if_neg (by rw[decide_eq_true_iff];exact k1)];exact⟨_,rfl,λh=>absurd (by rw[h]) k1⟩
theorem ZIK{a b:ZJ}(h:b.1.length≤1000000):∃r,Zgr fuel a b=some r∧(a=b→r=true):=by
 unfold Zgr;obtain⟨r,h1,h2⟩:=Zv6 (a:=a.1) h;rw[h1,ya];by_cases k1:a.2.1=b.2.1
 ·rw[if_pos (by rw[k1];exact beq_self_eq_true _)];by_cases k2:a.2.2.1=b.2.2.1
  ·rw[if_pos (by rw[k2];exact beq_self_eq_true _)];by_cases k3:a.2.2.2=b.2.2.2
   ·rw[if_pos (by rw[k3];exact beq_self_eq_true _)];exact⟨_,rfl,λh=>h2 (by rw[h])⟩
   ·rw[if_neg (by rw[beq_iff_eq];exact k3)];exact⟨_,rfl,λh=>absurd (by rw[h]) k3⟩
  ·rw[if_neg (by rw[beq_iff_eq];exact k2)];exact⟨_,rfl,λh=>absurd (by rw[h]) k2⟩
 ·rw[if_neg (by rw[beq_iff_eq];exact k1)];exact⟨_,rfl,λh=>absurd (by rw[h]) k1⟩
theorem ZG8{a b:List ZJ}(h:b.length≤1000000)(hk:∀x,x∈b→x.1.length≤1000000):∃r,Zcd fuel a b=some r∧(a=b→r=true):=by
 unfold Zcd;by_cases hl:a.length=b.length
 ·rw[if_neg (by simp[hl])]
  obtain⟨x,h1,h2⟩:=Zl8 (step:=W6 fuel) (λk:Nat=>(b,a,(a.length:Int),(k:Int))) a b (Zgr fuel) hl (by omega) (λe g _ hg=>ZIK (hk g hg)) (by
   intro k e g hk he hg;unfold W6;dsimp only;rw[if_pos (decide_eq_true (by omega)),Zp he,ya,Zp hg,ya,Zs (by omega)]) (by
   unfold W6;dsimp only;rw[hl,if_neg (by rw[ZW];decide)])
  rw[show((0:Nat):Int)=0 from rfl] at h1
  rw[h1,ya];rcases h2 with⟨rfl,h2⟩|rfl
  ·exact⟨_,rfl,λh=>absurd h h2⟩
  ·exact⟨_,rfl,λ_=>rfl⟩
 ·rw[if_pos (by simp;omega)];exact⟨_,rfl,λh=>by rw[h] at hl;exact absurd rfl hl⟩
theorem ZG9{a b:Out}(h:b.2.length≤1000000)(hk:∀x,x∈b.2→x.1.length≤1000000):∃r,Zgs fuel a b=some r∧(a=b→r=true):=by
 unfold Zgs;obtain⟨r,h1,h2⟩:=ZG8 (a:=a.2) h hk;rw[h1,ya];by_cases k1:a.1=b.1
 ·rw[if_pos (by rw[k1];exact beq_self_eq_true _)];exact⟨_,rfl,λh=>h2 (by rw[h])⟩
 ·rw[if_neg (by rw[beq_iff_eq];exact k1)];exact⟨_,rfl,λh=>absurd (by rw[h]) k1⟩
theorem ZHa{a b:List In}(h:b.length≤1000000)(hk:∀x,x∈b→x.2.2.1.length≤1000000):∃r,Zjr fuel a b=some r∧(a=b→r=true):=by
 unfold Zjr;by_cases hl:a.length=b.length
 ·rw[if_neg (by simp[hl])]
  obtain⟨x,h1,h2⟩:=Zl8 (step:=ZaA fuel) (λk:Nat=>(b,a,(a.length:Int),(k:Int))) a b (Zgp fuel) hl (by omega) (λe g _ hg=>ZIJ (hk g hg)) (by
   intro k e g hk he hg;unfold ZaA;dsimp only;rw[if_pos (decide_eq_true (by omega)),Zp he,ya,Zp hg,ya,Zs (by omega)]) (by
   unfold ZaA;dsimp only;rw[hl,if_neg (by rw[ZW];decide)])
  rw[show((0:Nat):Int)=0 from rfl] at h1
  rw[h1,ya];rcases h2 with⟨rfl,h2⟩|rfl
  ·exact⟨_,rfl,λh=>absurd h h2⟩
  ·exact⟨_,rfl,λ_=>rfl⟩
 ·rw[if_pos (by simp;omega)];exact⟨_,rfl,λh=>by rw[h] at hl;exact absurd rfl hl⟩
theorem ZEp{a b:List Out}(h:b.length≤1000000)(hk:∀o,o∈b→o.2.length≤1000000∧∀x,x∈o.2→x.1.length≤1000000):∃r,Zhg fuel a b=some r∧(a=b→r=true):=by
 unfold Zhg;by_cases hl:a.length=b.length
 ·rw[if_neg (by simp[hl])]
  obtain⟨x,h1,h2⟩:=Zl8 (step:=QZ fuel) (λk:Nat=>(b,a,(a.length:Int),(k:Int))) a b (Zgs fuel) hl (by omega) (λe g _ hg=>ZG9 (hk g hg).1 (hk g hg).2) (by
   intro k e g hk he hg;unfold QZ;dsimp only;rw[if_pos (decide_eq_true (by omega)),Zp he,ya,Zp hg,ya,Zs (by omega)]) (by
   unfold QZ;dsimp only;rw[hl,if_neg (by rw[ZW];decide)])
  rw[show((0:Nat):Int)=0 from rfl] at h1
  rw[h1,ya];rcases h2 with⟨rfl,h2⟩|rfl
  ·exact⟨_,rfl,λh=>absurd h h2⟩
  ·exact⟨_,rfl,λ_=>rfl⟩
 ·rw[if_pos (by simp;omega)];exact⟨_,rfl,λh=>by rw[h] at hl;exact absurd rfl hl⟩
theorem ZIL{a b:Tx}(hw:TxWf b)(h:TxOk b):∃r,Zo2 fuel a b=some r∧(a=b→r=true):=by
 obtain⟨h1,h2,h3,h4,h5,h6⟩:=h;unfold Zo2;by_cases k1:a.2.2=b.2.2
 ·rw[if_pos (by rw[k1];exact beq_self_eq_true _)];obtain⟨r,r1,r2⟩:=ZHa (a:=a.1) (b:=b.1) (by omega) (λx hx=>by have:=(h5 x hx).2.2.2.2;omega);rw[r1,ya]
  obtain⟨q,q1,q2⟩:=ZEp (a:=a.2.1) (b:=b.2.1) (by omega) (λo ho=>by
   have hl:=(h6 o ho).2.2.1;exact⟨by have:=hl.2.1;omega,λx hx=>by have:=(hl.2.2 x hx).1;omega⟩)
  rw[q1,ya]
  cases r with
  |true=>exact⟨_,rfl,λh=>q2 (by rw[h])⟩
  |false=>exact⟨_,rfl,λh=>by have:=r2 (by rw[h]);cases this⟩
 ·rw[if_neg (by rw[beq_iff_eq];exact k1)];exact⟨_,rfl,λh=>absurd (by rw[h]) k1⟩
theorem ZHb{a b:ZJ}(h:b.1.length≤1000000):∃r,Zce fuel a b=some r∧(a=b→r=true):=by
 unfold Zce;obtain⟨r,h1,h2⟩:=Zv6 (a:=a.1) h;rw[h1,ya];by_cases hab:a=b
 ·subst hab;rw[if_pos (h2 rfl),if_pos (beq_self_eq_true _),if_pos (beq_self_eq_true _)];exact⟨_,rfl,λ_=>beq_self_eq_true _⟩
 ·have key:∀{x:Option Bool},(∃r,x=some r)→∃r,x=some r∧(a=b→r=true):=λ⟨r,hr⟩=>⟨r,hr,λh=>absurd h hab⟩;exact key (ite_some (ite_some (ite_some ⟨_,rfl⟩ ⟨_,rfl⟩) ⟨_,rfl⟩) ⟨_,rfl⟩)
theorem ZEq{a b:List ZJ}(h:b.length≤1000000)(hk:∀x,x∈b→x.1.length≤1000000):∃r,Qt fuel a b=some r∧(a=b→r=true):=by
 unfold Qt;by_cases hl:a.length=b.length
 ·rw[if_neg (by simp[hl])]
  obtain⟨x,h1,h2⟩:=Zl8 (step:=XU fuel) (λk:Nat=>(b,a,(a.length:Int),(k:Int))) a b (Zce fuel) hl (by omega) (λe g _ hg=>ZHb (hk g hg)) (by
   intro k e g hk he hg;unfold XU;dsimp only;rw[if_pos (decide_eq_true (by omega)),Zp he,ya,Zp hg,ya,Zs (by omega)]) (by
   unfold XU;dsimp only;rw[hl,if_neg (by rw[ZW];decide)])
  rw[show((0:Nat):Int)=0 from rfl] at h1
  rw[h1,ya];rcases h2 with⟨rfl,h2⟩|rfl
  ·exact⟨_,rfl,λh=>absurd h h2⟩
  ·exact⟨_,rfl,λ_=>rfl⟩
 ·rw[if_pos (by simp;omega)];exact⟨_,rfl,λh=>by rw[h] at hl;exact absurd rfl hl⟩
theorem ZL8{a b:Lock}(h:Wh b):∃r,Zju fuel a b=some r∧(a=b→r=true):=by
 obtain⟨r,h1,h2⟩:=ZEq (a:=a) (b:=b) (by have:=h.2.1;omega) λx hx=>by have:=(h.2.2 x hx).1;omega
 unfold Zju;rw[h1,ya];exact⟨r,rfl,h2⟩
end Go.Proofs.YtmkgbalfkhaflaaGreat
end
