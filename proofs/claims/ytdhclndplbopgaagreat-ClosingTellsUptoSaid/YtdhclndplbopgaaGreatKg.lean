/- Parts of the proof, in one file. -/
import Derived.Test.YtdhclndplbopgaaGreatKf
open Int renaming toNat_natCast → yar, tmod → yav
open List renaming length_append → yl, getElem?_eq_some_iff → yq, nil_append → yw, getElem?_eq_getElem → yab, append_assoc → yad, length_take → yah, length_cons → yai, mem_singleton → yam, getElem?_cons_succ → yaq, take_length → yat, getElem?_cons_zero → yau, getElem?_append_right → yax, mem_cons_self → yay, mem_cons_of_mem → yba, map_append → ybb, append_nil → ybd, mem_cons → ybh, mem_append → ycg, mem_of_mem_take → ycj, take_of_length_le → ycu, not_mem_nil → ycv, getElem_of_mem → ycw
open Nat renaming le_refl → yj, mod_eq_of_lt → yaf, mod_lt → ybc, zero_add → ybe, mul_comm → ybf, le_trans → ybm, mul_mod → ybu, mul_le_mul_right → ycc, add_zero → yce, two_pow_add_eq_or_of_lt → ycy
open Option renaming bind_some → ya, bind → ybq
open UInt64 renaming ofNat → yx, toNat_ofNat' → yaw, toNat_inj → ybz, toNat_mod → ycr
open UInt8 renaming ofNat → yas
set_option linter.unusedVariables false
set_option linter.unusedSimpArgs false
section
set_option maxRecDepth 4000
namespace Go.Proofs.YtdhclndplbopgaaGreat
open Go Go.Ev
theorem ZyB{ls:yL (yL yB)}(h:ls.flatten.length<=1000000000)(hn:ls.length<=1000):XE yD ls=some ls.flatten:=by
 unfold XE
 rw[show(ls,(0:Int),ls,(ls.length:Int),(0:Int))=(λk:Nat=>(ls,((ls.take k).flatten.length:Int),ls,(ls.length:Int),(k:Int))) 0 from rfl,
  Zt (x:=(ls,(ls.flatten.length:Int))) ls.length (λk:Nat=>(ls,((ls.take k).flatten.length:Int),ls,(ls.length:Int),(k:Int))) ?_ ?_ (by omega),ya]
 ·have hg:Zv1 (ls.flatten.length:Int)=some []:=by
   unfold Zv1;rw[yW];rw[Bool.and_eq_true];exact⟨yY (by omega),yY (by unfold Zw;omega)⟩
  dsimp only
  rw[hg,ya,show(ls,(ls.length:Int),(0:Int),([]:yL yB))=(λk:Nat=>(ls,(ls.length:Int),(k:Int),(ls.take k).flatten)) 0 from rfl,
   Zt (x:=ls.flatten) ls.length (λk:Nat=>(ls,(ls.length:Int),(k:Int),(ls.take k).flatten)) ?_ ?_ (by omega),ya]
  ·intro k hk;obtain⟨e,he,_⟩:=Zk hk;have hf:=Zyy he;have hl:=ZFO ls (k+1);rw[hf,yl] at hl;unfold X7;dsimp only;rw[yW (ZV hk),Zq he,ya,yW (ZD (by omega) (by omega)),Zn (by omega),hf]
  ·unfold X7;dsimp only;rw[yX (by rw[ZH];decide),yat]
 ·intro k hk;obtain⟨e,he,_⟩:=Zk hk;have hf:=Zyy he;have hl:=ZFO ls (k+1);rw[hf,yl] at hl;unfold X6;dsimp only;rw[yW (ZV hk),Zq he,ya,ZG (z:=((ls.take k).flatten.length:Int)+(e.length:Int)) (by omega) (by omega),yX (ynd (by omega)),Zn (by omega),hf,yl];rfl
 ·unfold X6;dsimp only;rw[yX (by rw[ZH];decide),yat]
theorem ZAz{a b:yL yB}(h:a.length+b.length<=1000000000):ZcB yD a b=some (a++b):=by
 unfold ZcB;rw[ZyB (by simp;omega) (by simp),ya];simp
def X4(n:Nat):yL yB:=if h:n < 128 then[yas n] else yas (n % 128+128)::X4 (n / 128)
termination_by n
decreasing_by omega
theorem ZeY{n:Nat}(h:n < 128):X4 n=[yas n]:=by rw[X4,dif_pos h]
theorem ZrU{n:Nat}(h:¬n < 128):X4 n=yas (n % 128+128)::X4 (n / 128):=by rw[X4,dif_neg h]
theorem ZFR:∀(j n:Nat),n < 128 ^ (j+1)->(X4 n).length<=j+1
 |0,n,h=>by rw[ZeY (by omega)];exact yj _
 |j+1,n,h=>by
  by_cases h0:n < 128
  ·rw[ZeY h0,List.length_singleton];omega
  ·rw[ZrU h0];have:=ZFR j (n / 128) (by rw[Nat.pow_succ] at h;omega);simp only[yai];omega
theorem Z7{n:Nat}(h:n<=9223372036854775807):(X4 n).length<=9:=ZFR 8 n (by omega)
theorem ZLt(n:Nat):X4 n≠[]:=by
 rw[X4];split <;> simp
theorem ZJO{n:Nat}(h:n<=9223372036854775807):ZkW yD (n:Int)=some (X4 n):=by
 unfold ZkW;refine Exists.elim (V2 (step:=Zhk yD) (λs=>∃m:Nat,s.1=(m:Int)/\m<=n/\s.2++X4 m=X4 n) (λs=>s.1.toNat) (λx=>∃m:Nat,x.1=(m:Int)/\m < 128/\x.2++X4 m=X4 n) ?_ ((n:Int),([]:yL yB)) ⟨n,rfl,yj _,rfl⟩ (by dsimp only;omega)) ?_
 ·rintro⟨_,o⟩ ⟨m,rfl,hm,ho⟩;unfold Zhk;dsimp only at ho ⊢;have hr:=congrArg List.length ho;have hl:=Z7 h;rw[yl] at hr;by_cases h1:m < 128
  ·right;rw[yX (ynd (by omega))];exact⟨_,rfl,m,rfl,h1,ho⟩
  ·left;rw[yW (yY (by omega)),yW (ZD (by omega) (by omega))];have e1:yav (m:Int) 128=((m % 128:Nat):Int):=rfl;have e2:Int.tdiv (m:Int) 128=((m / 128:Nat):Int):=rfl;rw[e1,e2,ZG (z:=((m % 128:Nat):Int)+128) (by omega) (by omega),ZG (z:=((m / 128:Nat):Int)) (by omega) (by omega)];refine⟨_,rfl,⟨m / 128,rfl,by omega, ?_⟩,by dsimp only;omega⟩;dsimp only;rw[<-ho,ZrU h1,yad];congr 1;rw[List.singleton_append];congr 1;unfold w8;congr 1;omega
 ·rintro⟨_,o⟩ ⟨h1,m,rfl,h2,h3⟩;dsimp only at h3 ⊢;have hr:=congrArg List.length h3;have hl:=Z7 h;rw[yl] at hr;rw[h1,ya];dsimp only;rw[yW (ZD (by omega) (by omega)), <-h3,ZeY h2];congr 3;unfold w8;congr 1;omega
theorem Zmj{b:yL yB}{z:Int}(h0:0<=z)(h:z<=9223372036854775807)(hb:b.length<=1000000):V3 yD b z=some (b++X4 z.toNat):=by
 obtain⟨n,rfl⟩:=Int.eq_ofNat_of_zero_le h0;have:=Z7 (n:=n) (by omega);unfold V3;rw[yX (ynd (by omega)),ZJO (by omega),ya,ZAz (by omega),ya,yar]
theorem ZEv{b h:yL yB}(hb:b.length<=1000000)(hh:h.length<=1000000):Zfh yD b h=some (b++h):=by
 unfold Zfh;rw[ZAz (by omega),ya]
theorem ZCA{b c:yL yB}(hb:b.length<=1000000)(hc:c.length<=1000000):Zdw yD b c=some (b++(X4 c.length++c)):=by
 have:=Z7 (n:=c.length) (by omega);unfold Zdw;rw[ZJO (by omega),ya,ZyB (by simp;omega) (by simp),ya];simp
def Zp3(l:yL yB)(n k:Nat):yL yB:=l.take k++List.replicate (n - k) 0
theorem ZyC{l:yL yB}{n k:Nat}(h:k < l.length)(h2:l.length<=n):(Zp3 l n k)[k]? =some 0:=by
 unfold Zp3;have h3:(l.take k).length=k:=by simp;omega
 rw[yax (by omega),h3,List.getElem?_replicate];simp;omega
theorem ZyD{l:yL yB}{n k:Nat}{d:yB}(hx:l[k]? =some d)(h2:l.length<=n):(Zp3 l n k).set k d=Zp3 l n (k+1):=by
 have h:k < l.length:=(yq.1 hx).1;have h3:(l.take k).length=k:=by simp;omega
 unfold Zp3;rw[ZdM hx,List.set_append_right _ _ (by omega),h3,Nat.sub_self];have e:n - k=(n - (k+1))+1:=by omega
 rw[e,List.replicate_succ];simp
theorem ZyE{l:yL yB}{n:Nat}(h:l.length=n):Zp3 l n n=l:=by
 unfold Zp3;rw[<-h];simp
def Zm5(n:Nat):yL yB:=(List.range 8).map λi=>yas (n / 2 ^ (56 - 8*i))
theorem Qq(n:Nat):(Zm5 n).length=8:=by simp[Zm5]
theorem ZwS(n:Nat){k:Nat}(hk:k < 8):(Zm5 n)[k]? =some (yas (n / 2 ^ (56 - 8*k))):=by simp[Zm5,hk]
theorem ZCB(x:yU){m:Nat}:w8 ((ZO x m).toNat:Int)=yas (x.toNat / 2 ^ m):=by
 unfold w8 ZO;have h:x.toNat / 2 ^ m < 18446744073709551616:=Nat.lt_of_le_of_lt (Nat.div_le_self ..) (UInt64.toNat_lt _);rw[yaw,yaf h];apply UInt8.toNat_inj.1;rw[UInt8.toNat_ofNat',UInt8.toNat_ofNat'];omega
theorem ZyF{b:yL yB}(x:yU)(hb:b.length<=1000000):Zdo yD b x=some (b++Zm5 x.toNat):=by
 unfold Zdo
 rw[show(b,x,(0:Int),([0,0,0,0,0,0,0,0]:yL yB))=(λk:Nat=>(b,x,(k:Int),Zp3 (Zm5 x.toNat) 8 k)) 0 from rfl,
  Zt (x:=(b,Zm5 x.toNat)) 8 (λk:Nat=>(b,x,(k:Int),Zp3 (Zm5 x.toNat) 8 k)) ?_ ?_ (by omega),ya]
 ·dsimp only;rw[ZAz (by rw[Qq];omega),ya]
 ·intro k hk;unfold Zcr;dsimp only;have hl:=Qq x.toNat
  rw[yW (yY (by omega)),ZG (z:=8*(k:Int)) (by omega) (by omega),ZG (z:=56 - 8*(k:Int)) (by omega) (by omega),yW (yY (by omega)),yW (Yz (by omega) (by omega)),
   yar,ZyC (by omega) (by omega),ya,Zn (by omega)]
  have e:min (56 - 8*(k:Int)).toNat 64=56 - 8*k:=by omega
  rw[e,ZCB,ZyD (ZwS _ hk) (by omega)]
 ·unfold Zcr;dsimp only;rw[yX (by simp),ZyE (Qq _)]
def ZAA(b:ZC):Prop:=b.1.length<=12/\0<=b.2.1/\b.2.1<=1048576/\0<=b.2.2.1/\b.2.2.1<=1048576
def ZAB(b:ZC):Prop:=(∀p,p∈b.1->Qu p.toNat)/\(b.2.2.2≠0->Qu b.2.2.2.toNat)
def LockOk(l:yG):Prop:=0 < l.length/\l.length<=4/\∀b,b∈l->ZAA b
def LockPt(l:yG):Prop:=∀b,b∈l->ZAB b
theorem ZEw(p:yU):ZaB yD p=some (!decide (Qu p.toNat)):=by
 unfold ZaB;rw[ZiY,ya]
theorem ZJP{p:yU}(h:Qu p.toNat):ZaB yD p=some false:=by rw[ZEw,yY h];rfl
theorem ZOL{l:yL yU}(hl:l.length<=12)(h:∀p,p∈l->Qu p.toNat):ZaC yD l=some false:=by
 unfold ZaC ZaO
 rw[show(l,(l.length:Int),(0:Int))=(λk:Nat=>(l,(l.length:Int),(k:Int))) 0 from rfl,
  Zt (x:=.inr ()) l.length (λk:Nat=>(l,(l.length:Int),(k:Int))) ?_ ?_ (by omega),ya]
 ·rfl
 ·intro k hk;obtain⟨e,he,hm⟩:=Zk hk;unfold Y7;dsimp only;rw[yW (ZV hk),Zq he,ya,ZJP (h e hm),ya,Zn (by omega)];rfl
 ·unfold Y7;dsimp only;rw[yX (by rw[ZH];decide)]
theorem ZyG{z:Int}(h0:0<=z)(h1:z<=1048576):Zab yD z=some true:=by
 unfold Zab;rw[yW (yY h0),yY h1]
theorem VK{l:yG}(h:LockOk l)(hp:LockPt l):XV yD l=some true:=by
 unfold XV;obtain⟨h0,h1,h2⟩:=h
 rw[show(l,(l.length:Int),(0:Int),l)=(λk:Nat=>(l,(l.length:Int),(k:Int),l)) 0 from rfl,
  Zt (x:=.inr l) l.length (λk:Nat=>(l,(l.length:Int),(k:Int),l)) ?_ ?_ (by omega),ya]
 ·dsimp only;rw[yW (yY (by omega)),yY (by omega)]
 ·intro k hk;obtain⟨e,he,hm⟩:=Zk hk;obtain⟨e1,e2,e3,e4,e5⟩:=h2 e hm;obtain⟨p1,p2⟩:=hp e hm;unfold VE;dsimp only;rw[yW (ZV hk),Zq he,ya,yX (ynd (by omega)),ZOL e1 p1,ya,ZyG e2 e3,ya,ZyG e4 e5,ya,Zn (by omega),yX (by decide),yX (by decide),yX (by decide)];by_cases hz:e.2.2.2=0
  ·rw[yX (by simp[hz])]
  ·rw[yW (by simp[hz]),ZJP (p2 hz),ya,yX (by decide)]
 ·unfold VE;dsimp only;rw[yX (by rw[ZH];decide)]
def TxWf(t:Tx):Prop:=(∀x,x∈t.1->x.1.1.length=32)/\t.2.2<=9223372036854775807
def ZND(x:In):Prop:=0<=x.1.2/\x.1.2 < 64/\0<=x.2.1/\x.2.1 < 4/\x.2.2.1.length<=12
def OutOk(o:Out):Prop:=0<=o.1/\o.1<=1125899906842624/\LockOk o.2/\LockPt o.2
def TxOk(t:Tx):Prop:=0 < t.1.length/\t.1.length<=64/\t.2.1.length<=64/\0<=t.2.2/\(∀x,x∈t.1->ZND x)/\∀o,o∈t.2.1->OutOk o
def cat{α:Type}(f:α->yL yB)(l:yL α):yL yB:=(l.map f).flatten
theorem Zcf{α:Type}{f:α->yL yB}{l:yL α}{k:Nat}{e:α}(h:l[k]? =some e):cat f (l.take (k+1))=cat f (l.take k)++f e:=by
 unfold cat
 rw[ZdM h,ybb,List.flatten_append];simp
theorem ZCC{α:Type}{f:α->yL yB}{l:yL α}{e:α}:cat f (e::l)=f e++cat f l:=rfl
theorem ZAC{α:Type}{f:α->yL yB}{c:Nat}:∀{l:yL α},(∀x,x∈l->(f x).length<=c)->(cat f l).length<=l.length*c
 |[],_=>by simp[cat]
 |e::l,h=>by
  have h1:=h e (yay ..);have h2:=ZAC (l:=l) λx hx=>h x (yba _ hx);rw[ZCC,yl,yai,Nat.succ_mul];omega
theorem ZdX{α:Type}{f:α->yL yB}{c n:Nat}{l:yL α}(h:∀x,x∈l->(f x).length<=c)(hn:l.length<=n)(k:Nat):(cat f (l.take k)).length<=n*c:=by
 refine ybm (ZAC λx hx=>h x (ycj hx)) (ycc c ?_);rw[yah];omega
def Zkq(p:yU):yL yB:=Zm5 p.toNat
def brF(b:ZC):yL yB:=X4 b.1.length++(cat Zkq b.1++(X4 b.2.1.toNat++(X4 b.2.2.1.toNat++Zm5 b.2.2.2.toNat)))
def XQ(l:yG):yL yB:=X4 l.length++cat brF l
theorem Zor{l:yL yU}(h:l.length<=12)(k:Nat):(cat Zkq (l.take k)).length<=96:=ZdX (c:=8) (λx _=>Nat.le_of_eq (Qq _)) h k
theorem ZrV{b:ZC}(h:b.1.length<=12/\0<=b.2.1/\b.2.1<=1048576/\0<=b.2.2.1/\b.2.2.1<=1048576):(brF b).length<=131:=by
 have h1:=Zor h.1 b.1.length;rw[yat] at h1;have h2:=Z7 (n:=b.1.length) (by omega);have h3:=Z7 (n:=b.2.1.toNat) (by omega);have h4:=Z7 (n:=b.2.2.1.toNat) (by omega);have h5:=Qq b.2.2.2.toNat
 unfold brF;simp only[yl];omega
theorem Q1{l:yG}(h:LockOk l):(XQ l).length<=533:=by
 have h1:=ZdX (f:=brF) (c:=131) (λx hx=>ZrV (h.2.2 x hx)) h.2.1 l.length;rw[yat] at h1;have h2:=Z7 (n:=l.length) (by have:=h.2.1;omega);unfold XQ;rw[yl];omega
theorem ZHf{c:yL yB}(hc:c.length<=100000){bs:yL ZC}{n i:Int}{ks:yL yU}{l:yG}{e:ZC}(hk:ks.length<=12):
 Zb (Zbg yD) yD (c,bs,n,i,ks,(ks.length:Int),(0:Int),l,e)=some (c++cat Zkq ks,bs,n,i,l,e):=by
 rw[show(c,bs,n,i,ks,(ks.length:Int),(0:Int),l,e)=(λk:Nat=>(c++cat Zkq (ks.take k),bs,n,i,ks,(ks.length:Int),(k:Int),l,e)) 0 by simp[cat]];refine Zt ks.length (λk:Nat=>(c++cat Zkq (ks.take k),bs,n,i,ks,(ks.length:Int),(k:Int),l,e)) ?_ ?_ (by omega)
 ·intro k hk2;obtain⟨e,he,_⟩:=Zk hk2;have hl:=Zor hk k;unfold Zbg;dsimp only;rw[yW (ZV hk2),Zq he,ya,ZyF _ (by rw[yl];omega),ya,Zn (by omega),Zcf he,yad];rfl
 ·unfold Zbg;dsimp only;rw[yX (by rw[ZH];decide),yat]
theorem ZeZ{l:yG}(h:LockOk l)(hp:LockPt l):Q6 yD l=some (XQ l):=by
 unfold Q6;have h0:=h.2.1;have h9:=Z7 (n:=l.length) (by omega);rw[VK h hp,ya,yX (by decide),Zmj (by omega) (by omega) (by simp),ya,yw,yar]
 rw[show(X4 l.length,l,(l.length:Int),(0:Int),l)=(λk:Nat=>(X4 l.length++cat brF (l.take k),l,(l.length:Int),(k:Int),l)) 0 by simp[cat],
  Zt (x:=(XQ l,l)) l.length (λk:Nat=>(X4 l.length++cat brF (l.take k),l,(l.length:Int),(k:Int),l)) ?_ ?_ (by omega),ya]
 ·intro k hk;obtain⟨e,he,hm⟩:=Zk hk;obtain⟨e1,e2,e3,e4,e5⟩:=h.2.2 e hm;have hl:=ZdX (f:=brF) (c:=131) (λx hx=>ZrV (h.2.2 x hx)) h.2.1 k;have hr:=Z7 (n:=e.1.length) (by omega);have hr2:=Z7 (n:=e.2.1.toNat) (by omega);have hr3:=Z7 (n:=e.2.2.1.toNat) (by omega);have hk8:=Zor e1 e.1.length;rw[yat] at hk8;unfold Zdp;dsimp only
  rw[yW (ZV hk),Zq he,ya,Zmj (by omega) (by omega) (by rw[yl];omega),ya,yar,
   ZHf (by simp only[yl];omega) e1,ya]
  dsimp only
  rw[Zmj e2 (by omega) (by simp only[yl];omega),ya,Zmj e4 (by omega) (by simp only[yl];omega),ya,
   ZyF _ (by simp only[yl];omega),ya,Zn (by omega),Zcf he]
  unfold brF;simp only[yad]
 ·unfold Zdp;dsimp only;rw[yX (by rw[ZH];decide),yat];rfl
def inF(x:In):yL yB:=x.1.1++X4 x.1.2.toNat
def Zs0(o:Out):yL yB:=X4 o.1.toNat++(X4 (XQ o.2).length++XQ o.2)
def VX(t:Tx):yL yB:=X4 t.1.length++(cat inF t.1++(X4 t.2.1.length++(cat Zs0 t.2.1++X4 t.2.2.toNat)))
theorem ZFS{x:In}(h:x.1.1.length=32)(k:ZND x):(inF x).length<=41:=by
 have:=Z7 (n:=x.1.2.toNat) (by have:=k.2.1;omega);unfold inF;rw[yl];omega
theorem ZCD{o:Out}(k:OutOk o):(Zs0 o).length<=551:=by
 have h1:=Q1 k.2.2.1;have h2:=Z7 (n:=o.1.toNat) (by have:=k.2.1;omega);have h3:=Z7 (n:=(XQ o.2).length) (by omega);unfold Zs0;simp only[yl];omega
theorem ZCE{t:Tx}(hw:TxWf t)(h:TxOk t):ZoU yD t=some (VX t)/\(VX t).length<=40000:=by
 obtain⟨ins,outs,note⟩:=t;obtain⟨w2,w3⟩:=hw;obtain⟨h1,h2,h3,h4,h5,h6⟩:=h;dsimp only at w2 w3 h1 h2 h3 h4 h5 h6;have li:=λk=>ZdX (f:=inF) (c:=41) (λx hx=>ZFS (w2 x hx) (h5 x hx)) h2 k;have lo:=λk=>ZdX (f:=Zs0) (c:=551) (λx hx=>ZCD (h6 x hx)) h3 k;have li1:=li ins.length;have lo1:=lo outs.length;rw[yat] at li1 lo1;have r1:=Z7 (n:=ins.length) (by omega);have r2:=Z7 (n:=outs.length) (by omega);have r3:=Z7 (n:=note.toNat) (by omega);refine⟨?_,by unfold VX;simp only[yl];omega⟩;unfold ZoU;dsimp only;rw[Zmj (by omega) (by omega) (by simp),ya,yw,yar]
 rw[show(X4 ins.length,ins,(ins.length:Int),(0:Int),(ins,outs,note))=(λk:Nat=>(X4 ins.length++cat inF (ins.take k),ins,(ins.length:Int),(k:Int),(ins,outs,note))) 0 by simp[cat],
  Zt (x:=(X4 ins.length++cat inF ins,(ins,outs,note))) ins.length (λk:Nat=>(X4 ins.length++cat inF (ins.take k),ins,(ins.length:Int),(k:Int),(ins,outs,note))) ?_ ?_ (by omega),ya]
 ·dsimp only;rw[Zmj (by omega) (by omega) (by rw[yl];omega),ya,yar];generalize hp:X4 ins.length++cat inF ins++X4 outs.length=pre;have hpl:pre.length<=3000:=by rw[<-hp];simp only[yl];omega
  rw[show(pre,outs,(outs.length:Int),(0:Int),(ins,outs,note))=(λk:Nat=>(pre++cat Zs0 (outs.take k),outs,(outs.length:Int),(k:Int),(ins,outs,note))) 0 by simp[cat],
   Zt (x:=(pre++cat Zs0 outs,(ins,outs,note))) outs.length (λk:Nat=>(pre++cat Zs0 (outs.take k),outs,(outs.length:Int),(k:Int),(ins,outs,note))) ?_ ?_ (by omega),ya]
  ·dsimp only;rw[Zmj h4 w3 (by rw[yl];omega),ya, <-hp];unfold VX;simp only[yad]
  ·intro k hk;obtain⟨e,he,hm⟩:=Zk hk;have hlk:=lo k;have hok:=h6 e hm;have hlo:=hok.2.2.1;have hll:=Q1 hlo;have hrl:=Z7 (n:=e.1.toNat) (by have:=hok.2.1;omega);unfold Zhs;dsimp only
   rw[yW (ZV hk),Zq he,ya,Zmj hok.1 (by have:=hok.2.1;omega) (by rw[yl];omega),ya,ZeZ hok.2.2.1 hok.2.2.2,ya,
    ZCA (by simp only[yl];omega) (by omega),ya,Zn (by omega),Zcf he]
   unfold Zs0;simp only[yad]
  ·unfold Zhs;dsimp only;rw[yX (by rw[ZH];decide),yat]
 ·intro k hk;obtain⟨e,he,hm⟩:=Zk hk;have hlk:=li k;have h32:=w2 e hm;have hok:=h5 e hm;unfold Zhr;dsimp only
  rw[yW (ZV hk),Zq he,ya,ZEv (by rw[yl];omega) (by omega),ya,Zmj hok.1 (by have:=hok.2.1;omega) (by simp only[yl];omega),ya,
   Zn (by omega),Zcf he]
  unfold inF;simp only[yad]
 ·unfold Zhr;dsimp only;rw[yX (by rw[ZH];decide),yat]
def amts(l:yL Out):Int:=(l.map (·.1)).sum
theorem Zs1{l:yL Out}{k:Nat}{e:Out}(h:l[k]? =some e):amts (l.take (k+1))=amts (l.take k)+e.1:=by
 unfold amts;rw[ZdM h,ybb,List.sum_append];simp
theorem ZJQ:∀{l:yL Int},(∀x,x∈l->0<=x)->0<=l.sum
 |[],_=>by simp
 |x::r,h=>by
  have:=ZJQ (l:=r) λy hy=>h y (yba _ hy);have:=h x (yay ..);rw[List.sum_cons];omega
theorem ZuI{l:yL Out}(h:∀o,o∈l->OutOk o)(k:Nat):0<=amts (l.take k)/\amts (l.take k)<=amts l:=by
 have h1:∀(l:yL Out),(∀o,o∈l->OutOk o)->0<=amts l:=λl h=>ZJQ λx hx=>by
  obtain⟨o,ho,rfl⟩:=List.mem_map.1 hx;exact(h o ho).1
 refine⟨h1 _ λo ho=>h o (ycj ho), ?_⟩;have:=h1 (l.drop k) λo ho=>h o (List.mem_of_mem_drop ho)
 have e:amts l=amts (l.take k)+amts (l.drop k):=by
  unfold amts;rw[<-List.sum_append, <-ybb,List.take_append_drop]
 omega
theorem ZCF{z:Int}(h0:0<=z)(h1:z<=1125899906842624):Zh9 yD z=some true:=by
 unfold Zh9;rw[yW (yY h0),yY h1]
theorem ZFT{a b:Int}(h0:0<=a)(h1:0<=b)(h2:a+b<=1125899906842624):ZkR yD a b=some (a+b,true):=by
 unfold ZkR;rw[ZCF h0 (by omega),ya,yX (by decide),ZCF h1 (by omega),ya,yX (by decide),ZG (z:=1125899906842624 - b) (by omega) (by omega),ZG (z:=a+b) (by omega) (by omega),yX (ynd (by omega))]
theorem ZEx{x:In}(h:ZND x):ZfF yD x.2=some true:=by
 obtain⟨_,_,h1,h2,h3⟩:=h;unfold ZfF;rw[yW (yY h1),yW (yY h2),yY (by omega)]
theorem ZJR{x:In}{outs:yL Out}{note:Int}(h:TxOk ([x],outs,note))(hs:amts outs<=1125899906842624):ZkZ yD ([x],outs,note)=some true:=by
 obtain⟨h1,h2,h3,h4,h5,h6⟩:=h;dsimp only at h3 h4 h5 h6;have hx:=h5 x (yam.2 rfl);unfold ZkZ;dsimp only;rw[yX (by simp),yX (by simp),yX (ynd (by omega)),yX (ynd (by omega))]
 obtain⟨y,g1,m,rfl⟩:=Ym (step:=Zdu yD) 1 (λk s=>∃m,s=([x],(1:Int),(k:Int),([x],outs,note),m)/\(k=0->m=[])) (λy=>∃m,y=.inr (([x],outs,note),m)) (i:=([x],(([x]:yL In).length:Int),(0:Int),([x],outs,note),([]:yL (VD×Bool)))) ⟨_,rfl,λ_=>rfl⟩ (by omega) (by
  rintro k _ hk ⟨m,rfl,hm⟩;left;have e:k=0:=by omega
  subst e;rw[hm rfl];unfold Zdu;dsimp only;have e1:Zzf ([]:yL (VD×Bool)) x.1=none:=rfl;rw[yW (yY (by omega)),Zq (show([x]:yL In)[0]? =some x from rfl),ya,e1]
  unfold ZFa;dsimp only;rw[yX (by rw[yN];have:=hx.1;omega),yX (by rw[yN];have:=hx.2.1;omega),ZEx hx,ya,yX (by decide)];exact⟨_,rfl,_,rfl,λh=>by omega⟩) (by
  rintro _ ⟨m,rfl,hm⟩;unfold Zdu;dsimp only;rw[yX (ynd (by omega))];exact⟨_,rfl,_,rfl⟩)
 rw[g1,ya];dsimp only
 rw[show((0:Int),outs,(outs.length:Int),(0:Int),([x],outs,note),m)=(λk:Nat=>(amts (outs.take k),outs,(outs.length:Int),(k:Int),([x],outs,note),m)) 0 from rfl,
  Zt (x:=.inr (([x],outs,note),m)) outs.length (λk:Nat=>(amts (outs.take k),outs,(outs.length:Int),(k:Int),([x],outs,note),m)) ?_ ?_ (by omega),ya]
 ·intro k hk;obtain⟨e,he,hm⟩:=Zk hk;obtain⟨o1,o2,o3,o4⟩:=h6 e hm;have hk1:=ZuI h6 k;have hk2:=ZuI h6 (k+1);rw[Zs1 he] at hk2;unfold Zhn;dsimp only;rw[yW (ZV hk),Zq he,ya,ZFT hk1.1 o1 (by omega),ya,VK o3 o4,ya,Zn (by omega),Zs1 he];rfl
 ·unfold Zhn;dsimp only;rw[yX (by rw[ZH];decide)]
noncomputable def Zg3(b:yL yB):yL yB:=(ZbM yD ZFM [b]).getD []
theorem ZFU{x:In}{outs:yL Out}{note:Int}(hw:TxWf ([x],outs,note))(h:TxOk ([x],outs,note))(hs:amts outs<=1125899906842624):ZsM yD ([x],outs,note)=some (Zg3 (VX ([x],outs,note)))/\(Zg3 (VX ([x],outs,note))).length=32:=by
 unfold ZsM;obtain⟨p1,p2⟩:=ZCE hw h;obtain⟨o,h1,h2⟩:=ZLs (s:=ZFM) (ls:=[VX ([x],outs,note)]) (by decide) (by simp) (by intro y hy;rw[yam.1 hy];omega);rw[ZJR h hs,ya,yX (by decide),p1,ya];unfold Zg3;rw[h1,ya];exact⟨rfl,h2⟩
def Tm(d:Int):ZcQ:=(100,200,d,16,1,1125899906842624)
noncomputable def Ye(k:Kit):Zb0:=(B k.1.toNat,B k.2.1.toNat,B k.2.2.1.toNat,B k.2.2.2.1.toNat,B k.2.2.2.2.1.toNat)
def KitOk(k:Kit):Prop:=Key k.1/\Key k.2.1/\Key k.2.2.1/\Key k.2.2.2.1/\Key k.2.2.2.2.1
def z32:yL yB:=yzz
noncomputable def Zo(A:Int)(k0 k1:Kit)(op:Int):Zz:=((z32,0),A,[Ye k0,Ye k1],[Tm 5,Tm 6],op)
structure ChOk(A:Int)(k0 k1:Kit)(op:Int):Prop where
 lo:20000<=A
 hi:A<=4300000000
 o:op=0\/op=1
 k0:KitOk k0
 k1:KitOk k1
theorem ZJS{k:yU}(h:Key k):B k.toNat≠1:=ZPy h.1 h.2
theorem ZNE{k:yU}(h:Key k):ZaT yD (B k.toNat)=some true:=by
 unfold ZaT;rw[Zc0,ya,yW (yY (ZHe _))];exact congrArg some (bne_iff_ne.2 (ZJS h))
theorem ZqD{k:Kit}(h:KitOk k):∀p,p∈[(Ye k).1,(Ye k).2.1,(Ye k).2.2.1,(Ye k).2.2.2.1,(Ye k).2.2.2.2]->∃x:yU,Key x/\p=B x.toNat:=by
 obtain⟨h1,h2,h3,h4,h5⟩:=h;intro p hp;simp only[ybh,ycv,or_false] at hp;rcases hp with rfl|rfl|rfl|rfl|rfl
 ·exact⟨_,h1,rfl⟩
 ·exact⟨_,h2,rfl⟩
 ·exact⟨_,h3,rfl⟩
 ·exact⟨_,h4,rfl⟩
 ·exact⟨_,h5,rfl⟩
theorem rin{z a b:Int}(h1:a<=z)(h2:z<=b):Z5 yD z a b=some true:=by
 unfold Z5;rw[yW (yY h1),yY h2]
theorem ZCG{z a b:Int}(h1:a<=z)(h2:z<=b):YC yD z a b=some true:=by
 unfold YC;rw[yW (yY h1),yY h2]
theorem ZJT{d:Int}(h1:1<=d)(h2:d<=4096):QB yD (Tm d)=some true:=by
 unfold QB Tm;dsimp only;rw[rin (by omega) (by omega),ya,yW rfl,rin (by omega) (by omega),ya,yW rfl,rin h1 h2,ya,yW rfl,rin (by omega) (by omega),ya,yW rfl,rin (by omega) (by omega),ya,yW rfl,rin (by omega) (by omega)];rfl
theorem ZyH(i:Int)(ch:Zz)(b:Zb0){l:yL yU}(hl:l.length=5)(h:∀p,p∈l->∃x:yU,Key x/\p=B x.toNat):Zb (WT yD) yD (i,l,(0:Int),ch,b)=some (.inr (i,ch,b)):=by
 refine Zt 5 (λk:Nat=>(i,l,(k:Int),ch,b)) ?_ ?_ (by omega)
 ·intro k hk;obtain⟨e,he,hm⟩:=Zk (l:=l) (k:=k) (by omega);obtain⟨x,hx,rfl⟩:=h e hm;unfold WT;dsimp only;rw[yW (yY (by omega)),Zq he,ya,ZNE hx,ya,yX (by decide),Zn (by omega)]
 ·unfold WT;dsimp only;rw[yX (ynd (by omega))]
theorem ZPz{A:Int}{k0 k1:Kit}{op:Int}(h:ChOk A k0 k1 op):ZaU yD (Zo A k0 k1 op)=some 0:=by
 obtain⟨h1,h2,h3,h4,h5⟩:=h;have hA:(Zo A k0 k1 op).2.1=A:=rfl;have hN:(Zo A k0 k1 op).1.2=0:=rfl;have hO:(Zo A k0 k1 op).2.2.2.2=op:=rfl;have hT:(Zo A k0 k1 op).2.2.2.1=[Tm 5,Tm 6]:=rfl;have hB:(Zo A k0 k1 op).2.2.1=[Ye k0,Ye k1]:=rfl;unfold ZaU;rw[hA,hN,hO,rin (by omega) (by omega),ya,yX (by decide),rin (by omega) (by omega),ya,yX (by decide),rin (by omega) (by omega),ya,yX (by decide)];generalize hc:Zo A k0 k1 op=c at*;rw[show((0:Int),c)=(λk:Nat=>((k:Int),c)) 0 from rfl,Zt (x:=.inr c) 2 (λk:Nat=>((k:Int),c)) ?_ ?_ (by omega),ya]
 ·dsimp only;rw[hT];show(if decide (wi (200+200) > c.2.1)=true then some (10:Int) else some 0)=some 0
  rw[hA,ZG (by omega) (by omega),yX (ynd (by omega))]
 ·intro k hk;unfold Qh;dsimp only;rw[yW (yY (by omega)),yW (Yz (by omega) (by omega)),yar,hB,hT]
  match k,hk with
  |0,_=>
   show(ybq (some (Ye k0)) _)=_;rw[ya,yW (by decide)];show(ybq (some (Tm 5)) _)=_;rw[ya,ZJT (by omega) (by omega),ya,yX (by decide),ZyH _ _ _ rfl (ZqD h4),ya]
   rfl
  |1,_=>
   show(ybq (some (Ye k1)) _)=_;rw[ya,yW (by decide)];show(ybq (some (Tm 6)) _)=_;rw[ya,ZJT (by omega) (by omega),ya,yX (by decide),ZyH _ _ _ rfl (ZqD h5),ya];rfl
 ·unfold Qh;dsimp only;rw[yX (ynd (by omega))]
def CondIn(c:Cond):Prop:=(c.1=0\/c.1=1)/\1<=c.2.1/\c.2.1<=1048576/\1<=c.2.2.1/\c.2.2.1<=65536/\Qu c.2.2.2.1.toNat/\c.2.2.2.1≠1/\1<=c.2.2.2.2/\c.2.2.2.2<=65536
def Ahd(a b:Cond):Prop:=a.1 < b.1\/a.1=b.1/\a.2.1 < b.2.1
instance(a b:Cond):Decidable (Ahd a b):=by unfold Ahd;infer_instance
theorem ZHg{a b c:Cond}(h:Ahd a b)(k:Ahd b c):Ahd a c:=by unfold Ahd at*;omega
theorem ZNF{a b:Cond}(h:a.2.1≠b.2.1)(k:¬Ahd a b):Ahd b a:=by unfold Ahd at*;omega
theorem ZyI(a b:Cond):W8 yD a b=some (decide (Ahd a b)):=by
 unfold W8;by_cases h1:a.1 < b.1
 ·rw[yW (yY h1),yY (p:=Ahd a b) (Or.inl h1)]
 ·rw[yX (by rw[yN];exact h1)];by_cases h2:a.1=b.1
  ·rw[yW (by rw[h2];exact beq_self_eq_true _)];congr 1;rw[decide_eq_decide];unfold Ahd;omega
  ·rw[yX (by rw[yT];exact h2),yZ (p:=Ahd a b) (by unfold Ahd;omega)]
theorem ZL9{c:Cond}(h:CondIn c):VG yD c=some true:=by
 obtain⟨h1,h2,h3,h4,h5,h6,h7,h8,h9⟩:=h;unfold VG;rw[Zc0,ya,yW (yY h6),yW (bne_iff_ne.2 h7),ZCG (by omega) (by omega),ya,yW rfl,ZCG h2 h3,ya,yW rfl,ZCG h4 (by omega),ya,yW rfl,ZCG h8 (by omega)];rfl
def amtC(l:yL Cond):Int:=(l.map (·.2.2.1)).sum
theorem ZyJ{l:yL Cond}{k:Nat}{e:Cond}(h:l[k]? =some e):amtC (l.take (k+1))=amtC (l.take k)+e.2.2.1:=by
 unfold amtC;rw[ZdM h,ybb,List.sum_append];simp
theorem ZoV{l:yL Cond}(h:∀c,c∈l->CondIn c):0<=amtC l/\amtC l<=65536*(l.length:Int):=by
 induction l with
 |nil=>exact⟨Int.le_refl _,Int.le_refl _⟩
 |cons c r ih=>
  obtain⟨h1,h2⟩:=ih λx hx=>h x (yba _ hx);have hc:=h c (yay ..);have e:amtC (c::r)=c.2.2.1+amtC r:=rfl;rw[e,yai];have:=hc.2.2.2.1;have:=hc.2.2.2.2.1;omega
theorem ZwT{l:yL Cond}(h:∀c,c∈l->CondIn c)(k:Nat):0<=amtC (l.take k)/\amtC (l.take k)<=65536*(l.length:Int):=by
 have h1:=ZoV (l:=l.take k) λc hc=>h c (ycj hc);rw[yah] at h1;omega
structure StIn(A:Int)(s:yH)(h0 h1:Int):Prop where
 n0:0<=s.1
 n1:s.1<=65535
 hv:s.2.1=[h0,h1]
 p0:0<=h0
 p1:0<=h1
 r0:0<=s.2.2.2
 r1:s.2.2.2<=7
 len:s.2.2.1.length<=16
 cs:∀c,c∈s.2.2.1->CondIn c
 srt:s.2.2.1.Pairwise Ahd
 tot:h0+h1+amtC s.2.2.1=A
def cost(r:Int)(n:Nat):Int:=r*(68+8*(n:Int))+660
theorem ZAD{r m:Int}(h0:0<=r)(h1:r<=7)(h2:0<=m):0<=r*m/\r*m<=7*m:=⟨Int.mul_nonneg h0 h2,Int.mul_le_mul_of_nonneg_right h1 h2⟩
theorem ZuJ{r:Int}{n:Nat}(h0:0<=r)(h1:r<=7)(h2:n<=16):660<=cost r n/\cost r n<=2032:=by
 have:=ZAD (m:=68+8*(n:Int)) h0 h1 (by omega);unfold cost;omega
theorem ZOM{r:Int}{n:Nat}(h0:0<=r)(h1:r<=7)(h2:n<=16):ZaV yD r (n:Int)=some (r*(68+8*(n:Int))):=by
 have:=ZAD (m:=68+8*(n:Int)) h0 h1 (by omega);unfold ZaV;rw[rin h0 (by omega),ya,yX (by decide)];unfold Zbo;rw[rin (by omega) (by omega),ya,yX (by decide),ya,ZG (z:=4+(n:Int)) (by omega) (by omega),ZG (z:=(4+(n:Int))*8) (by omega) (by omega),ZG (z:=36+(4+(n:Int))*8) (by omega) (by omega),show 36+(4+(n:Int))*8=68+8*(n:Int) by omega,ZG (by omega) (by omega)]
theorem ZON{A:Int}{s:yH}{h0 h1:Int}(h:StIn A s h0 h1)(ch:Zz):XR yD ch s=some (cost s.2.2.2 s.2.2.1.length):=by
 have:=ZuJ h.r0 h.r1 h.len;unfold XR;unfold cost at*;rw[ZOM h.r0 h.r1 h.len,ya,ZG (by omega) (by omega)]
theorem ZNG{A:Int}{s:yH}{h0 h1:Int}(h:StIn A s h0 h1)(hA:A<=4300000000):QC yD s=some A:=by
 obtain⟨no,hv,l,r⟩:=s;obtain⟨_,_,hh,p0,p1,_,_,hl,hc,_,ht⟩:=h;dsimp only at hh hl hc ht;subst hh;unfold QC;show ybq (some h0) _=_;rw[ya];show ybq (some h1) _=_;have hb:=λk=>ZwT hc k;have hb':=ZoV hc
 rw[ya,ZG (z:=h0+h1) (by omega) (by omega),show(h0+h1,(0:Int),(no,[h0,h1],l,r))=(λk:Nat=>(h0+h1+amtC (l.take k),(k:Int),(no,[h0,h1],l,r))) 0 by simp[amtC],
  Zt (x:=(A,(no,[h0,h1],l,r))) l.length (λk:Nat=>(h0+h1+amtC (l.take k),(k:Int),(no,[h0,h1],l,r))) ?_ ?_ (by omega),ya]
 ·intro k hk;obtain⟨e,he,hm⟩:=Zk hk;have h1:=hb k;have h2:=hb (k+1);have h3:=ZyJ he;unfold Vi;dsimp only;rw[yW (ZV hk),Zq he,ya,ZG (by omega) (by omega),Zn (by omega),h3,Int.add_assoc]
 ·unfold Vi;dsimp only;rw[yX (by rw[ZH];decide),yat,ht]
theorem ZOO{A:Int}{s:yH}{h0 h1:Int}(h:StIn A s h0 h1){to:Int}(ht:to=0\/to=1):∃n m,Wu yD s to=some (n,m)/\0<=n/\n<=16/\0<=m/\m<=2000000:=by
 obtain⟨no,hv,l,r⟩:=s;have hl:=h.len;have hc:=h.cs;dsimp only at hl hc;unfold Wu
 obtain⟨x,g1,n,m,rfl,g2⟩:=Ym (step:=XF yD) l.length (λk q=>∃n m,q=(to,n,m,(k:Int),(no,hv,l,r))/\0<=n/\n<=(k:Int)/\0<=m/\m<=65536*(k:Int)) (λx=>∃n m,x=(n,m,(no,hv,l,r))/\0<=n/\n<=16/\0<=m/\m<=2000000) (i:=(to,(0:Int),(0:Int),(0:Int),(no,hv,l,r))) ⟨0,0,rfl,by omega⟩ (by omega) (by
  rintro k _ hk ⟨n,m,rfl,q⟩;left;obtain⟨e,he,hm⟩:=Zk hk;have h4:=(hc e hm).2.2.2.1;have h5:=(hc e hm).2.2.2.2.1;unfold XF;dsimp only;rw[yW (ZV hk),Zq he,ya,Zn (by omega)];split
  ·rw[ya,ZG (z:=n+1) (by omega) (by omega),ZG (z:=m+e.2.2.1) (by omega) (by omega)];exact⟨_,rfl,_,_,rfl,by omega⟩
  ·exact⟨_,rfl,_,_,rfl,by omega⟩) (by
  rintro _ ⟨n,m,rfl,q⟩;unfold XF;dsimp only;rw[yX (by rw[ZH];decide)];exact⟨_,rfl,_,_,rfl,by omega⟩)
 rw[g1,ya];exact⟨_,_,rfl,g2⟩
def hav(op h0 h1:Int):Int:=if op=0 then h0 else h1
theorem ZEy{i:Int}(h:i=0\/i=1):∃d,([Tm 5,Tm 6]:yL ZcQ)[(wi (1 - i)).toNat]? =some (Tm d):=by
 rcases h with rfl|rfl
 ·exact⟨6,rfl⟩
 ·exact⟨5,rfl⟩
theorem ZrW{i:Int}(h:i=0\/i=1):inB (wi (1 - i)) 2=true:=by
 rcases h with rfl|rfl <;> rfl
theorem Ys{i:Int}(h:i=0\/i=1):inB i 2=true:=by
 rcases h with rfl|rfl <;> rfl
theorem Zfm{op h0 h1:Int}(h:op=0\/op=1):([h0,h1]:yL Int)[op.toNat]? =some (hav op h0 h1):=by
 rcases h with rfl|rfl <;> rfl
theorem Zs2{A:Int}{k0 k1:Kit}{op:Int}(h:ChOk A k0 k1 op){s:yH}{h0 h1:Int}(hs:StIn A s h0 h1):Xo yD (Zo A k0 k1 op) s=some (decide (hav op h0 h1 >= cost s.2.2.2 s.2.2.1.length)):=by
 have hT:(Zo A k0 k1 op).2.2.2.1=[Tm 5,Tm 6]:=rfl;have hA:(Zo A k0 k1 op).2.1=A:=rfl;have hO:(Zo A k0 k1 op).2.2.2.2=op:=rfl;have hlo:=h.lo;have hhi:=h.hi;have hco:=ZON hs (Zo A k0 k1 op);have hto:=ZNG hs h.hi;have hof:=λto ht=>ZOO hs (to:=to) ht;have hb:=ZoV hs.cs;unfold Xo;rw[ZPz h,ya,yX (by decide)];generalize hc:Zo A k0 k1 op=c at*;obtain⟨no,hv,l,r⟩:=s;obtain⟨n0,n1,hh,p0,p1,r0,r1,hl,hcs,hsr,ht⟩:=hs;dsimp only at n0 n1 hh p0 p1 r0 r1 hl hcs hsr ht hb;subst hh;dsimp only;rw[ZCG n0 (by omega),ya,yX (by decide)];show ybq (some h0) _=_;rw[ya,ZCG p0 (by omega),ya,yX (by decide)];show ybq (some h1) _=_;rw[ya,ZCG p1 (by omega),ya,yX (by decide),ZCG r0 (by omega),ya,yX (by decide),yX (ynd (by omega))];rw[show((0:Int),c,(no,[h0,h1],l,r))=(λk:Nat=>((k:Int),c,(no,[h0,h1],l,r))) 0 from rfl,Zt (x:=.inr (c,(no,[h0,h1],l,r))) l.length (λk:Nat=>((k:Int),c,(no,[h0,h1],l,r))) ?_ ?_ (by omega),ya]
 ·dsimp only;rw[show((0:Int),c,(no,[h0,h1],l,r))=(λk:Nat=>((k:Int),c,(no,[h0,h1],l,r))) 0 from rfl,Zt (x:=.inr (c,(no,[h0,h1],l,r))) 2 (λk:Nat=>((k:Int),c,(no,[h0,h1],l,r))) ?_ ?_ (by omega),ya]
  ·dsimp only;rw[hto,ya,hA,yW (beq_self_eq_true _),hO,yW (Ys h.o),Zfm h.o,ya,hco,ya]
  ·intro k hk;obtain⟨n,m,e1,e2,e3,e4,e5⟩:=hof (k:Int) (by omega)
   have ht:∃d,c.2.2.2.1[k]? =some (Tm d):=by
    rw[hT]
    match k,hk with
    |0,_=>exact⟨_,rfl⟩
    |1,_=>exact⟨_,rfl⟩
   obtain⟨d,hd⟩:=ht;unfold Vk;dsimp only;rw[yW (yY (by omega)),e1,ya,yW (Yz (by omega) (by omega)),yar,hd,ya,ya,Zn (by omega)];rw[yX (by rw[yN];show¬n > 16;omega),yW (Yz (by omega) (by omega)),yX (by rw[yN];show¬m > 1125899906842624;omega)]
  ·unfold Vk;dsimp only;rw[yX (ynd (by omega))]
 ·intro k hk;obtain⟨e,he,hm⟩:=Zk hk;obtain⟨d,hd⟩:=ZEy (hcs e hm).1;have h4:=(hcs e hm).2.2.2.1;have hlt:¬(e.2.2.1 < (Tm d).2.2.2.2.1):=by show¬(e.2.2.1 < 1);omega
  unfold Vj;dsimp only;rw[yW (ZV hk),Zq he,ya,ZL9 (hcs e hm),ya,yX (by decide)]
  have tail:((some e).bind λe169=>(some e).bind λe170=>if(inB (wi (1 - e170.1)) 2)=true then(c.2.2.2.1[(wi (1 - e170.1)).toNat]?).bind λe171=>if(decide (e169.2.2.1 < e171.2.2.2.2.1))=true then some (.inr (.inl (false,c,(no,[h0,h1],l,r)))) else some (.inl (wi ((k:Int)+1),c,(no,[h0,h1],l,r))) else none)=some (.inl (((k+1:Nat):Int),c,(no,[h0,h1],l,r)):(Int×Zz×yH)⊕((Bool×Zz×yH)⊕(Zz×yH))):=by
   rw[ya,ya,yW (ZrW (hcs e hm).1),hT,hd,ya,yX (by rw[yN];exact hlt),Zn (by omega)]
  by_cases h0:k=0
  ·subst h0;rw[yX (ynd (by omega))];exact tail
  ·obtain⟨f,hf,hfm⟩:=Zk (l:=l) (k:=k - 1) (by omega)
   have hah:Ahd f e:=by
    have h7:=List.pairwise_iff_getElem.1 hsr (k - 1) k (by omega) hk (by omega);rw[yab (by omega)] at hf he;cases hf;cases he;exact h7
   rw[yW (yY (by omega)),ZG (z:=(k:Int) - 1) (by omega) (by omega),show(k:Int) - 1=((k - 1:Nat):Int) by omega,Zq hf,ya,ya,ZyI,ya,yY hah,yX (by decide)];exact tail
 ·unfold Vj;dsimp only;rw[yX (by rw[ZH];decide)]
theorem ZyK{lo hi:Int}{l:yL Int}(hl:l.length<=100)(h:∀x,x∈l->lo<=x/\x<=hi):XC yD lo hi l=some true:=by
 unfold XC W5 VR;rw[show(l,(l.length:Int),(0:Int),lo,hi)=(λk:Nat=>(l,(l.length:Int),(k:Int),lo,hi)) 0 from rfl,Zt (x:=.inr (lo,hi)) l.length (λk:Nat=>(l,(l.length:Int),(k:Int),lo,hi)) ?_ ?_ (by omega),ya]
 ·rfl
 ·intro k hk;obtain⟨e,he,hm⟩:=Zk hk;have:=h e hm;unfold XH Zgi;dsimp only;rw[yW (ZV hk),Zq he,ya,yX (ynd (by omega)),ya,yZ (by omega),yX (by simp),Zn (by omega)]
 ·unfold XH;dsimp only;rw[yX (by rw[ZH];decide)]
theorem w1{lo hi z:Int}(h1:lo<=z)(h2:z<=hi):XC yD lo hi [z]=some true:=ZyK (by simp) λx hx=>by rw[yam.1 hx];exact⟨h1,h2⟩
theorem tin{z a b:Int}(h1:a<=z)(h2:z<=b):X8 yD z a b=some true:=by
 unfold X8;rw[yW (yY h1),yY h2]
theorem ZJU{d:Int}(h1:1<=d)(h2:d<=4096):Zhd yD (Tm d)=some true:=by
 unfold Zhd Tm;dsimp only;rw[tin (by omega) (by omega),ya,yW rfl,tin h1 h2,ya,yW rfl,tin (by omega) (by omega),ya,yW rfl,tin (by omega) (by omega),ya,yW rfl,tin (by omega) (by omega),ya,yW rfl,tin (by omega) (by omega)];rfl
theorem ZFV{k:Kit}(h:KitOk k):Zfb yD (Ye k)=some true:=by
 unfold Zfb Zqs Zid;have hb:=ZqD h;generalize hl:([(Ye k).1,(Ye k).2.1,(Ye k).2.2.1,(Ye k).2.2.2.1,(Ye k).2.2.2.2]:yL yU)=l at*;have h5:l.length=5:=by rw[<-hl];rfl
 rw[show(l,(l.length:Int),(0:Int))=(λk:Nat=>(l,(l.length:Int),(k:Int))) 0 from rfl,Zt (x:=.inr ()) l.length (λk:Nat=>(l,(l.length:Int),(k:Int))) ?_ ?_ (by omega),ya]
 ·rfl
 ·intro k hk;obtain⟨e,he,hm⟩:=Zk hk;obtain⟨x,hx,rfl⟩:=hb e hm;unfold ZaM Zgh;dsimp only;rw[yW (ZV hk),Zq he,ya,yX (by rw[yT];exact ZJS hx),ZiY,ya,yY (ZHe _),ya,Zn (by omega)];rfl
 ·unfold ZaM;dsimp only;rw[yX (by rw[ZH];decide)]
theorem ZPA{A:Int}{k0 k1:Kit}{op:Int}(h:ChOk A k0 k1 op):ZlF yD (Zo A k0 k1 op)=some 0:=by
 obtain⟨h1,h2,h3,h4,h5⟩:=h;have hA:(Zo A k0 k1 op).2.1=A:=rfl;have hN:(Zo A k0 k1 op).1.2=0:=rfl;have hO:(Zo A k0 k1 op).2.2.2.2=op:=rfl;have hT:(Zo A k0 k1 op).2.2.2.1=[Tm 5,Tm 6]:=rfl;have hB:(Zo A k0 k1 op).2.2.1=[Ye k0,Ye k1]:=rfl;unfold ZlF;rw[hA,hN,hO,yX (ynd (by omega)),yX (ynd (by omega)),yX (by decide),yX (by decide),yX (by rcases h3 with rfl|rfl <;> decide)];generalize hc:Zo A k0 k1 op=c at*;rw[hT,show(([Tm 5,Tm 6]:yL ZcQ),(0:Int),c)=(λk:Nat=>(([Tm 5,Tm 6]:yL ZcQ),(k:Int),c)) 0 from rfl,Zt (x:=.inr c) 2 (λk:Nat=>(([Tm 5,Tm 6]:yL ZcQ),(k:Int),c)) ?_ ?_ (by omega),ya]
 ·dsimp only;rw[hT];rw[show([Tm 5,Tm 6]:yL ZcQ)[0]? =some (Tm 5) from rfl,ya,show([Tm 5,Tm 6]:yL ZcQ)[1]? =some (Tm 6) from rfl,ya]
  show(ybq (ZkR yD 200 200) _)=some 0;rw[ZFT (by omega) (by omega) (by omega),ya,yX (by decide),hA,yX (by rw[yN];show¬(200+200 > A);omega)]
 ·intro k hk;unfold Zfc;dsimp only;rw[yW (yY (by omega)),hB]
  match k,hk with
  |0,_=>
   rw[Zjv (i:=((0:Nat):Int)) (y:=Tm 5) (by omega) rfl,ya,ZJU (by omega) (by omega),ya,yX (by decide),yW (by decide)];show(ybq (some (Ye k0)) _)=_;rw[ya,ZFV h4,ya,yX (by decide)]
   rfl
  |1,_=>
   rw[Zjv (i:=((1:Nat):Int)) (y:=Tm 6) (by omega) rfl,ya,ZJU (by omega) (by omega),ya,yX (by decide),yW (by decide)];show(ybq (some (Ye k1)) _)=_;rw[ya,ZFV h5,ya,yX (by decide)];rfl
 ·unfold Zfc;dsimp only;rw[yX (ynd (by omega))]
theorem ZOP{c:Cond}(h:CondIn c):Zjx yD c=some true:=by
 obtain⟨h1,h2,h3,h4,h5,h6,h7,h8,h9⟩:=h;unfold Zjx;rw[w1 (by omega) (by omega),ya,yW rfl,w1 h2 h3,ya,yW rfl,w1 h4 (by omega),ya,yW rfl,w1 h8 (by omega),ya,yW rfl,ZiY,ya,yW (yY h6)];exact congrArg some (bne_iff_ne.2 h7)
theorem ZwU(a b:Int):QV yD a b=some (if a < b then-1 else if a > b then 1 else 0):=by
 unfold QV Zdk;rw[ya,ya];have e:∀z:Int,(z !=z)=false:=λz=>by simp
 rw[e,e,yX (by decide),yX (by decide)];by_cases h1:a < b
 ·rw[yW (yY h1),yW h1]
 ·rw[yX (by rw[yN];exact h1),yX h1];by_cases h2:a > b
  ·rw[yW (yY h2),yW h2]
  ·rw[yX (by rw[yN];exact h2),yX h2]
def orL:yL Int->Int
 |[]=>0
 |z::r=>if z≠0 then z else orL r
theorem ZOQ{l:yL Int}(hl:l.length<=100):Zjy yD l=some (orL l):=by
 have key:∀(d k f:Nat),k+d=l.length->d < f->∃x,Zb (QU yD) f ((0:Int),l,(l.length:Int),(k:Int))=some x/\(x=.inl (orL (l.drop k))\/x=.inr 0/\orL (l.drop k)=0):=by
  intro d
  induction d with
  |zero=>
   intro k f h hf;obtain⟨f,rfl⟩:=Nat.exists_eq_succ_of_ne_zero (n:=f) (by omega);have:k=l.length:=by omega
   subst this;unfold Zb QU;dsimp only;rw[yX (by rw[ZH];decide),ya]
   exact⟨_,rfl,.inr ⟨rfl,by rw[List.drop_length];rfl⟩⟩
  |succ d ih=>
   intro k f h hf;obtain⟨f,rfl⟩:=Nat.exists_eq_succ_of_ne_zero (n:=f) (by omega);have hk:k < l.length:=by omega
   obtain⟨e,he,hm⟩:=Zk hk
   have hd:l.drop k=e::l.drop (k+1):=by
    rw[List.drop_eq_getElem_cons hk];rw[yab hk] at he;cases he;rfl
   rw[hd];unfold Zb QU;dsimp only;rw[yW (ZV hk),Zq he,ya];by_cases h0:e=0
   ·subst h0;rw[yX (by decide),ya,Zn (by omega)];exact ih (k+1) f (by omega) (by omega)
   ·rw[yW (bne_iff_ne.2 h0),ya];exact⟨_,rfl,.inl (by unfold orL;rw[yW h0])⟩
 unfold Zjy;obtain⟨x,h1,h2⟩:=key l.length 0 yD (by omega) (by rw[Zdf];omega);rw[List.drop_zero] at h2;show ybq (Zb (QU yD) yD ((0:Int),l,(l.length:Int),((0:Nat):Int))) _=_;rw[h1,ya];rcases h2 with rfl|⟨rfl,h2⟩
 ·rfl
 ·rw[h2]
theorem ZNH{a b:Cond}(h:Ahd a b):∃z,Zhh yD a b=some z/\z < 0:=by
 unfold Zhh;rw[ZwU,ya,ZwU,ya,ZOQ (by simp),ya];refine⟨_,rfl, ?_⟩;unfold Ahd at h;have e2:∀x y:Int,orL [x,y]=if x≠0 then x else if y≠0 then y else 0:=λ_ _=>rfl
 rw[e2];by_cases h1:a.1 < b.1
 ·rw[yW h1,yW (by decide)];decide
 ·have e:a.1=b.1:=by omega
  rw[yX h1,yX (show¬a.1 > b.1 by omega),yX (by decide),yW (show a.2.1 < b.2.1 by omega)];decide
theorem ZPB{r:Int}{n:Nat}(h0:0<=r)(h1:r<=7)(h2:n<=16):ZlG yD r (n:Int)=some (r*(68+8*(n:Int))):=by
 have:=ZAD (m:=68+8*(n:Int)) h0 h1 (by omega);unfold ZlG;rw[yX (ynd (by omega)),yX (ynd (by omega))];unfold ZjU;rw[yX (ynd (by omega)),yX (ynd (by omega)),ya,ZG (z:=8*(n:Int)) (by omega) (by omega),ZG (z:=68+8*(n:Int)) (by omega) (by omega),ZG (by omega) (by omega)]
theorem ZOR{A:Int}{s:yH}{h0 h1:Int}(h:StIn A s h0 h1)(ch:Zz):ZjA yD ch s=some (cost s.2.2.2 s.2.2.1.length):=by
 have:=ZuJ h.r0 h.r1 h.len;unfold ZjA;unfold cost at*;rw[ZPB h.r0 h.r1 h.len,ya,ZG (by omega) (by omega)]
theorem ZNI{A:Int}{s:yH}{h0 h1:Int}(h:StIn A s h0 h1)(hA:A<=4300000000):Zhi yD s=some A:=by
 obtain⟨no,hv,l,r⟩:=s;obtain⟨_,_,hh,p0,p1,_,_,hl,hc,_,ht⟩:=h;dsimp only at hh hl hc ht;subst hh;unfold Zhi;show ybq (some h0) _=_;rw[ya];show ybq (some h1) _=_;have hb:=λk=>ZwT hc k;have hb':=ZoV hc;dsimp only
 rw[ya,ZG (z:=h0+h1) (by omega) (by omega),show(h0+h1,l,(l.length:Int),(0:Int),(no,[h0,h1],l,r))=(λk:Nat=>(h0+h1+amtC (l.take k),l,(l.length:Int),(k:Int),(no,[h0,h1],l,r))) 0 by simp[amtC],
  Zt (x:=(A,(no,[h0,h1],l,r))) l.length (λk:Nat=>(h0+h1+amtC (l.take k),l,(l.length:Int),(k:Int),(no,[h0,h1],l,r))) ?_ ?_ (by omega),ya]
 ·intro k hk;obtain⟨e,he,hm⟩:=Zk hk;have h1:=hb k;have h2:=hb (k+1);have h3:=ZyJ he;unfold Zcn;dsimp only;rw[yW (ZV hk),Zq he,ya,ZG (by omega) (by omega),Zn (by omega),h3,Int.add_assoc]
 ·unfold Zcn;dsimp only;rw[yX (by rw[ZH];decide),yat,ht]
theorem ZPC{A:Int}{s:yH}{h0 h1:Int}(h:StIn A s h0 h1){to:Int}(ht:to=0\/to=1):∃n m,Zdl yD s to=some (n,m)/\0<=n/\n<=16/\0<=m/\m<=2000000:=by
 obtain⟨no,hv,l,r⟩:=s;have hl:=h.len;have hc:=h.cs;dsimp only at hl hc;unfold Zdl;dsimp only
 obtain⟨x,g1,n,m,rfl,g2⟩:=Ym (step:=Qa yD) l.length (λk q=>∃n m,q=(to,n,m,l,(l.length:Int),(k:Int),(no,hv,l,r))/\0<=n/\n<=(k:Int)/\0<=m/\m<=65536*(k:Int)) (λx=>∃n m,x=(n,m,(no,hv,l,r))/\0<=n/\n<=16/\0<=m/\m<=2000000) (i:=(to,(0:Int),(0:Int),l,(l.length:Int),(0:Int),(no,hv,l,r))) ⟨0,0,rfl,by omega⟩ (by omega) (by
  rintro k _ hk ⟨n,m,rfl,q⟩;left;obtain⟨e,he,hm⟩:=Zk hk;have h4:=(hc e hm).2.2.2.1;have h5:=(hc e hm).2.2.2.2.1;unfold Qa;dsimp only;rw[yW (ZV hk),Zq he,ya,Zn (by omega)];split
  ·rw[ZG (z:=n+1) (by omega) (by omega),ZG (z:=m+e.2.2.1) (by omega) (by omega)];exact⟨_,rfl,_,_,rfl,by omega⟩
  ·exact⟨_,rfl,_,_,rfl,by omega⟩) (by
  rintro _ ⟨n,m,rfl,q⟩;unfold Qa;dsimp only;rw[yX (by rw[ZH];decide)];exact⟨_,rfl,_,_,rfl,by omega⟩)
 rw[g1,ya];exact⟨_,_,rfl,g2⟩
theorem ZNJ{A:Int}{k0 k1:Kit}{op:Int}(h:ChOk A k0 k1 op){s:yH}{h0 h1:Int}(hs:StIn A s h0 h1):Zhj yD (Zo A k0 k1 op) s=some (decide (hav op h0 h1 >= cost s.2.2.2 s.2.2.1.length)):=by
 have hT:(Zo A k0 k1 op).2.2.2.1=[Tm 5,Tm 6]:=rfl;have hA:(Zo A k0 k1 op).2.1=A:=rfl;have hO:(Zo A k0 k1 op).2.2.2.2=op:=rfl;have hlo:=h.lo;have hhi:=h.hi;have hco:=ZOR hs (Zo A k0 k1 op);have hto:=ZNI hs h.hi;have hof:=λto ht=>ZPC hs (to:=to) ht;have hb:=ZoV hs.cs;unfold Zhj;rw[ZPA h,ya,yX (by decide)];generalize hc:Zo A k0 k1 op=c at*;obtain⟨no,hv,l,r⟩:=s;obtain⟨n0,n1,hh,p0,p1,r0,r1,hl,hcs,hsr,ht⟩:=hs;dsimp only at n0 n1 hh p0 p1 r0 r1 hl hcs hsr ht hb;subst hh;dsimp only;rw[w1 n0 (by omega),ya,yX (by decide)];show ybq (some h0) _=_;rw[ya];show ybq (some h1) _=_
 rw[ya,ZyK (l:=[h0,h1]) (by simp) (by
  intro x hx;simp only[ybh,ycv,or_false] at hx;rcases hx with rfl|rfl <;> omega),ya,yX (by decide),w1 r0 (by omega),ya,yX (by decide),yX (ynd (by omega))]
 rw[show(l,(l.length:Int),(0:Int),c,(no,[h0,h1],l,r))=(λk:Nat=>(l,(l.length:Int),(k:Int),c,(no,[h0,h1],l,r))) 0 from rfl,Zt (x:=.inr (c,(no,[h0,h1],l,r))) l.length (λk:Nat=>(l,(l.length:Int),(k:Int),c,(no,[h0,h1],l,r))) ?_ ?_ (by omega),ya]
 ·dsimp only;rw[show(c.2.2.2.1,(0:Int),c,(no,[h0,h1],l,r))=(λk:Nat=>(c.2.2.2.1,(k:Int),c,(no,[h0,h1],l,r))) 0 from rfl,Zt (x:=.inr (c,(no,[h0,h1],l,r))) 2 (λk:Nat=>(c.2.2.2.1,(k:Int),c,(no,[h0,h1],l,r))) ?_ ?_ (by omega),ya]
  ·dsimp only;rw[hto,ya,hA,yW (beq_self_eq_true _),hO,yW (Ys h.o),Zfm h.o,ya,hco,ya]
  ·intro k hk;obtain⟨n,m,e1,e2,e3,e4,e5⟩:=hof (k:Int) (by omega)
   have ht:∃d,c.2.2.2.1[k]? =some (Tm d):=by
    rw[hT]
    match k,hk with
    |0,_=>exact⟨_,rfl⟩
    |1,_=>exact⟨_,rfl⟩
   obtain⟨d,hd⟩:=ht;unfold Zcp;dsimp only;rw[yW (yY (by omega)),Zq hd,ya,e1,ya,Zn (by omega)];rw[yX (by rw[yN];show¬n > 16;omega),yX (by rw[yN];show¬m > 1125899906842624;omega)]
  ·unfold Zcp;dsimp only;rw[yX (ynd (by omega))]
 ·intro k hk;obtain⟨e,he,hm⟩:=Zk hk;obtain⟨d,hd⟩:=ZEy (hcs e hm).1;have h4:=(hcs e hm).2.2.2.1;have hlt:¬(e.2.2.1 < (Tm d).2.2.2.2.1):=by show¬(e.2.2.1 < 1);omega
  unfold Zco;dsimp only;rw[yW (ZV hk),Zq he,ya,ZOP (hcs e hm),ya,yX (by decide),yW (ZrW (hcs e hm).1),hT,hd,ya,yX (by rw[yN];exact hlt),Zn (by omega)];by_cases h0:k=0
  ·subst h0;rw[yX (ynd (by omega))]
  ·obtain⟨f,hf,hfm⟩:=Zk (l:=l) (k:=k - 1) (by omega)
   have hah:Ahd f e:=by
    have h7:=List.pairwise_iff_getElem.1 hsr (k - 1) k (by omega) hk (by omega);rw[yab (by omega)] at hf he;cases hf;cases he;exact h7
   obtain⟨z,hz,hz0⟩:=ZNH hah;rw[yW (yY (by omega)),ZG (z:=(k:Int) - 1) (by omega) (by omega),show(k:Int) - 1=((k - 1:Nat):Int) by omega,Zq hf,ya,hz,ya,yX (ynd (by omega))]
 ·unfold Zco;dsimp only;rw[yX (by rw[ZH];decide)]
theorem Zkr{α:Type}{c:Prop}[Decidable c]{a b:yO α}{P:α->Prop}(h1:c->∃x,a=some x/\P x)(h2:¬c->∃x,b=some x/\P x):∃x,(if c then a else b)=some x/\P x:=by
 by_cases h:c
 ·rw[yW h];exact h1 h
 ·rw[yX h];exact h2 h
def ins(c:Cond):yL Cond->yL Cond
 |[]=>[c]
 |e::r=>if Ahd c e then c::e::r else e::ins c r
theorem ZuK{c x:Cond}:∀{l:yL Cond},x∈ins c l↔x=c\/x∈l
 |[]=>by simp[ins]
 |e::r=>by
  rw[ins];split
  ·simp
  ·rw[ybh,ZuK (l:=r),ybh];constructor
   ·rintro(h|h|h) <;> simp[h]
   ·rintro(h|h|h) <;> simp[h]
theorem ZuL{c:Cond}:∀{l:yL Cond},(ins c l).length=l.length+1
 |[]=>rfl
 |e::r=>by
  rw[ins];split
  ·rfl
  ·rw[yai,ZuL (l:=r),yai]
theorem ZyL(c:Cond)(l:yL Cond):amtC (c::l)=c.2.2.1+amtC l:=rfl
theorem ZFW{c:Cond}:∀{l:yL Cond},amtC (ins c l)=c.2.2.1+amtC l
 |[]=>rfl
 |e::r=>by
  rw[ins];split
  ·rfl
  ·rw[ZyL,ZFW (l:=r),ZyL];omega
theorem ZFX{c:Cond}:∀{l:yL Cond},l.Pairwise Ahd->(∀e,e∈l->c.2.1≠e.2.1)->(ins c l).Pairwise Ahd
 |[],_,_=>by simp[ins]
 |e::r,h,hd=>by
  obtain⟨h1,h2⟩:=List.pairwise_cons.1 h;rw[ins];split
  ·rename_i ha;refine List.pairwise_cons.2 ⟨?_,h⟩;intro x hx;rcases ybh.1 hx with rfl|hx
   ·exact ha
   ·exact ZHg ha (h1 x hx)
  ·rename_i ha;refine List.pairwise_cons.2 ⟨?_,ZFX h2 λx hx=>hd x (yba _ hx)⟩;intro x hx;rcases ZuK.1 hx with rfl|hx
   ·exact ZNF (hd e (yay ..)) ha
   ·exact h1 x hx
theorem ZOS{s:yH}{h0 h1:Int}(hv:s.2.1=[h0,h1])(hl:s.2.2.1.length<=16){c:Cond}(hc:CondIn c):Zaj yD s c=some (s.1,([h0,h1]:yL Int).set c.1.toNat (wi (hav c.1 h0 h1 - c.2.2.1)),ins c s.2.2.1,s.2.2.2):=by
 obtain⟨no,hh,l,r⟩:=s;dsimp only at hv hl;subst hv;unfold Zaj;dsimp only
 obtain⟨x,g1,d,o,rfl,g2,g3,g4⟩:=Ym (step:=Wx yD) l.length (λk q=>∃d o,q=(d,(k:Int),(no,[h0,h1],l,r),c,((0:Int),([0,0]:yL Int),([]:yL Cond),(0:Int)),no,[h0,h1],r,o)/\o.length<=2*k/\(d=true->ins c l=o++l.drop k)/\(d=false->ins c l=o++ins c (l.drop k)))
  (λx=>∃d o,x=(d,(no,[h0,h1],l,r),c,((0:Int),([0,0]:yL Int),([]:yL Cond),(0:Int)),no,[h0,h1],r,o)/\o.length<=40/\(d=true->ins c l=o)/\(d=false->ins c l=o++[c]))
  (i:=(false,(0:Int),(no,[h0,h1],l,r),c,((0:Int),([0,0]:yL Int),([]:yL Cond),(0:Int)),no,[h0,h1],r,([]:yL Cond))) ⟨_,_,rfl,by simp,(λh=>by cases h),λ_=>rfl⟩ (by omega) (by
  rintro k _ hk ⟨d,o,rfl,q1,q2,q3⟩;left;obtain⟨e,he,hm⟩:=Zk hk
  have hd:l.drop k=e::l.drop (k+1):=by
   rw[List.drop_eq_getElem_cons hk];rw[yab hk] at he;cases he;rfl
  rw[hd] at q2 q3;unfold Wx;dsimp only;rw[yW (ZV hk),Zq he,ya,Zn (by omega),ZyI]
  cases d with
  |false=>
   rw[yW (by decide),ya];have q3:=q3 rfl;rw[ins] at q3;by_cases ha:Ahd c e
   ·rw[yW (yY ha),yW (ZD (by omega) (by omega)),ya,yW (ZD (by simp;omega) (by simp;omega))];rw[yW ha] at q3;exact⟨_,rfl,_,_,rfl,by simp;omega,(λ_=>by rw[q3];simp),λh=>by cases h⟩
   ·rw[yX (by rw[yN];exact ha),ya,yW (ZD (by omega) (by omega))];rw[yX ha] at q3
    exact⟨_,rfl,_,_,rfl,by simp;omega,λh=>(by cases h),λ_=>by rw[q3];simp⟩
  |true=>
   have q2:=q2 rfl;rw[yX (by decide),ya,yW (ZD (by omega) (by omega))];exact⟨_,rfl,_,_,rfl,by simp;omega,(λ_=>by rw[q2];simp),λh=>by cases h⟩) (by
  rintro _ ⟨d,o,rfl,q1,q2,q3⟩;rw[List.drop_length] at q2 q3;unfold Wx;dsimp only;rw[yX (by rw[ZH];decide)];exact⟨_,rfl,_,_,rfl,by omega,(λh=>by rw[q2 h,ybd]),λh=>by rw[q3 h];rfl⟩)
 rw[g1,ya];dsimp only
 cases d with
 |true=>
  rw[yX (by decide),yW (Ys hc.1),Zfm hc.1,ya,yW (Ys hc.1),ya,g3 rfl]
 |false=>
  rw[yW (by decide),yW (ZD (by omega) (by omega)),yW (Ys hc.1),Zfm hc.1,ya,yW (Ys hc.1),ya,g4 rfl]
theorem ZNK{s:yH}(hl:s.2.2.1.length<=16)(f i:Int):∃z,QJ yD s f i=some z:=by
 obtain⟨no,hh,l,r⟩:=s;dsimp only at hl;unfold QJ
 obtain⟨x,g1,_⟩:=Ym (step:=Wg yD) l.length (λk q=>q=(f,i,(k:Int),(no,hh,l,r))) (λ_=>True) (i:=(f,i,(0:Int),(no,hh,l,r))) rfl (by omega) (by
  rintro k _ hk rfl;obtain⟨e,he,hm⟩:=Zk hk;unfold Wg;dsimp only;rw[yW (ZV hk),Zq he,ya,ya,Zn (by omega)];split
  ·split
   ·right;exact⟨_,rfl,ytt⟩
   ·left;exact⟨_,rfl,rfl⟩
  ·left;exact⟨_,rfl,rfl⟩) (by
  rintro _ rfl;unfold Wg;dsimp only;rw[yX (by rw[ZH];decide)];exact⟨_,rfl,ytt⟩)
 rw[g1,ya];cases x <;> exact⟨_,rfl⟩
structure StOk(A op:Int)(s:yH):Prop where
 ex:∃h0 h1,StIn A s h0 h1/\hav op h0 h1 >= cost s.2.2.2 s.2.2.1.length
theorem ZPD{A:Int}{k0 k1:Kit}{op:Int}(h:ChOk A k0 k1 op){s:yH}(hs:StOk A op s){c:Cond}(hc:CondIn c)(hd:∀e,e∈s.2.2.1->c.2.1≠e.2.1):
 ∃x,ZaX yD (Zo A k0 k1 op) s c=some x/\(x.2=0->StOk A op x.1/\x.1.2.2.1=ins c s.2.2.1/\x.1.1=s.1):=by
 obtain⟨h0,h1,hs,ho⟩:=hs;have hT:(Zo A k0 k1 op).2.2.2.1=[Tm 5,Tm 6]:=rfl;have hO:(Zo A k0 k1 op).2.2.2.2=op:=rfl;obtain⟨d,hd1⟩:=ZEy hc.1;obtain⟨z,hz⟩:=ZNK hs.len c.1 c.2.1;obtain⟨n,m,e1,e2,e3,e4,e5⟩:=ZOO hs (to:=wi (1 - c.1)) (by rcases hc.1 with h|h <;> rw[h] <;> decide);have hlo:=h.lo;have hhi:=h.hi;have c4:=hc.2.2.2.1;have c5:=hc.2.2.2.2.1;have hb:=ZoV hs.cs;have hht:=hs.tot;have p0:=hs.p0;have p1:=hs.p1;have hl:=hs.len;unfold ZaX;rw[Zs2 h hs,ya,ZL9 hc,ya,yY ho,yX (by decide),yX (by decide),hz,ya];refine Zkr (λ_=>⟨_,rfl,λh=>absurd h (by decide)⟩) λ_=> ?_;rw[yW (ZrW hc.1),hT,hd1,ya,e1,ya];refine Zkr (λ_=>⟨_,rfl,λh=>absurd h (by decide)⟩) λ_=> ?_;refine Zkr (λ_=>⟨_,rfl,λh=>absurd h (by decide)⟩) λh16=> ?_
 have h16:s.2.2.1.length<=15:=by
  rw[yT] at h16;omega
 refine Zkr (λ_=>⟨_,rfl,λh=>absurd h (by decide)⟩) λ_=> ?_;dsimp only;refine Zkr (λ_=>⟨_,rfl,λh=>absurd h (by decide)⟩) λ_=> ?_
 have hav0:∀i:Int,0<=hav i h0 h1/\hav i h0 h1<=A:=by
  intro i;unfold hav;split <;> omega
 have hwi:wi (hav c.1 h0 h1 - c.2.2.1)=hav c.1 h0 h1 - c.2.2.1:=ZG (by have:=hav0 c.1;omega) (by have:=hav0 c.1;omega);rw[ZOS hs.hv hs.len hc,ya,hwi]
 obtain⟨g0,g1,hg,hg2⟩:∃g0 g1:Int,([h0,h1]:yL Int).set c.1.toNat (hav c.1 h0 h1 - c.2.2.1)=[g0,g1]/\(g0+g1=h0+h1 - c.2.2.1/\(hav c.1 g0 g1=hav c.1 h0 h1 - c.2.2.1)/\(c.1=0->g1=h1)/\(c.1=1->g0=h0)):=by
  rcases hc.1 with h|h
  ·rw[h];exact⟨_,_,rfl,by unfold hav;simp;omega⟩
  ·rw[h];exact⟨_,_,rfl,by unfold hav;simp;omega⟩
 rw[hg]
 have hcost:XR yD (Zo A k0 k1 op) (s.1,[g0,g1],ins c s.2.2.1,s.2.2.2)=some (cost s.2.2.2 (ins c s.2.2.1).length):=by
  have:=ZuJ (n:=(ins c s.2.2.1).length) hs.r0 hs.r1 (by rw[ZuL];omega);unfold XR;unfold cost at*;dsimp only;rw[ZOM hs.r0 hs.r1 (by show(ins c s.2.2.1).length<=16;rw[ZuL];omega),ya,ZG (by omega) (by omega)]
 rw[hcost,ya,yW (Ys hc.1),Zfm hc.1,ya];refine Zkr (λ_=>⟨_,rfl,λh=>absurd h (by decide)⟩) λhneg=> ?_;rw[hO,yW (Ys h.o),Zfm h.o,ya];refine Zkr (λ_=>⟨_,rfl,λh=>absurd h (by decide)⟩) λhcst=> ?_;rw[yN] at hneg hcst
 have fin:StOk A op (s.1,[g0,g1],ins c s.2.2.1,s.2.2.2):=by
  refine⟨g0,g1,⟨hs.n0,hs.n1,rfl, ?_, ?_,hs.r0,hs.r1,by show(ins c s.2.2.1).length<=16;rw[ZuL];omega, ?_,ZFX hs.srt hd, ?_⟩,by show hav op g0 g1 >= cost s.2.2.2 (ins c s.2.2.1).length;omega⟩
  ·rcases hc.1 with h|h
   ·rw[h] at hneg;unfold hav at hneg;simp at hneg;omega
   ·have:=hg2.2.2.2 h;omega
  ·rcases hc.1 with h|h
   ·have:=hg2.2.2.1 h;omega
   ·rw[h] at hneg;unfold hav at hneg;simp at hneg;omega
  ·intro x hx;rcases ZuK.1 hx with rfl|hx
   ·exact hc
   ·exact hs.cs x hx
  ·show g0+g1+amtC (ins c s.2.2.1)=A;rw[ZFW];omega
 rw[yW (Ys hc.1),ya];exact Zkr (λ_=>Zkr (λ_=>⟨_,rfl,λh=>absurd h (by decide)⟩) λ_=>⟨_,rfl,λ_=>⟨fin,rfl,rfl⟩⟩) λ_=>Zkr (λ_=>⟨_,rfl,λh=>absurd h (by decide)⟩) λ_=>⟨_,rfl,λ_=>⟨fin,rfl,rfl⟩⟩
theorem ZHh(n:yU):∃o,Y9 yD n=some o/\o.length=8:=by
 unfold Y9
 obtain⟨x,h1,h2⟩:=Ym (step:=Yl yD) 8 (λk s=>∃c,s=(n,56 - 8*(k:Int),c)/\c.length=k) (λx=>x.length=8) (i:=(n,(56:Int),([]:yL yB))) ⟨_,rfl,rfl⟩ (by omega) (by
  rintro k _ hk ⟨c,rfl,hc⟩;left;unfold Yl;dsimp only;rw[yW (yY (by omega)),yW (yY (by omega)),yW (ZD (by omega) (by omega)),ZG (z:=56 - 8*(k:Int) - 8) (by omega) (by omega)];exact⟨_,rfl,_,by rw[show(56:Int) - 8*(k:Int) - 8=56 - 8*((k+1:Nat):Int) by omega],by simp[hc]⟩) (by
  rintro _ ⟨c,rfl,hc⟩;unfold Yl;dsimp only;rw[yX (ynd (by omega))];exact⟨_,rfl,hc⟩)
 rw[h1,ya];exact⟨_,rfl,h2⟩
theorem ZEz(n:yU):∃o,Xz yD n=some o/\o.length=8:=by
 unfold Xz
 obtain⟨x,h1,h2⟩:=Ym (step:=ZZ yD) 8 (λk s=>∃c,s=(n,56 - 8*(k:Int),c)/\c.2.length=k) (λx=>x.2.length=8) (i:=(n,(56:Int),([]:yL yB),([]:yL yB))) ⟨_,rfl,rfl⟩ (by omega) (by
  rintro k _ hk ⟨c,rfl,hc⟩;left;unfold ZZ;dsimp only;rw[yW (yY (by omega)),yW (yY (by omega)),yW (ZD (by omega) (by omega)),ZG (z:=56 - 8*(k:Int) - 8) (by omega) (by omega)];exact⟨_,rfl,_,by rw[show(56:Int) - 8*(k:Int) - 8=56 - 8*((k+1:Nat):Int) by omega],by simp[hc]⟩) (by
  rintro _ ⟨c,rfl,hc⟩;unfold ZZ;dsimp only;rw[yX (ynd (by omega))];exact⟨_,rfl,hc⟩)
 rw[h1,ya];exact⟨_,rfl,h2⟩
theorem ZJV{s:ByteArray}{ls:yL (yL yB)}(h1:s.size<=100)(h2:ls.length<=10)(h3:∀l,l∈ls->l.length<=60000):∃o,YW yD s ls=some o/\o.length=32:=by
 unfold YW;obtain⟨o,p1,p2⟩:=ZEz (w64 (s.size:Int))
 have hsl:s.data.toList.length=s.size:=by
  rw[Array.length_toList];rfl
 rw[p1,ya,yW (yY (by unfold maxLen;omega)),yW (ZD (by rw[hsl,p2];omega) (by rw[hsl,p2];omega))]
 obtain⟨x,g1,b,rfl,g2⟩:=Ym (step:=Z1 yD) ls.length (λk q=>∃b,q=(ls,(k:Int),z32,b)/\b.length<=200+60100*k) (λx=>∃b,x=(z32,b)/\b.length<=700000) (i:=(ls,(0:Int),z32,o++s.data.toList)) ⟨_,rfl,by rw[yl,p2,hsl];omega⟩ (by omega) (by
  rintro k _ hk ⟨b,rfl,hb⟩;left;obtain⟨e,he,hm⟩:=Zk hk;have:=h3 e hm;obtain⟨q,q1,q2⟩:=ZHh (w64 (e.length:Int));unfold Z1;dsimp only;rw[yW (ZV hk),Zq he,ya,q1,ya,yW (ZD (by omega) (by omega)),ya,yW (ZD (by rw[yl];omega) (by rw[yl];omega)),Zn (by omega)];exact⟨_,rfl,_,rfl,by simp only[yl];omega⟩) (by
  rintro _ ⟨b,rfl,hb⟩;unfold Z1;dsimp only;rw[yX (by rw[ZH];decide)];exact⟨_,rfl,_,rfl,by omega⟩)
 show∃o_1,(ybq (Zb (Z1 yD) yD (ls,(0:Int),z32,o++s.data.toList)) λo85=>(We yD o85.2).bind λo86=>some o86)=some o_1/\o_1.length=32;rw[g1,ya,ZCv (by show b.length<=_;omega),ya];exact⟨_,rfl,Sha.ZO8 _⟩
theorem ZJW{h:yL yB}(hl:h.length=32):∃o,YS yD [] h=some o/\o.length=32:=by
 unfold YS;rw[yW (ZD (by simp) (by simp))]
 obtain⟨x,g1,b,rfl,g2⟩:=Ym (step:=Z0 yD) 32 (λk q=>∃b,q=((k:Int),h,b)/\b.length=k) (λx=>∃b,x=(h,b)/\b.length=32) (i:=((0:Int),h,([]:yL yB))) ⟨_,rfl,rfl⟩ (by omega) (by
  rintro k _ hk ⟨b,rfl,hb⟩;left;obtain⟨e,he,hm⟩:=Zk (l:=h) (k:=k) (by omega);unfold Z0;dsimp only;rw[yW (yY (by omega)),yW (Yz (by omega) (by omega)),yar,he,ya,yW (ZD (by omega) (by omega)),Zn (by omega)];exact⟨_,rfl,_,rfl,by simp[hb]⟩) (by
  rintro _ ⟨b,rfl,hb⟩;unfold Z0;dsimp only;rw[yX (ynd (by omega))];exact⟨_,rfl,_,rfl,hb⟩)
 rw[g1,ya];exact⟨_,rfl,g2⟩
theorem ZyM{h:yL yB}(hl:h.length=32)(n:yB):∃o,YK yD h n=some o/\o.length=32:=by
 unfold YK;obtain⟨o,h1,h2⟩:=ZJW hl
 obtain⟨p,h3,h4⟩:=ZJV (s:=ZL8) (ls:=[o,[n]]) (by decide) (by simp) (by
  intro l hl;simp only[ybh,ycv,or_false] at hl;rcases hl with rfl|rfl
  ·omega
  ·simp)
 rw[h1,ya,h3,ya];exact⟨_,rfl,h4⟩
theorem ZOT{h:yL yB}(hl:h.length=32):∃k,Qk yD h=some k/\KitOk k:=by
 unfold Qk;obtain⟨p1,a1,b1⟩:=ZyM hl 1;obtain⟨p2,a2,b2⟩:=ZyM hl 2;obtain⟨p3,a3,b3⟩:=ZyM hl 3;obtain⟨p4,a4,b4⟩:=ZyM hl 4;obtain⟨p5,a5,b5⟩:=ZyM hl 5;obtain⟨p6,a6,b6⟩:=ZyM hl 6;obtain⟨k1,c1,d1⟩:=Zoq b1;obtain⟨k2,c2,d2⟩:=Zoq b2;obtain⟨k3,c3,d3⟩:=Zoq b3;obtain⟨k4,c4,d4⟩:=Zoq b4;obtain⟨k5,c5,d5⟩:=Zoq b5;rw[a1,ya,c1,ya,a2,ya,c2,ya,a3,ya,c3,ya,a4,ya,c4,ya,a5,ya,c5,ya,a6,ya];exact⟨_,rfl,d1,d2,d3,d4,d5⟩
theorem ZFY(k:Kit):YI yD k=some (Ye k):=by
 unfold YI;rw[Q0,ya,Q0,ya,Q0,ya,Q0,ya,Q0,ya];rfl
def Sec(o:ZaW):yU:=1+o.2.2.2 % 2305843009213688668
theorem ZLu(o:ZaW):Key (Sec o):=by
 have h:(o.2.2.2 % 2305843009213688668).toNat < 2305843009213688668:=by
  rw[ycr];exact ybc _ (by decide)
 have e:(Sec o).toNat=1+(o.2.2.2 % 2305843009213688668).toNat:=by
  unfold Sec;rw[UInt64.toNat_add,yaf]
  ·rfl
  ·show 1+_ < _;omega
 unfold Key ord;omega
structure PlayOk(p:yM):Prop where
 sl:p.1.length=2
 ss:∀h,h∈p.1->h.length=32
 ol:p.2.2.2.2.2.1.length<=9223372036854775807
 os:∀o,o∈p.2.2.2.2.2.1->0<=o.2.1/\o.2.1<=65535/\0<=o.2.2.1/\o.2.2.1<=65535
 n0:0<=p.2.2.2.2.2.2.1
 n1:p.2.2.2.2.2.2.1<=65535
 per:p.2.2.2.2.2.2.2.length=32
def ZJX(p:yM)(k:Nat)(l:yL Cond):Prop:=∀c,c∈l->1<=c.2.1/\c.2.1<=(k:Int)/\∃o,p.2.2.2.2.2.1[c.2.1.toNat - 1]? =some o/\c.2.2.2.1=B (Sec o).toNat
theorem ZJY(x:yB):(((x % 2).toNat:Nat):Int)=0\/(((x % 2).toNat:Nat):Int)=1:=by
 have:(x % 2).toNat=x.toNat % 2:=UInt8.toNat_mod ..;omega
theorem ZCH{A:Int}{k0 k1:Kit}{op:Int}(h:ChOk A k0 k1 op){p:yM}(hp:PlayOk p){s:yH}(hs:StOk A op s)(he:s.2.2.1=[])(a:Zz)(b:yL Kit)(c:yH)(ks:yL Kit):
 ∃x,Zb (YT yD) yD ((0:Int),p,a,b,c,ks,Zo A k0 k1 op,s)=some x/\∃t,x=(p,a,b,c,ks,Zo A k0 k1 op,t)/\StOk A op t/\ZJX p 20 t.2.2.1/\t.1=s.1:=by
 obtain⟨p1,p2,p3,p4,p5,of,p6,p7⟩:=p;have hol:=hp.ol;have hos:=hp.os;dsimp only at hol hos;refine Ym (step:=YT yD) 20 (λk q=>∃t,q=((k:Int),(p1,p2,p3,p4,p5,of,p6,p7),a,b,c,ks,Zo A k0 k1 op,t)/\StOk A op t/\ZJX (p1,p2,p3,p4,p5,of,p6,p7) k t.2.2.1/\t.1=s.1) _ ⟨_,rfl,hs,by rw[he];intro c hc;simp at hc,rfl⟩ (by omega) ?_ ?_
 ·rintro k _ hk ⟨t,rfl,t1,t2,t3⟩
  have mono:∀{n m:Nat}{l:yL Cond},n<=m->ZJX (p1,p2,p3,p4,p5,of,p6,p7) n l->ZJX (p1,p2,p3,p4,p5,of,p6,p7) m l:=λhnm ho c hc=>by
   obtain⟨q1,q2,q3⟩:=ho c hc;exact⟨q1,by omega,q3⟩
  unfold YT;dsimp only;by_cases hkl:k < of.length
  ·left;obtain⟨o,ho,hom⟩:=Zk hkl;obtain⟨b1,b2,b3,b4⟩:=hos o hom
   have hc:CondIn (((o.1 % 2).toNat:Int),wi ((k:Int)+1),wi (1+wi o.2.1),B (Sec o).toNat,wi (1+wi o.2.2.1)):=by
    rw[Zn (by omega),ZG (z:=o.2.1) (by omega) (by omega),ZG (z:=1+o.2.1) (by omega) (by omega),ZG (z:=o.2.2.1) (by omega) (by omega),ZG (z:=1+o.2.2.1) (by omega) (by omega)];exact⟨ZJY _,by dsimp only;omega,by dsimp only;omega,by dsimp only;omega,by dsimp only;omega,ZHe _,ZJS (ZLu o),by dsimp only;omega,by dsimp only;omega⟩
   obtain⟨x,x1,x2⟩:=ZPD h t1 hc (by
    intro e he;have:=(t2 e he).2.1;rw[Zn (by omega)];dsimp only;omega)
   have hsec:Zbw yD o=some (Sec o):=rfl;rw[yW (ZV hkl),yW (yY (by omega)),Zq ho,ya,hsec,ya,Zhz,ya,x1,ya];by_cases h0:x.2=0
   ·obtain⟨y1,y2,y3⟩:=x2 h0;rw[yW (by rw[h0];rfl),Zn (by omega)];refine⟨_,rfl,_,rfl,y1, ?_,by rw[y3,t3]⟩;rw[y2];intro c hc;rcases ZuK.1 hc with rfl|hc
    ·rw[Zn (by omega)];refine⟨by dsimp only;omega,by dsimp only;omega,o, ?_,rfl⟩;dsimp only;rw[show((k+1:Nat):Int).toNat - 1=k by omega];exact ho
    ·exact mono (by omega) t2 c hc
   ·rw[yX (by rw[yT];exact h0),Zn (by omega)];exact⟨_,rfl,_,rfl,t1,mono (by omega) t2,t3⟩
  ·right;rw[yX (ynd (by omega))];exact⟨_,rfl,_,rfl,t1,mono (by omega) t2,t3⟩
 ·rintro _ ⟨t,rfl,t1,t2,t3⟩;unfold YT;dsimp only;by_cases hkl:20 < of.length
  ·rw[yW (ZV hkl),yX (ynd (by omega))];exact⟨_,rfl,_,rfl,t1,t2,t3⟩
  ·rw[yX (ynd (by omega))];exact⟨_,rfl,_,rfl,t1,t2,t3⟩
theorem ZCI(P:yM)(a:Zz)(b:yL Kit)(c:yH)(k0 k1:Kit)(A op:Int):Zb (Wy yD) yD ((0:Int),P,a,b,c,([k0,k1]:yL Kit),((yzz,(0:Int)),A,([(0,0,0,0,0),(0,0,0,0,0)]:yL Zb0),([(0,0,0,0,0,0),(0,0,0,0,0,0)]:yL ZcQ),op))=some (P,a,b,c,[k0,k1],Zo A k0 k1 op):=by
 refine Zt 2 (λk:Nat=>((k:Int),P,a,b,c,([k0,k1]:yL Kit),((z32,(0:Int)),A,([Ye k0,Ye k1]:yL Zb0).take k++([(0,0,0,0,0),(0,0,0,0,0)]:yL Zb0).drop k,([Tm 5,Tm 6]:yL ZcQ).take k++([(0,0,0,0,0,0),(0,0,0,0,0,0)]:yL ZcQ).drop k,op))) ?_ ?_ (by omega)
 ·intro k hk;unfold Wy;dsimp only
  match k,hk with
  |0,_=>
   rw[yW (yY (by omega)),yW (Yz (by omega) (by omega))];show ybq (some k0) _=_;rw[ya,ZFY,ya]
   rfl
  |1,_=>
   rw[yW (yY (by omega)),yW (Yz (by omega) (by omega))];show ybq (some k1) _=_;rw[ya,ZFY,ya];rfl
 ·unfold Wy;dsimp only;rw[yX (ynd (by omega))];rfl
theorem made{p:yM}(hp:PlayOk p):∃A k0 k1 op s,Zak yD p=some (Zo A k0 k1 op,[k0,k1],s)/\ChOk A k0 k1 op/\StOk A op s/\ZJX p 20 s.2.2.1:=by
 have hof:=λ{A:Int}{k0 k1:Kit}{op:Int}(h:ChOk A k0 k1 op){s:yH}(hs:StOk A op s)(he:s.2.2.1=[])(a:Zz)(b:yL Kit)(c:yH)(ks:yL Kit)=>ZCH h hp hs he a b c ks;have hn0:=hp.n0;have hn1:=hp.n1;obtain⟨sd,am,ow,ra,on,of,no,pr⟩:=p;dsimp only at hn0 hn1
 obtain⟨q0,q1,hsd⟩:∃q0 q1,sd=[q0,q1]:=by
  have:=hp.sl;dsimp only at this
  match sd,this with
  |[a,b],_=>exact⟨_,_,rfl⟩
 subst hsd;have hss:=hp.ss;obtain⟨k0,e0,f0⟩:=ZOT (hss q0 (by simp));obtain⟨k1,e1,f1⟩:=ZOT (hss q1 (by simp));have hop:=ZJY on;have ham:(am.toNat:Int)<=4294967295:=by have:=am.toNat_lt;omega
 unfold Zak;show∃A k0 k1 op s,ybq (some q0) _=_/\_;rw[ya,e0,ya];show∃A k0 k1 op s,ybq (some q1) _=_/\_;rw[ya,e1,ya];dsimp only;rw[ZG (z:=20000+(am.toNat:Int)) (by omega) (by omega)];generalize hA:20000+(am.toNat:Int)=A;generalize (((on % 2).toNat:Nat):Int)=op at hop;have hch:ChOk A k0 k1 op:=⟨by omega,by omega,hop,f0,f1⟩;rw[ZCI,ya];have hcA:(Zo A k0 k1 op).2.1=A:=rfl;have hcO:(Zo A k0 k1 op).2.2.2.2=op:=rfl;dsimp only;rw[hcA,hcO,ZG (z:=A+1) (by omega) (by omega),yW (bne_iff_ne.2 (by omega))]
 obtain⟨y,hy,hy0,hyA⟩:∃y,yav (ow.toNat:Int) (A+1)=y/\0<=y/\y<=A:=by
  refine⟨_,rfl, ?_, ?_⟩
  ·exact Int.tmod_nonneg _ (by omega)
  ·have:=Int.tmod_lt_of_pos (ow.toNat:Int) (b:=A+1) (by omega);omega
 rw[hy,ZG (z:=A - y) (by omega) (by omega),ZG (z:=no) (by omega) (by omega)]
 have hr8:(ra % 8).toNat < 8:=by
  rw[UInt8.toNat_mod];exact ybc _ (by decide)
 generalize hr:(((ra % 8).toNat:Nat):Int)=r;have hs0:StIn A (no,[y,A - y],[],r) y (A - y):=⟨hn0,hn1,rfl,hy0,by omega,by dsimp only;omega,by dsimp only;omega,by simp,λc hc=>(by simp at hc),List.Pairwise.nil,by show y+(A - y)+0=A;omega⟩;rw[show Xo yD (Zo A k0 k1 op) (no,[y,A - y],[],r)=some (decide (hav op y (A - y) >= cost r 0)) from Zs2 hch hs0,ya]
 by_cases hco:hav op y (A - y) >= cost r 0
 ·rw[yX (by rw[yY hco];decide)];obtain⟨x,x1,t,rfl,x2,x3,x4⟩:=hof hch (s:=(no,[y,A - y],[],r)) ⟨_,_,hs0,hco⟩ rfl _ _ _ _;rw[x1,ya];exact⟨A,k0,k1,op,t,rfl,hch,x2,x3⟩
 ·have hci:=ZuJ (r:=r) (n:=0) (by omega) (by omega) (by omega);rw[yW (by rw[yZ hco];rfl),yW (Ys hop),Zfm hop,ya,yW (ZrW hop)]
  obtain⟨g0,g1,e1,e2,e3⟩:∃g0 g1:Int,(([y,A - y]:yL Int).set op.toNat A).set ((wi (1 - op)).toNat) 0=[g0,g1]/\(g0=A/\g1=0/\op=0\/g0=0/\g1=A/\op=1)/\∃z,((([y,A - y]:yL Int).set op.toNat A)[(wi (1 - op)).toNat]?)=some z:=by
   rcases hop with rfl|rfl
   ·exact⟨_,_,rfl,.inl ⟨rfl,rfl,rfl⟩,_,rfl⟩
   ·exact⟨_,_,rfl,.inr ⟨rfl,rfl,rfl⟩,_,rfl⟩
  obtain⟨z,hz⟩:=e3;rw[hz,ya,e1];have hs1:StIn A (no,[g0,g1],[],r) g0 g1:=⟨hn0,hn1,rfl,by omega,by omega,by dsimp only;omega,by dsimp only;omega,by simp,λc hc=>(by simp at hc),List.Pairwise.nil,by show g0+g1+0=A;omega⟩
  have hco1:hav op g0 g1 >= cost r 0:=by
   unfold hav;rcases e2 with⟨u1,u2,u3⟩|⟨u1,u2,u3⟩
   ·rw[yW u3];omega
   ·rw[yX (by omega)];omega
  obtain⟨x,x1,t,rfl,x2,x3,x4⟩:=hof hch (s:=(no,[g0,g1],[],r)) ⟨_,_,hs1,hco1⟩ rfl _ _ _ _;rw[x1,ya];exact⟨A,k0,k1,op,t,rfl,hch,x2,x3⟩
def beF(l:yL yB):Nat->Nat
 |0=>0
 |k+1=>beF l k*256+((l[k]?).map UInt8.toNat).getD 0
theorem ZEA(l:yL yB):∀k,beF l k < 256 ^ k
 |0=>by simp[beF]
 |k+1=>by
  have:=ZEA l k
  have h:((l[k]?).map UInt8.toNat).getD 0 < 256:=by
   cases l[k]? with
   |none=>simp
   |some d=>exact d.toNat_lt
  rw[beF,Nat.pow_succ];omega
theorem ZFZ(n:Nat):∀k,k<=8->n < 18446744073709551616->beF (Zm5 n) k=n / 2 ^ (64 - 8*k)
 |0,_,h=>by rw[beF,Nat.div_eq_of_lt (by omega)]
 |k+1,hk,h=>by
  rw[beF,ZFZ n k (by omega) h,ZwS n (by omega)];have e:(64 - 8*k)=(56 - 8*k)+8:=by omega
  have e2:64 - 8*(k+1)=56 - 8*k:=by omega
  rw[e,e2,Nat.pow_add, <-Nat.div_div_eq_div_mul];simp;omega
def ZiZ(r:Zi)(n:Nat):yL yB×Zi:=if r.2=true\/r.1.length < n then([],([],true)) else(r.1.take n,(r.1.drop n,r.2))
theorem ZuM{n:Nat}{z:Int}(h0:0<=z)(h:z<=(n:Int)):ZaE n (some z) none=true:=by simp[ZaE,h0,h]
theorem ZF0{n:Nat}{z:Int}(h0:0<=z)(h:z<=(n:Int)):ZaE n none (some z)=true:=by simp[ZaE,h0,h]
theorem ZCJ{l:yL yB}(h:l.length<=1000000000):YA yD l=some l:=by
 unfold YA;rw[yW (ZD (by omega) (by omega))]
theorem ZLv{z:Int}{r:Zi}(h0:0<=z)(h:r.1.length<=2000000):ZaQ yD z r=some (ZiZ r z.toNat):=by
 obtain⟨b,no⟩:=r;obtain⟨n,rfl⟩:=Int.eq_ofNat_of_zero_le h0;unfold ZaQ ZiZ Qb;dsimp only at h ⊢;rw[yar];by_cases h1:no=true
 ·rw[yW h1,ya,yW (.inl h1)]
 by_cases h2:b.length < n
 ·rw[yX h1,yW (yY (by omega)),ya,yW (.inr h2)]
 rw[yX h1,yX (ynd (by omega)),yW (ZF0 (by omega) (by omega)),ZCJ (by rw[yah];omega),ya,yW (ZuM (by omega) (by omega)),yX (by rintro(h|h);exact h1 h;exact h2 h)]
theorem Zs3(r:Zi)(n:Nat):(ZiZ r n).1.length<=n/\(ZiZ r n).2.1.length<=r.1.length:=by
 unfold ZiZ;split
 ·simp
 ·simp;omega
theorem ZJZ{b r:yL yB}{n:Nat}(h:b.length=n):ZiZ (b++r,false) n=(b,(r,false)):=by
 subst h;unfold ZiZ;rw[yX (by simp)];simp
def ZEB(r:Zi):yU×Zi:=(yx (beF (ZiZ r 8).1 (ZiZ r 8).1.length),(ZiZ r 8).2)
theorem ZJ0{l:yL yB}{k:Nat}{d:yB}(hk:k < 8)(hx:l[k]? =some d):(Q3 (yx (beF l k)) 8)|||(yx d.toNat)=yx (beF l (k+1)):=by
 have h1:=ZEA l k;have h2:256 ^ k<=256 ^ 7:=Nat.pow_le_pow_right (by omega) (by omega);have h3:=d.toNat_lt;apply ybz.1;unfold Q3
 rw[UInt64.toNat_or,yaw,yaw,yaw,yaw,yaf (a:=beF l k) (by omega),yaf (a:=d.toNat) (by omega),yaf (a:=beF l k*2 ^ 8) (by omega),beF,hx,
  ybf (beF l k) (2 ^ 8), <-ycy (by omega)]
 simp;omega
theorem ZuN{r:Zi}(h:r.1.length<=2000000):QW yD r=some (ZEB r):=by
 unfold QW ZEB;rw[ZLv (by omega) h,ya];have hl:=Zs3 r 8;rw[show(8:Int).toNat=8 from rfl]
 generalize ZiZ r 8=q at hl;obtain⟨l,s⟩:=q;dsimp only at hl ⊢
 rw[show((0:yU),l,(l.length:Int),(0:Int),s)=(λk:Nat=>(yx (beF l k),l,(l.length:Int),(k:Int),s)) 0 from rfl,
  Zt (x:=(yx (beF l l.length),s)) l.length (λk:Nat=>(yx (beF l k),l,(l.length:Int),(k:Int),s)) ?_ ?_ (by omega),ya]
 ·intro k hk;obtain⟨e,he,_⟩:=Zk hk;unfold QA;dsimp only;rw[yW (ZV hk),Zq he,ya,ZJ0 (by omega) he,Zn (by omega)]
 ·unfold QA;dsimp only;rw[yX (by rw[ZH];decide)]
theorem ZrX(r:Zi):(ZEB r).2.1.length<=r.1.length:=(Zs3 r 8).2
theorem ZuO(x:yU)(r:yL yB):ZEB (Zm5 x.toNat++r,false)=(x,(r,false)):=by
 unfold ZEB;rw[ZJZ (Qq _),Qq];dsimp only;rw[ZFZ _ 8 (by omega) (UInt64.toNat_lt _)];simp
def Vs(b:yL yB):Nat->Nat->Nat->Bool×Nat×Nat
 |0,k,_=>(false,0,k)
 |f+1,k,n=>match b[k]? with
  |none=>(false,0,k)
  |some d=>if 8 < k\/(0 < k/\d.toNat=0) then(false,0,k) else if d.toNat < 128 then(true,n+d.toNat % 128*128 ^ k,k+1) else Vs b f (k+1) (n+d.toNat % 128*128 ^ k)
theorem Zmk{b:yL yB}{f k n:Nat}(h:b.length<=k):Vs b (f+1) k n=(false,0,k):=by
 simp[Vs,List.getElem?_eq_none h]
theorem ZoW{b:yL yB}{f k n:Nat}{d:yB}(hx:b[k]? =some d)(h:8 < k):Vs b (f+1) k n=(false,0,k):=by
 simp[Vs,hx,h]
theorem ZhA{b:yL yB}{f k n:Nat}{d:yB}(hx:b[k]? =some d)(_:¬8 < k)(h:0 < k/\d.toNat=0):Vs b (f+1) k n=(false,0,k):=by
 rw[Vs,hx];exact yW (.inr h)
theorem Zi0{b:yL yB}{f k n:Nat}{d:yB}(hx:b[k]? =some d)(h2:¬8 < k)(h3:¬(0 < k/\d.toNat=0))(h4:d.toNat < 128):Vs b (f+1) k n=(true,n+d.toNat % 128*128 ^ k,k+1):=by
 rw[Vs,hx];show(if 8 < k\/(0 < k/\d.toNat=0) then _ else _)=_
 rw[yX (by rintro(h|h);exact h2 h;exact h3 h),yW h4]
theorem Zi1{b:yL yB}{f k n:Nat}{d:yB}(hx:b[k]? =some d)(h2:¬8 < k)(h3:¬(0 < k/\d.toNat=0))(h4:¬d.toNat < 128):Vs b (f+1) k n=Vs b f (k+1) (n+d.toNat % 128*128 ^ k):=by
 rw[Vs,hx];show(if 8 < k\/(0 < k/\d.toNat=0) then _ else _)=_
 rw[yX (by rintro(h|h);exact h2 h;exact h3 h),yX h4]
theorem ZwV(n k:Nat)(d:yB)(hn:n < 128 ^ k)(hk:k<=8):n+d.toNat % 128*128 ^ k < 9223372036854775808:=by
 have h1:d.toNat % 128*128 ^ k<=127*128 ^ k:=ycc _ (by omega);have h2:128 ^ (k+1)<=128 ^ 9:=Nat.pow_le_pow_right (by omega) (by omega);rw[Nat.pow_succ] at h2;omega
theorem Zs4(n k:Nat)(d:yB)(hn:n < 128 ^ k):n+d.toNat % 128*128 ^ k < 128 ^ (k+1):=by
 have h1:d.toNat % 128*128 ^ k<=127*128 ^ k:=ycc _ (by omega);rw[Nat.pow_succ];omega
theorem ZCK(b:yL yB):∀(f k n:Nat),(Vs b f k n).1=true->(Vs b f k n).2.2<=b.length
 |0,k,n,h=>by simp[Vs] at h
 |f+1,k,n,h=>by
  by_cases h1:b.length<=k
  ·rw[Zmk h1] at h;cases h
  have hx:=yab (Nat.lt_of_not_le h1);by_cases h2:8 < k
  ·rw[ZoW hx h2] at h;cases h
  by_cases h3:0 < k/\b[k].toNat=0
  ·rw[ZhA hx h2 h3] at h;cases h
  by_cases h4:b[k].toNat < 128
  ·rw[Zi0 hx h2 h3 h4];simp;omega
  ·rw[Zi1 hx h2 h3 h4] at h ⊢;exact ZCK b f _ _ h
theorem ZCL(b:yL yB):∀(f k n:Nat),n < 128 ^ k->k<=9->(Vs b f k n).2.1<=9223372036854775807
 |0,k,n,h,_=>by simp[Vs]
 |f+1,k,n,h,hk=>by
  by_cases h1:b.length<=k
  ·rw[Zmk h1];simp
  have hx:=yab (Nat.lt_of_not_le h1);by_cases h2:8 < k
  ·rw[ZoW hx h2];simp
  by_cases h3:0 < k/\b[k].toNat=0
  ·rw[ZhA hx h2 h3];simp
  by_cases h4:b[k].toNat < 128
  ·rw[Zi0 hx h2 h3 h4];have:=ZwV n k b[k] h (by omega);show n+b[k].toNat % 128*128 ^ k<=_;omega
  ·rw[Zi1 hx h2 h3 h4];exact ZCL b f _ _ (Zs4 n k _ h) (by omega)
theorem ZF1{a:yL yB}{k:Nat}{x:yB}{r:yL yB}(h:a.length=k):(a++x::r)[k]? =some x:=by
 rw[yax (by omega),h,Nat.sub_self];rfl
theorem ZrY{n:Nat}(h:n < 256):(yas n).toNat=n:=by simp[yaf h]
theorem ZyN:∀(f n:Nat)(pre yQ:yL yB)(k acc:Nat),pre.length=k->k+(X4 n).length<=9->(X4 n).length<=f->(0 < k->0 < n)->
 Vs (pre++(X4 n++yQ)) f k acc=(true,acc+n*128 ^ k,k+(X4 n).length)
 |0,n,pre,yQ,k,acc,_,_,hf,_=>by
  have:=List.length_pos_iff.2 (ZLt n);omega
 |f+1,n,pre,yQ,k,acc,hp,hk,hf,h0=>by
  by_cases h:n < 128
  ·rw[ZeY h] at hk ⊢;have hx:(pre++([yas n]++yQ))[k]? =some (yas n):=ZF1 hp;have e:(yas n).toNat=n:=ZrY (by omega);simp at hk;rw[Zi0 hx (by omega) (by rw[e];omega) (by rw[e];exact h),e,yaf h];rfl
  ·rw[ZrU h] at hk hf ⊢;have hx:(pre++((yas (n % 128+128)::X4 (n / 128))++yQ))[k]? =some (yas (n % 128+128)):=ZF1 hp;have e:(yas (n % 128+128)).toNat=n % 128+128:=ZrY (by omega);simp only[yai] at hk hf ⊢;rw[Zi1 hx (by omega) (by rw[e];omega) (by rw[e];omega),e];have:=ZyN f (n / 128) (pre++[yas (n % 128+128)]) yQ (k+1) (acc+(n % 128+128) % 128*128 ^ k) (by simp[hp]) (by omega) (by omega) (by omega);rw[yad] at this;simp only[List.cons_append,yw] at this ⊢;rw[this];have e2:n=n % 128+128*(n / 128):=by omega
   have e3:(n % 128+128) % 128=n % 128:=by omega
   rw[e3,Nat.pow_succ];refine Prod.ext rfl (Prod.ext ?_ (by simp;omega));show acc+n % 128*128 ^ k+n / 128*(128 ^ k*128)=acc+n*128 ^ k;rw[show n / 128*(128 ^ k*128)=128*(n / 128)*128 ^ k by rw[ybf (128 ^ k) 128, <-Nat.mul_assoc,ybf (n / 128) 128],Nat.add_assoc, <-Nat.add_mul, <-e2]
def Zgx(r:Zi):Int×Zi:=if(Vs r.1 10 0 0).1=true then(((Vs r.1 10 0 0).2.1:Int),(r.1.drop (Vs r.1 10 0 0).2.2,r.2)) else(0,([],true))
theorem ZjM{z:Int}(h0:0<=z)(hz:z<=9223372036854775807)(yQ:yL yB):Zgx (X4 z.toNat++yQ,false)=(z,(yQ,false)):=by
 obtain⟨n,rfl⟩:=Int.eq_ofNat_of_zero_le h0;have hl:=Z7 (n:=n) (by omega);have:=ZyN 10 n [] yQ 0 0 rfl (by omega) (by omega) (by omega);simp only[yw,ybe,Nat.pow_zero,Nat.mul_one] at this;unfold Zgx;rw[yar];dsimp only;rw[this];simp
theorem Zgb(r:Zi):0<=(Zgx r).1/\(Zgx r).1<=9223372036854775807/\(Zgx r).2.1.length<=r.1.length:=by
 unfold Zgx;split
 ·have:=ZCL r.1 10 0 0 (by omega) (by omega);refine⟨by dsimp only;omega,by dsimp only;omega, ?_⟩;rw[List.length_drop];omega
 ·simp
theorem ZJ1{n k:Nat}{d:yB}(hn:n < 128 ^ k)(hk:k<=8):bits .or .i64 (n:Int) (wi (((d % 128).toNat:Int)*2 ^ (min (wi (7*(k:Int))).toNat 64)))=((n+d.toNat % 128*128 ^ k:Nat):Int):=by
 have e0:(wi (7*(k:Int)))=((7*k:Nat):Int):=by rw[ZG (by omega) (by omega)];omega
 have e1:min ((7*k:Nat):Int).toNat 64=7*k:=by omega
 have e2:128 ^ k=2 ^ (7*k):=by rw[Nat.pow_mul]
 have h1:=ZwV n k d hn hk
 have e3:((d % 128).toNat:Int)*2 ^ (7*k)=((d.toNat % 128*128 ^ k:Nat):Int):=by
  rw[e2,UInt8.toNat_mod]
  push_cast
  rfl
 rw[e0,e1,e3,ZG (by omega) (by omega)];refine Go.Ev.ZuZ (op:=.or) (k:=.i64) ?_ (by omega) ⟨by show-9223372036854775808<=_;omega,by show _<=9223372036854775807;omega⟩ (by omega) ⟨by show-9223372036854775808<=_;omega,by show _<=9223372036854775807;omega⟩ ⟨by show-9223372036854775808<=_;omega,by show _<=9223372036854775807;omega⟩;show some _=some _;congr 1;simp only[yar];rw[e2] at hn ⊢;have:=ycy hn (d.toNat % 128);rw[ybf,Nat.or_comm, <-this];omega
theorem ZrZ{b:yL yB}{no:Bool}{k:Nat}(hb:b.length<=2000000)(h:b.length<=k\/8 < k\/(0 < k/\b[k]? =some 0)):WB yD (k:Int) (b,no)=some (true,(k:Int),(b,no)):=by
 unfold WB;dsimp only;by_cases h1:b.length<=k
 ·rw[yW (yY (by omega))]
 rw[yX (ynd (by omega))];by_cases h2:8 < k
 ·rw[yW (yY (by omega))]
 rw[yX (ynd (by omega))];rcases h with h|h|⟨h,h3⟩
 ·exact absurd h h1
 ·exact absurd h h2
 rw[yW (yY (by omega)),Zq h3,ya];rfl
theorem ZHi{b:yL yB}{no:Bool}{k:Nat}{d:yB}(hb:b.length<=2000000)(hx:b[k]? =some d)(h2:¬8 < k)(h3:¬(0 < k/\d.toNat=0)):WB yD (k:Int) (b,no)=some (false,(k:Int),(b,no)):=by
 unfold WB;have h1:k < b.length:=(yq.1 hx).1;dsimp only;rw[yX (ynd (by omega)),yX (ynd (by omega))];by_cases h4:0 < k
 ·rw[yW (yY (by omega)),Zq hx,ya]
  have:(d==0)=false:=by
   rw[beq_eq_false_iff_ne];intro h;exact h3 ⟨h4,by rw[h];rfl⟩
  rw[this]
 ·rw[yX (ynd (by omega))]
theorem ZCM{b:yL yB}{no:Bool}(hb:b.length<=2000000):∀(f k n m:Nat),k+f=10->f < m->n < 128 ^ k->
 Zb (W7 yD) m ((n:Int),(b,no),(k:Int))=some (if(Vs b f k n).1=true then .inr (((Vs b f k n).2.1:Int),(b,no),((Vs b f k n).2.2:Int)) else .inl ((0:Int),([],true),((Vs b f k n).2.2:Int)))
 |f,k,n,0,_,h,_=>by omega
 |0,k,n,m+1,h,_,_=>by
  unfold Zb W7;dsimp only;rw[ZrZ hb (.inr (.inl (by omega))),ya]
  rfl
 |f+1,k,n,m+1,h,hf,hn=>by
  unfold Zb W7;dsimp only;by_cases h1:b.length<=k
  ·rw[Zmk h1,ZrZ hb (.inl h1),ya];rfl
  obtain⟨d,hx,_⟩:=Zk (l:=b) (k:=k) (by omega);by_cases h2:8 < k
  ·rw[ZoW hx h2,ZrZ hb (.inr (.inl h2)),ya];rfl
  by_cases h3:0 < k/\d.toNat=0
  ·rw[ZhA hx h2 h3,ZrZ hb (.inr (.inr ⟨h3.1,by rw[hx,show d=0 from UInt8.toNat_inj.1 h3.2]⟩)),ya]
   rfl
  rw[ZHi hb hx h2 h3,ya];dsimp only
  rw[yX (by decide),Zq hx,ya,ZJ1 hn (by omega),
   yW (yY (by rw[ZG (by omega) (by omega)];omega)),Zn (by omega)]
  have hlt:decide (d < 128)=decide (d.toNat < 128):=by
   rw[Bool.eq_iff_iff,yN,yN,UInt8.lt_iff_toNat_lt];rfl
  rw[hlt];by_cases h4:d.toNat < 128
  ·rw[Zi0 hx h2 h3 h4,yW (yY h4)];rfl
  ·rw[Zi1 hx h2 h3 h4,yX (by rw[yN];exact h4)];exact ZCM hb f (k+1) _ m (by omega) (by omega) (Zs4 n k d hn)
theorem Zml{r:Zi}(h:r.1.length<=2000000):WC yD r=some (Zgx r):=by
 obtain⟨b,no⟩:=r;unfold WC Zgx;dsimp only at h ⊢;have:=ZCM (no:=no) h 10 0 0 yD (by omega) (by rw[Zdf];omega) (by omega);rw[show((0:Nat):Int)=0 from rfl] at this
 rw[this,ya];by_cases hg:(Vs b 10 0 0).1=true
 ·have hl:=ZCK b 10 0 0 hg;rw[yW hg,yW hg];dsimp only;rw[yW (ZuM (by omega) (by omega)),yar]
 ·rw[yX hg,yX hg]
theorem ZF2{b:yL yB}(h:b.length<=2000000):ZlJ yD b=some (b,false):=by
 unfold ZlJ;rw[ZCJ (by omega),ya]
theorem ZHj{l:yL yU}(hl:l.length<=9223372036854775807):∃b,ZaC yD l=some b/\(b=false->∀p,p∈l->Qu p.toNat):=by
 unfold ZaC ZaO
 obtain⟨x,h1,h2⟩:=Ym (step:=Y7 yD) l.length (λk s=>s=(l,(l.length:Int),(k:Int))/\∀j p,j < k->l[j]? =some p->Qu p.toNat) (λx=>(∃k:Nat,x=.inl (k:Int))\/x=.inr ()/\∀p,p∈l->Qu p.toNat) (i:=(l,(l.length:Int),(0:Int))) ⟨rfl,λj p hj=>by omega⟩ (by omega) (by
  rintro k _ hk ⟨rfl,hj⟩;obtain⟨e,he,_⟩:=Zk hk;unfold Y7;dsimp only;rw[yW (ZV hk),Zq he,ya,ZEw,ya,Zn (by omega)];by_cases hp:Qu e.toNat
  ·rw[yY hp];left;refine⟨_,rfl,rfl,λj p h3 h4=> ?_⟩;by_cases h5:j < k
   ·exact hj j p h5 h4
   ·have:j=k:=by omega
    subst this;rw[he] at h4;cases h4;exact hp
  ·rw[yZ hp];right;exact⟨_,rfl,.inl ⟨k,rfl⟩⟩) (by
  rintro _ ⟨rfl,hj⟩;unfold Y7;dsimp only;rw[yX (by rw[ZH];decide)];refine⟨_,rfl,.inr ⟨rfl,λp hp=> ?_⟩⟩;obtain⟨j,hj1,hj2⟩:=ycw hp;exact hj j p hj1 (by rw[yab hj1,hj2]))
 rw[h1,ya];rcases h2 with⟨k,rfl⟩|⟨rfl,h2⟩
 ·dsimp only;rw[ya];refine⟨_,rfl,λh=> ?_⟩;exact absurd (of_decide_eq_false h) (by omega)
 ·exact⟨_,rfl,λ_=>h2⟩
def Ze0(l:yG):Prop:=l.length<=9223372036854775807/\∀b,b∈l->b.1.length<=9223372036854775807
theorem Zt3(z:Int):∃b,Zab yD z=some b/\(b=true->0<=z/\z<=1048576):=by
 unfold Zab;by_cases h:z >= 0
 ·rw[yW (yY h)];exact⟨_,rfl,λh2=>⟨h,yF h2⟩⟩
 ·rw[yX (by rw[yN];exact h)];exact⟨_,rfl,λh2=>by cases h2⟩
theorem ZdY{l:yG}(hl:Ze0 l):∃b,XV yD l=some b/\(b=true↔LockOk l/\LockPt l):=by
 have key:∃b,XV yD l=some b/\(b=true->LockOk l/\LockPt l):=by
  unfold XV;obtain⟨h0,h1⟩:=hl
  obtain⟨x,hx,hp⟩:=Ym (step:=VE yD) l.length (λk s=>s=(l,(l.length:Int),(k:Int),l)/\∀j b,j < k->l[j]? =some b->ZAA b/\ZAB b)
   (λx=>x=.inl (false,l)\/(x=.inr l/\∀b,b∈l->ZAA b/\ZAB b)) (i:=(l,(l.length:Int),(0:Int),l)) ⟨rfl,λj b hj=>by omega⟩ (by omega) (by
   rintro k _ hk ⟨rfl,hj⟩;obtain⟨e,he,hm⟩:=Zk hk
   have hnext:(ZAA e/\ZAB e)->∀j b,j < k+1->l[j]? =some b->ZAA b/\ZAB b:=by
    intro hE j b h2 h3;by_cases h4:j < k
    ·exact hj j b h4 h3
    ·have:j=k:=by omega
     subst this;rw[he] at h3;cases h3;exact hE
   unfold VE;dsimp only;rw[yW (ZV hk),Zq he,ya];by_cases k1:(e.1.length:Int) > 12
   ·right;rw[yW (yY k1)];exact⟨_,rfl,.inl rfl⟩
   rw[yX (by rw[yN];exact k1)];obtain⟨b,hb,hbp⟩:=ZHj (h1 e hm);rw[hb,ya]
   cases b with
   |true=>right;exact⟨_,rfl,.inl rfl⟩
   |false=>
    obtain⟨c,hc,hc2⟩:=Zt3 e.2.1;obtain⟨d,hd,hd2⟩:=Zt3 e.2.2.1;rw[yX (by decide),hc,ya,hd,ya]
    cases c with
    |false=>right;exact⟨_,rfl,.inl rfl⟩
    |true=>
     cases d with
     |false=>right;exact⟨_,rfl,.inl rfl⟩
     |true=>
      have hn:=λhz:e.2.2.2≠0->Qu e.2.2.2.toNat=>hnext ⟨⟨by omega,(hc2 rfl).1,(hc2 rfl).2,(hd2 rfl).1,(hd2 rfl).2⟩,hbp rfl,hz⟩;rw[yX (by decide),yX (by decide),Zn (by omega)];by_cases hz:e.2.2.2=0
      ·rw[yX (by rw[hz];decide)];left;exact⟨_,rfl,rfl,hn λh=>absurd hz h⟩
      ·rw[yW (by simp[hz]),ZEw,ya];by_cases hpt:Qu e.2.2.2.toNat
       ·rw[yY hpt];left;exact⟨_,rfl,rfl,hn λ_=>hpt⟩
       ·rw[yZ hpt];right;exact⟨_,rfl,.inl rfl⟩) (by
   rintro _ ⟨rfl,hj⟩;unfold VE;dsimp only;rw[yX (by rw[ZH];decide)];refine⟨_,rfl,.inr ⟨rfl,λb hb=> ?_⟩⟩;obtain⟨j,hj1,hj2⟩:=ycw hb;exact hj j b hj1 (by rw[yab hj1,hj2]))
  rw[hx,ya];rcases hp with rfl|⟨rfl,hp⟩
  ·exact⟨_,rfl,λh=>by cases h⟩
  ·dsimp only;by_cases h2:(l.length:Int) > 0
   ·rw[yW (yY h2)];refine⟨_,rfl,λh3=>⟨⟨by omega, ?_,λb hb=>(hp b hb).1⟩,λb hb=>(hp b hb).2⟩⟩;have:=yF h3;omega
   ·rw[yX (by rw[yN];exact h2)];exact⟨_,rfl,λh=>by cases h⟩
 obtain⟨b,h1,h2⟩:=key;refine⟨b,h1,h2,λh=> ?_⟩;rw[VK h.1 h.2] at h1;exact(Option.some.inj h1).symm
theorem ZAE{α:Type}{l:yL α}{k:Nat}{e:α}(h:l[k]? =some e):l.drop k=e::l.drop (k+1):=by
 obtain⟨h1,h2⟩:=yq.1 h;rw[List.drop_eq_getElem_cons h1,h2]
theorem Zr0{α:Type}{f:α->yL yB}{l:yL α}{k:Nat}{e:α}(h:l[k]? =some e):cat f (l.drop k)=f e++cat f (l.drop (k+1)):=by
 rw[ZAE h,ZCC]
theorem ZbO{α:Type}{f:α->yL yB}{c n:Nat}{l:yL α}(h:∀x,x∈l->(f x).length<=c)(hn:l.length<=n)(k:Nat):(cat f (l.drop k)).length<=n*c:=by
 refine ybm (ZAC λx hx=>h x (List.mem_of_mem_drop hx)) (ycc c ?_);rw[List.length_drop];omega
theorem ZHk{a b:yL yB}(h:a.length<=2000000):∃r,Yo yD a b=some r:=by
 unfold Yo;by_cases hl:a.length=b.length
 ·rw[yX (by simp[hl])]
  obtain⟨x,h1,_⟩:=Ym (step:=ZT yD) a.length (λk s=>s=(a,b,(a.length:Int),(k:Int))) (λ_=>True) (i:=(a,b,(a.length:Int),(0:Int))) rfl (by omega) (by
   rintro k _ hk rfl;obtain⟨e,he,_⟩:=Zk hk;obtain⟨f,hf,_⟩:=Zk (l:=b) (k:=k) (by omega);unfold ZT;dsimp only;rw[yW (ZV hk),Zq he,ya,Zq hf,ya,Zn (by omega)];split
   ·right;exact⟨_,rfl,ytt⟩
   ·left;exact⟨_,rfl,rfl⟩) (by
   rintro _ rfl;unfold ZT;dsimp only;rw[yX (by rw[ZH];decide)];exact⟨_,rfl,ytt⟩)
  rw[h1,ya]
  cases x with
  |inl y=>exact⟨_,rfl⟩
  |inr y=>exact⟨_,rfl⟩
 ·rw[yW (by simp;omega)];exact⟨_,rfl⟩
theorem ZwW{a:yL yB}(h:a.length<=2000000):Yo yD a a=some true:=by
 unfold Yo;rw[yX (by simp),show(a,a,(a.length:Int),(0:Int))=(λk:Nat=>(a,a,(a.length:Int),(k:Int))) 0 from rfl,Zt (x:=.inr ()) a.length (λk:Nat=>(a,a,(a.length:Int),(k:Int))) ?_ ?_ (by omega),ya]
 ·intro k hk;obtain⟨e,he,_⟩:=Zk hk;unfold ZT;dsimp only;rw[yW (ZV hk),Zq he,ya,ya,Zn (by omega),yX (by simp)]
 ·unfold ZT;dsimp only;rw[yX (by rw[ZH];decide)]
theorem ZHl{b:yL yB}{n i:Int}{l:yG}{yQ:yL yB}{acc:yL ZC}{i1 i2:Int}{u:yU}{ks:yL yU}(hk:ks.length<=12)(hr:yQ.length<=100000):
 Zb (WK yD) yD (b,n,i,(ks.length:Int),(0:Int),l,(cat Zkq ks++yQ,false),acc,i1,i2,u,([]:yL yU))=some (b,n,i,l,(yQ,false),acc,i1,i2,u,ks):=by
 refine Zt ks.length (λk:Nat=>(b,n,i,(ks.length:Int),(k:Int),l,(cat Zkq (ks.drop k)++yQ,false),acc,i1,i2,u,ks.take k)) ?_ ?_ (by omega)
 ·intro k hk2;obtain⟨e,he,_⟩:=Zk hk2;have hl:=ZbO (f:=Zkq) (c:=8) (λx _=>Nat.le_of_eq (Qq _)) hk k;unfold WK;dsimp only;rw[yW (ZV hk2),ZuN (by dsimp only;rw[yl];omega),ya,Zr0 he,yad];unfold Zkq;rw[ZuO,yW (ZD (by rw[yah];omega) (by rw[yah];omega)),Zn (by omega),ZdM he]
 ·unfold WK;dsimp only;rw[yX (by rw[ZH];decide),List.drop_length,yat];rfl
theorem ZyO{l:yG}(h:LockOk l)(hp:LockPt l):W6 yD (XQ l)=some (l,true):=by
 have zY:=Q1 h;unfold W6;rw[ZF2 (by omega),ya,Zml (by dsimp only;omega),ya];have h0:=h.2.1
 have e0:Zgx (XQ l,false)=((l.length:Int),(cat brF l,false)):=by
  have:=ZjM (z:=(l.length:Int)) (by omega) (by omega) (cat brF l);rw[yar] at this;exact this
 have hbl:∀k,(cat brF (l.drop k)).length<=4*131:=ZbO (λx hx=>ZrV (h.2.2 x hx)) h0;rw[e0];dsimp only;generalize hb:XQ l=b at zY
 rw[show(b,(l.length:Int),(0:Int),([]:yG),(cat brF l,false),([]:yL ZC))=(λk:Nat=>(b,(l.length:Int),(k:Int),([]:yG),(cat brF (l.drop k),false),l.take k)) 0 from rfl,
  Zt (x:=(b,([]:yG),(([]:yL yB),false),l)) l.length (λk:Nat=>(b,(l.length:Int),(k:Int),([]:yG),(cat brF (l.drop k),false),l.take k)) ?_ ?_ (by omega),ya]
 ·dsimp only;rw[VK h hp,ya,yX (by decide),ZeZ h hp,ya,hb,ZwW (by omega),ya];rfl
 ·intro k hk;obtain⟨e,he,hm⟩:=Zk hk;obtain⟨e1,e2,e3,e4,e5⟩:=h.2.2 e hm;have hl:=hbl k;have hl2:=hbl (k+1);have r2:=Z7 (n:=e.2.1.toNat) (by omega);have r3:=Z7 (n:=e.2.2.1.toNat) (by omega);have r4:=Qq e.2.2.2.toNat
  have hks:=ZbO (f:=Zkq) (c:=8) (l:=e.1) (λx _=>Nat.le_of_eq (Qq _)) e1 0;rw[List.drop_zero] at hks;unfold Qv;dsimp only;rw[yW (ZV hk),Zml (by dsimp only;omega),ya,yX (by rw[yT];omega),Zr0 he];unfold brF;simp only[yad];have q1:=ZjM (z:=(e.1.length:Int)) (by omega) (by omega) (cat Zkq e.1++(X4 e.2.1.toNat++(X4 e.2.2.1.toNat++(Zm5 e.2.2.2.toNat++cat brF (l.drop (k+1))))));rw[yar] at q1;unfold brF at q1 hl2;rw[q1];dsimp only;rw[yX (ynd (by omega)),ZHl e1 (by simp only[yl];omega),ya];dsimp only;rw[Zml (by simp only[yl];omega),ya,ZjM e2 (by omega)];dsimp only;rw[Zml (by simp only[yl];omega),ya,ZjM e4 (by omega)];dsimp only;rw[ZuN (by simp only[yl];omega),ya,ZuO,yW (ZD (by rw[yah];omega) (by rw[yah];omega)),Zn (by omega),ZdM he]
 ·unfold Qv;dsimp only;rw[yX (by rw[ZH];decide),List.drop_length,yat];rfl
def amt(l:yL Out)(p:Nat):Int:=((l[p]?).map (·.1)).getD 0
theorem ZF3{l:yL Out}{p:Nat}{e:Out}(h:l[p]? =some e):amt l p=e.1:=by
 unfold amt;rw[h];rfl
theorem ZF4{l:yL Out}{j p:Nat}{x:Out}(h:j < l.length):amt (l.set j x) p=if p=j then x.1 else amt l p:=by
 unfold amt;by_cases hp:p=j
 ·subst hp;rw[List.getElem?_set_self h,yW rfl];rfl
 ·rw[List.getElem?_set_ne (Ne.symm hp),yX hp]
def Zt4(l:yL Out):Prop:=∀o,o∈l->0<=o.1/\o.1<=1152921504606846976
theorem ZLw{a b:Out}(ha:0<=a.1/\a.1<=1152921504606846976)(hb:0<=b.1/\b.1<=1152921504606846976):∃z,Zat yD a b=some z/\(z < 0->a.1<=b.1)/\(¬z < 0->b.1<=a.1):=by
 unfold Zat
 rw[ZG (by omega) (by omega)];exact⟨_,rfl,λ_=>by omega,λ_=>by omega⟩
def But(l:yL Out)(i j:Nat):Prop:=∀p q,p < q->q<=i->q≠j->amt l p<=amt l q
theorem ZF5(n:Int)(i:Nat):∀(j f:Nat)(u:yL Unit)(l:yL Out),j < f->j<=i->i < l.length->l.length<=20->Zt4 l->But l i j->
 ∃r,Zb (XI yD) f ((0:Int),n,(i:Int),(j:Int),u,l)=some ((0:Int),n,(i:Int),u,r)/\r.Perm l/\∀p q,p < q->q<=i->amt r p<=amt r q
 |0,f,u,l,hf,hj,hi,hl,hA,hb=>by
  obtain⟨f,rfl⟩:=Nat.exists_eq_succ_of_ne_zero (n:=f) (by omega)
  have e:XI yD ((0:Int),n,(i:Int),((0:Nat):Int),u,l)=some (.inr ((0:Int),n,(i:Int),u,l)):=by
   unfold XI;dsimp only;rw[yX (ynd (by omega))]
  unfold Zb;rw[e,ya]
  exact⟨_,rfl,List.Perm.refl _,λp q h1 h2=>hb p q h1 h2 (by omega)⟩
 |j+1,f,u,l,hf,hj,hi,hl,hA,hb=>by
  obtain⟨f,rfl⟩:=Nat.exists_eq_succ_of_ne_zero (n:=f) (by omega);obtain⟨x,hx,xm⟩:=Zk (l:=l) (k:=j+1) (by omega);obtain⟨y,hy,ym⟩:=Zk (l:=l) (k:=j) (by omega);obtain⟨z,hz,z1,z2⟩:=ZLw (hA x xm) (hA y ym);have ax:=ZF3 hx;have ay:=ZF3 hy;have e1:wi (((j+1:Nat):Int) - 1)=(j:Int):=by rw[ZG (by omega) (by omega)];omega
  have hset:(l.set (j+1) y).length=l.length:=List.length_set;obtain⟨w,hw,_⟩:=Zk (l:=l.set (j+1) y) (k:=j) (by omega)
  have hstep:XI yD ((0:Int),n,(i:Int),((j+1:Nat):Int),u,l)=if z < 0 then some (.inl ((0:Int),n,(i:Int),(j:Int),u,(l.set (j+1) y).set j x)) else some (.inr ((0:Int),n,(i:Int),u,l)):=by
   unfold XI;dsimp only;rw[yW (yY (by omega)),e1,yW (Yz (by omega) (by omega)),yar,yar,hx,ya,yW (Yz (by omega) (by omega)),hy,ya,hz,ya];by_cases h0:z < 0
   ·rw[yW (yY h0),yW (Yz (by omega) (by omega)),ya,yW (Yz (by omega) (by omega)),ya,yW (Yz (by omega) (by omega)),ya,yW (Yz (by omega) (by omega)),hw,ya,yW h0]
   ·rw[yX (by rw[yN];exact h0),yX h0]
  unfold Zb;rw[hstep];by_cases h0:z < 0
  ·rw[yW h0,ya]
   have hp:((l.set (j+1) y).set j x).Perm l:=by
    have h:=@List.set_set_perm _ l (j+1) j (by omega) (by omega);rw[(yq.1 hx).2,(yq.1 hy).2] at h;exact h
   have ha:∀p,amt ((l.set (j+1) y).set j x) p=if p=j then x.1 else if p=j+1 then y.1 else amt l p:=by
    intro p;rw[ZF4 (by omega),ZF4 (by omega)]
   obtain⟨r,r1,r2,r3⟩:=ZF5 n i j f u ((l.set (j+1) y).set j x) (by omega) (by omega) (by simp;omega) (by simp;omega) (λo ho=>hA o (hp.mem_iff.1 ho)) (by
    intro p q h1 h2 h3;rw[ha,ha,yX h3];have hz1:=z1 h0;by_cases k1:q=j+1
    ·subst k1;rw[yW rfl];by_cases k2:p=j
     ·rw[yW k2];exact hz1
     ·rw[yX k2,yX (by omega), <-ay];exact hb p j (by omega) (by omega) (by omega)
    ·rw[yX k1];by_cases k2:p=j
     ·rw[yW k2, <-ax];exact hb (j+1) q (by omega) h2 k1
     ·rw[yX k2];by_cases k3:p=j+1
      ·rw[yW k3, <-ay];exact hb j q (by omega) h2 k1
      ·rw[yX k3];exact hb p q h1 h2 k1)
   exact⟨r,r1,r2.trans hp,r3⟩
  ·rw[yX h0,ya];refine⟨_,rfl,List.Perm.refl _, ?_⟩;intro p q h1 h2;by_cases k1:q=j+1
   ·subst k1;have h3:=z2 h0;by_cases k2:p=j
    ·rw[k2,ax,ay];exact h3
    ·have:=hb p j (by omega) (by omega) (by omega);omega
   ·exact hb p q h1 h2 k1
theorem ZJ2(u:yL Unit)(l:yL Out)(hl:l.length<=20)(hA:Zt4 l):∃r,Vf yD (0:Int) (l.length:Int) u l=some (u,r)/\r.Perm l/\∀p q,p < q->q < l.length->amt r p<=amt r q:=by
 unfold Vf;rw[show wi ((0:Int)+1)=1 from rfl]
 obtain⟨x,g1,r,rfl,g2,g3⟩:=Ym (step:=YN yD) (l.length - 1) (λk s=>∃r,s=((0:Int),(l.length:Int),((k+1:Nat):Int),u,r)/\r.Perm l/\∀p q,p < q->q < k+1->amt r p<=amt r q) (λx=>∃r,x=(u,r)/\r.Perm l/\∀p q,p < q->q < l.length->amt r p<=amt r q)
  (i:=((0:Int),(l.length:Int),(1:Int),u,l)) ⟨_,rfl,List.Perm.refl _,λp q h1 h2=>by omega⟩ (by omega) (by
  rintro k _ hk ⟨r,rfl,hp,hs⟩;left;have hrl:=hp.length_eq;obtain⟨t,t1,t2,t3⟩:=ZF5 (l.length:Int) (k+1) (k+1) yD u r (by rw[Zdf];omega) (by omega) (by omega) (by omega) (λo ho=>hA o (hp.mem_iff.1 ho)) (λp q h1 h2 h3=>hs p q h1 (by omega));unfold YN;dsimp only;rw[yW (yY (by omega)),t1,ya];dsimp only;rw[Zn (by omega)];exact⟨_,rfl,_,rfl,t2.trans hp,λp q h1 h2=>t3 p q h1 (by omega)⟩) (by
  rintro _ ⟨r,rfl,hp,hs⟩;unfold YN;dsimp only;rw[yX (ynd (by omega))];exact⟨_,rfl,_,rfl,hp,λp q h1 h2=>hs p q h1 (by omega)⟩)
 rw[g1,ya];exact⟨_,rfl,g2,g3⟩
theorem ZHm(u:yL Unit)(l:yL Out){a b:Int}(h:b<=a)(h0:0<=a)(h1:a<=100):Vf yD a b u l=some (u,l):=by
 unfold Vf;rw[ZG (z:=a+1) (by omega) (by omega)]
 have e:Zb (YN yD) yD (a,b,a+1,u,l)=some (u,l):=by
  refine Zt 0 (λk:Nat=>(a,b,a+1,u,l)) (λk hk=>by omega) ?_ (by omega);unfold YN;dsimp only;rw[yX (ynd (by omega))]
 rw[e,ya]
theorem ZAF(u:yL Unit)(l:yL Out)(hl:l.length<=20)(hA:Zt4 l):∃r,Zip yD u l=some (u,r)/\r.Perm l/\∀p q,p < q->q < l.length->amt r p<=amt r q:=by
 obtain⟨r,r1,r2,r3⟩:=ZJ2 u l hl hA;have hrl:=r2.length_eq
 have fin:∀(a:Int)(b:Int),Zb (V4 yD) yD ((l.length:Int),(20:Int),u,r)=some (u,r):=by
  intro _ _;refine Zt 0 (λk:Nat=>((l.length:Int),(20:Int),u,r)) (λk hk=>by omega) ?_ (by omega);unfold V4;dsimp only;rw[yX (ynd (by omega))]
 unfold Zip Zhm;by_cases h20:l.length=20
 ·have e:Zb (XJ yD) yD ((l.length:Int),(20:Int),(0:Int),(20:Int),u,l)=some ((l.length:Int),(20:Int),(20:Int),u,r):=by
   refine Zt 1 (λk:Nat=>if k=0 then((l.length:Int),(20:Int),(0:Int),(20:Int),u,l) else((l.length:Int),(20:Int),(20:Int),(40:Int),u,r)) ?_ ?_ (by omega)
   ·intro k hk;have:k=0:=by omega
    subst this;rw[yW rfl,yX (by omega)];unfold XJ;dsimp only;rw[h20] at r1;rw[yW (yY (by omega))];rw[show((20:Nat):Int)=20 from rfl] at r1
    rw[r1,ya];dsimp only;rw[yW (by simp[hrl])];rfl
   ·rw[yX (by omega)];unfold XJ;dsimp only;rw[yX (ynd (by omega))]
  rw[e,ya];dsimp only;rw[ZHm u r (by omega) (by omega) (by omega),ya];dsimp only;rw[fin 0 0,ya,ya];exact⟨r,rfl,r2,r3⟩
 ·have e:Zb (XJ yD) yD ((l.length:Int),(20:Int),(0:Int),(20:Int),u,l)=some ((l.length:Int),(20:Int),(0:Int),u,l):=by
   refine Zt 0 (λk:Nat=>((l.length:Int),(20:Int),(0:Int),(20:Int),u,l)) (λk hk=>by omega) ?_ (by omega);unfold XJ;dsimp only;rw[yX (ynd (by omega))]
  rw[e,ya];dsimp only;rw[r1,ya];dsimp only;rw[fin 0 0,ya,ya];exact⟨r,rfl,r2,r3⟩
theorem ZAG{l:yG}(h:LockOk l)(hp:LockPt l):Qw yD l=some l:=by
 unfold Qw;rw[ZeZ h hp,ya,ZyO h hp,ya]
def ZdZ(op h0 h1 fee i:Int):Int:=if i=op then hav i h0 h1 - fee else hav i h0 h1
def ZqE(l0 l1:yG)(i:Int):yG:=if i=0 then l0 else l1
def Zos(op h0 h1 fee:Int)(l0 l1:yG)(i:Int):yL Out:=if ZdZ op h0 h1 fee i >= 100 then[(ZdZ op h0 h1 fee i,ZqE l0 l1 i)] else[]
theorem ZCN(d z:Int):ZbI yD (Tm d) z=some (decide (z >= 100)):=rfl
theorem ZoX{A:Int}{k0 k1:Kit}{op:Int}{s:yH}{h0 h1 fee:Int}{l0 l1:yG}(i:Int)(hi:i=0\/i=1)(hb0:0<=h0/\h0<=5000000000)(hb1:0<=h1/\h1<=5000000000)(hf:0<=fee/\fee<=5000000000)
 (k0':LockOk l0/\LockPt l0) (k1':LockOk l1/\LockPt l1) (t:Tx) (ins:yL In) (note:Int) (u:yL Unit) (acc:yL Out) (ha:acc.length<=5):
 ∃u',Vv yD (fee,[h0,h1],i,Zo A k0 k1 op,s,[l0,l1],t,ins,note,u,acc)=some (.inl (fee,[h0,h1],i+1,Zo A k0 k1 op,s,[l0,l1],t,ins,note,u',acc++Zos op h0 h1 fee l0 l1 i)):=by
 have hT:(Zo A k0 k1 op).2.2.2.1=[Tm 5,Tm 6]:=rfl;have hO:(Zo A k0 k1 op).2.2.2.2=op:=rfl;have hidx:idx ([h0,h1]:yL Int) i=some (hav i h0 h1):=by rcases hi with rfl|rfl <;> rfl
 have hlk:([l0,l1]:yL yG)[i.toNat]? =some (ZqE l0 l1 i):=by rcases hi with rfl|rfl <;> rfl
 have hk:Qw yD (ZqE l0 l1 i)=some (ZqE l0 l1 i):=by
  rcases hi with rfl|rfl
  ·exact ZAG k0'.1 k0'.2
  ·exact ZAG k1'.1 k1'.2
 have hh:0<=hav i h0 h1/\hav i h0 h1<=5000000000:=by
  unfold hav;split <;> omega
 have hw:wi (i+1)=i+1:=by rcases hi with rfl|rfl <;> rfl
 unfold Vv;dsimp only;rw[yW (by rcases hi with rfl|rfl <;> rfl),hidx,ya,hO,hT];unfold Zos ZdZ;generalize hx:hav i h0 h1=x at hh;by_cases he:i=op
 ·rw[yW (by rw[he];exact beq_self_eq_true _),ZG (z:=x - fee) (by omega) (by omega)];simp only[yau,yaq,ya,ZCN,yW he];by_cases hs:x - fee >= 100
  ·simp only[yY hs,if_true,yW (Ys hi),hlk,ya,hk,yW hs,hw];rw[yW (ZD (by omega) (by omega))];exact⟨_,rfl⟩
  ·simp only[yZ hs,Bool.false_eq_true,if_false,yX hs,ybd,hw];exact⟨_,rfl⟩
 ·rw[yX (by rw[yT];exact he)];simp only[yau,yaq,ya,ZCN,yX he];by_cases hs:x >= 100
  ·simp only[yY hs,if_true,yW (Ys hi),hlk,ya,hk,yW hs,hw];rw[yW (ZD (by omega) (by omega))];exact⟨_,rfl⟩
  ·simp only[yZ hs,Bool.false_eq_true,if_false,yX hs,ybd,hw];exact⟨_,rfl⟩
def outs0(op h0 h1 fee:Int)(l0 l1:yG):yL Out:=Zos op h0 h1 fee l0 l1 0++Zos op h0 h1 fee l0 l1 1
theorem Zr1(op h0 h1 fee:Int)(l0 l1:yG)(i:Int):(Zos op h0 h1 fee l0 l1 i).length<=1:=by
 unfold Zos;split <;> simp
theorem Zs5(op h0 h1 fee:Int)(l0 l1:yG):(outs0 op h0 h1 fee l0 l1).length<=2:=by
 unfold outs0;have:=Zr1 op h0 h1 fee l0 l1 0;have:=Zr1 op h0 h1 fee l0 l1 1;rw[yl];omega
theorem ZqF{A:Int}{k0 k1:Kit}{op:Int}(h:ChOk A k0 k1 op){s:yH}{h0 h1:Int}(hs:StIn A s h0 h1)(hc:hav op h0 h1 >= cost s.2.2.2 s.2.2.1.length):Zdm yD (Zo A k0 k1 op) s=some (decide (s.2.2.1=[])):=by
 unfold Zdm
 cases hl:s.2.2.1 with
 |nil=>
  rw[yW (by rfl),ZNJ h hs,ya,yY hc]
  rfl
 |cons a b=>
  rw[yX (by rw[yT,yai];omega)];rfl
theorem ZuP{A:Int}{k0 k1:Kit}{op:Int}(ho:op=0\/op=1){s:yH}{h0 h1:Int}(hv:s.2.1=[h0,h1])(fee:Int):XD yD (Zo A k0 k1 op) s op fee=some (decide (52<=fee/\fee<=hav op h0 h1)):=by
 have hO:(Zo A k0 k1 op).2.2.2.2=op:=rfl;unfold XD;rw[hO,yX (by simp),hv,Zfm ho,yW (Ys ho)];by_cases h:fee >= 52
 ·rw[yW (yY h),ya];simp[h]
 ·rw[yX (by rw[yN];exact h),yZ (by omega)]
theorem ZLx{A:Int}{k0 k1:Kit}{op i:Int}(hi:i≠op)(s:yH)(fee:Int):XD yD (Zo A k0 k1 op) s i fee=some (fee==0):=by
 have hO:(Zo A k0 k1 op).2.2.2.2=op:=rfl;unfold XD;rw[hO,yW (by simpa using hi)]
structure Mk(op h0 h1 fee:Int)(l0 l1:yG)(r:List Out):Prop where
 pm:r.Perm (outs0 op h0 h1 fee l0 l1)
 srt:∀p q,p < q->q < r.length->amt r p<=amt r q
theorem ZLy{A:Int}{k0 k1:Kit}{op:Int}(h:ChOk A k0 k1 op){s:yH}{h0 h1 fee:Int}{l0 l1:yG}(hs:StIn A s h0 h1)(hc:hav op h0 h1 >= cost s.2.2.2 s.2.2.1.length)(hn:s.2.2.1=[])
 (g0:LockOk l0/\LockPt l0) (g1:LockOk l1/\LockPt l1) (f0:52<=fee) (f1:fee<=hav op h0 h1):
 ∃r,Yt yD (Zo A k0 k1 op) s [l0,l1] fee=some (([((z32,0),(0,[],0))],r,2097154),0)/\Mk op h0 h1 fee l0 l1 r:=by
 have hA:=h.hi;have ht:=hs.tot;rw[hn] at ht;have h0n:amtC ([]:yL Cond)=0:=rfl;have p0:=hs.p0;have p1:=hs.p1
 have hh:hav op h0 h1<=4300000000:=by
  unfold hav;split <;> omega
 have hO:(Zo A k0 k1 op).2.2.2.2=op:=rfl;unfold Yt;rw[ZqF h hs hc,ya,yX (by rw[hn];decide),yau,ya,VK g0.1 g0.2,ya,yX (by decide)];rw[yaq,yau,ya,VK g1.1 g1.2,ya,yX (by decide),hO,ZuP h.o hs.hv,ya,yX (by simp[f0,f1]),hs.hv];obtain⟨u1,e1⟩:=ZoX (A:=A) (k0:=k0) (k1:=k1) (op:=op) (s:=s) (h0:=h0) (h1:=h1) (fee:=fee) (l0:=l0) (l1:=l1) 0 (.inl rfl) (by omega) (by omega) (by omega) g0 g1 (([]:yL In),([]:yL Out),(0:Int)) ([((Zo A k0 k1 op).1,(0,[],0))]:yL In) 2097154 [] [] (by simp);obtain⟨u2,e2⟩:=ZoX (A:=A) (k0:=k0) (k1:=k1) (op:=op) (s:=s) (h0:=h0) (h1:=h1) (fee:=fee) (l0:=l0) (l1:=l1) 1 (.inr rfl) (by omega) (by omega) (by omega) g0 g1 (([]:yL In),([]:yL Out),(0:Int)) ([((Zo A k0 k1 op).1,(0,[],0))]:yL In) 2097154 u1 ([]++Zos op h0 h1 fee l0 l1 0) (by have:=Zr1 op h0 h1 fee l0 l1 0;simp;omega)
 rw[show(fee,[h0,h1],(0:Int),Zo A k0 k1 op,s,[l0,l1],(([]:yL In),([]:yL Out),(0:Int)),([((Zo A k0 k1 op).1,(0,[],0))]:yL In),(2097154:Int),([]:yL Unit),([]:yL Out))=(λk:Nat=>(fee,[h0,h1],(k:Int),Zo A k0 k1 op,s,[l0,l1],(([]:yL In),([]:yL Out),(0:Int)),([((Zo A k0 k1 op).1,(0,[],0))]:yL In),(2097154:Int),(if k=0 then[] else if k=1 then u1 else u2),(if k=0 then[] else if k=1 then Zos op h0 h1 fee l0 l1 0 else outs0 op h0 h1 fee l0 l1))) 0 from rfl,
  Zt (x:=(Zo A k0 k1 op,s,[l0,l1],(([]:yL In),([]:yL Out),(0:Int)),([((Zo A k0 k1 op).1,(0,[],0))]:yL In),(2097154:Int),u2,outs0 op h0 h1 fee l0 l1)) 2 (λk:Nat=>(fee,[h0,h1],(k:Int),Zo A k0 k1 op,s,[l0,l1],(([]:yL In),([]:yL Out),(0:Int)),([((Zo A k0 k1 op).1,(0,[],0))]:yL In),(2097154:Int),(if k=0 then[] else if k=1 then u1 else u2),(if k=0 then[] else if k=1 then Zos op h0 h1 fee l0 l1 0 else outs0 op h0 h1 fee l0 l1))) ?_ ?_ (by omega),ya]
 ·dsimp only
  have hAm:Zt4 (outs0 op h0 h1 fee l0 l1):=by
   intro o ho;unfold outs0 Zos at ho
   have hp:∀i,ZdZ op h0 h1 fee i<=5000000000:=by
    intro i;unfold ZdZ hav;split <;> split <;> omega
   have hp0:=hp 0;have hp1:=hp 1;rw[ycg] at ho;rcases ho with ho|ho
   all_goals
    split at ho
    ·rw[yam] at ho;subst ho;dsimp only;omega
    ·simp at ho
  have zY:=Zs5 op h0 h1 fee l0 l1;obtain⟨r,r1,r2,r3⟩:=ZAF u2 (outs0 op h0 h1 fee l0 l1) (by omega) hAm;rw[r1,ya];dsimp only;have hrl:=r2.length_eq;rw[yW (by simp[hrl])];exact⟨r,rfl,r2,λp q hp hq=>r3 p q hp (by omega)⟩
 ·intro k hk;rcases (show k=0\/k=1 by omega) with rfl|rfl
  ·exact e1
  ·exact e2
 ·unfold Vv;rfl
theorem ZPE(u:yL Unit){a b:Out}(hA:Zt4 [a,b])(h:a.1<=b.1):Vf yD (0:Int) (2:Int) u [a,b]=some (u,[a,b]):=by
 have ha:=hA a (by simp);have hb:=hA b (by simp);unfold Vf
 have l1:Zb (XI yD) yD ((0:Int),(2:Int),(1:Int),(1:Int),u,[a,b])=some ((0:Int),(2:Int),(1:Int),u,[a,b]):=by
  refine Zt 0 (λk:Nat=>((0:Int),(2:Int),(1:Int),(1:Int),u,[a,b])) (λk hk=>by omega) ?_ (by omega);unfold XI Zat
  dsimp only;rw[yW (by simp),yW (by rfl),show([a,b]:yL Out)[Int.toNat 1]? =some b from rfl,ya,yW (by rfl),show([a,b]:yL Out)[(wi (1 - 1)).toNat]? =some a from rfl,ya,ya,ZG (z:=b.1 - a.1) (by omega) (by omega),yX (ynd (by omega))]
 have q:=Zt (step:=YN yD) 1 (λk:Nat=>((0:Int),(2:Int),((k+1:Nat):Int),u,[a,b])) (x:=(u,[a,b])) (by
  intro k hk;have:k=0:=by omega
  subst this;unfold YN;dsimp only;rw[yW (by simp),show((0+1:Nat):Int)=1 from rfl,l1,ya]
  rfl) (by
  unfold YN;dsimp only;rw[yX (ynd (by omega))]) (by omega)
 have q:Zb (YN yD) yD ((0:Int),(2:Int),wi ((0:Int)+1),u,[a,b])=_:=q;rw[q,ya]
theorem ZLz(u:yL Unit){a b:Out}(hA:Zt4 [a,b]):Zip yD u [a,b]=some (u,if b.1 < a.1 then[b,a] else[a,b]):=by
 by_cases h:b.1 < a.1
 ·rw[yW h];obtain⟨r,r1,r2,r3⟩:=ZAF u [a,b] (by simp) hA;rw[r1];congr 2;have hl:=r2.length_eq
  match r,hl with
  |[x,y],_=>
   have hs:=r3 0 1 (by omega) (by simp);have hs:x.1<=y.1:=hs
   have hx:x=a\/x=b:=by
    have:=r2.mem_iff.1 (yay .. :x∈[x,y]);simpa using this
   rcases hx with rfl|rfl
   ·have hy:=(List.perm_cons x).1 r2;rw[List.singleton_perm_singleton] at hy;subst hy;omega
   ·have hy:=(r2.trans (List.Perm.swap _ _ _));have hy:=(List.perm_cons x).1 hy;rw[List.singleton_perm_singleton] at hy;rw[hy]
 ·rw[yX h]
  have fin:Zb (V4 yD) yD ((2:Int),(20:Int),u,[a,b])=some (u,[a,b]):=by
   refine Zt 0 (λk:Nat=>((2:Int),(20:Int),u,[a,b])) (λk hk=>by omega) ?_ (by omega);unfold V4;dsimp only;rw[yX (by simp)]
  have e:Zb (XJ yD) yD ((2:Int),(20:Int),(0:Int),(20:Int),u,[a,b])=some ((2:Int),(20:Int),(0:Int),u,[a,b]):=by
   refine Zt 0 (λk:Nat=>((2:Int),(20:Int),(0:Int),(20:Int),u,[a,b])) (λk hk=>by omega) ?_ (by omega);unfold XJ;dsimp only;rw[yX (by simp)]
  unfold Zip Zhm;rw[show(([a,b]:yL Out).length:Int)=2 from rfl,e,ya]
  dsimp only;rw[ZPE u hA (by omega),ya];dsimp only;rw[fin,ya,ya]
def ZEC:yL Out->yL Out
 |[a,b]=>if b.1 < a.1 then[b,a] else[a,b]
 |l=>l
theorem ZJ3(l:yL Out):(ZEC l).length=l.length:=by
 unfold ZEC;split
 ·split <;> rfl
 ·rfl
theorem ZLA(u:yL Unit){l:yL Out}(hl:l.length<=2)(hA:Zt4 l):Zip yD u l=some (u,ZEC l):=by
 match l,hl with
 |[],_=>
  obtain⟨r,r1,r2,_⟩:=ZAF u [] (by simp) hA;rw[r1,List.perm_nil.1 r2]
  rfl
 |[a],_=>
  obtain⟨r,r1,r2,_⟩:=ZAF u [a] (by simp) hA;rw[r1,List.perm_singleton.1 r2]
  rfl
 |[a,b],_=>exact ZLz u hA
theorem ZLB{A:Int}{k0 k1:Kit}{op:Int}(h:ChOk A k0 k1 op){s:yH}{h0 h1 fee:Int}{l0 l1:yG}(hs:StIn A s h0 h1)(hc:hav op h0 h1 >= cost s.2.2.2 s.2.2.1.length)(hn:s.2.2.1=[])
 (g0:LockOk l0/\LockPt l0) (g1:LockOk l1/\LockPt l1) (f0:52<=fee) (f1:fee<=hav op h0 h1):
 Yt yD (Zo A k0 k1 op) s [l0,l1] fee=some (([((z32,0),(0,[],0))],ZEC (outs0 op h0 h1 fee l0 l1),2097154),0):=by
 have hA:=h.hi;have ht:=hs.tot;rw[hn] at ht;have h0n:amtC ([]:yL Cond)=0:=rfl;have p0:=hs.p0;have p1:=hs.p1
 have hh:hav op h0 h1<=4300000000:=by
  unfold hav;split <;> omega
 have hO:(Zo A k0 k1 op).2.2.2.2=op:=rfl;unfold Yt;rw[ZqF h hs hc,ya,yX (by rw[hn];decide),yau,ya,VK g0.1 g0.2,ya,yX (by decide)];rw[yaq,yau,ya,VK g1.1 g1.2,ya,yX (by decide),hO,ZuP h.o hs.hv,ya,yX (by simp[f0,f1]),hs.hv];obtain⟨u1,e1⟩:=ZoX (A:=A) (k0:=k0) (k1:=k1) (op:=op) (s:=s) (h0:=h0) (h1:=h1) (fee:=fee) (l0:=l0) (l1:=l1) 0 (.inl rfl) (by omega) (by omega) (by omega) g0 g1 (([]:yL In),([]:yL Out),(0:Int)) ([((Zo A k0 k1 op).1,(0,[],0))]:yL In) 2097154 [] [] (by simp);obtain⟨u2,e2⟩:=ZoX (A:=A) (k0:=k0) (k1:=k1) (op:=op) (s:=s) (h0:=h0) (h1:=h1) (fee:=fee) (l0:=l0) (l1:=l1) 1 (.inr rfl) (by omega) (by omega) (by omega) g0 g1 (([]:yL In),([]:yL Out),(0:Int)) ([((Zo A k0 k1 op).1,(0,[],0))]:yL In) 2097154 u1 ([]++Zos op h0 h1 fee l0 l1 0) (by have:=Zr1 op h0 h1 fee l0 l1 0;simp;omega)
 rw[show(fee,[h0,h1],(0:Int),Zo A k0 k1 op,s,[l0,l1],(([]:yL In),([]:yL Out),(0:Int)),([((Zo A k0 k1 op).1,(0,[],0))]:yL In),(2097154:Int),([]:yL Unit),([]:yL Out))=(λk:Nat=>(fee,[h0,h1],(k:Int),Zo A k0 k1 op,s,[l0,l1],(([]:yL In),([]:yL Out),(0:Int)),([((Zo A k0 k1 op).1,(0,[],0))]:yL In),(2097154:Int),(if k=0 then[] else if k=1 then u1 else u2),(if k=0 then[] else if k=1 then Zos op h0 h1 fee l0 l1 0 else outs0 op h0 h1 fee l0 l1))) 0 from rfl,
  Zt (x:=(Zo A k0 k1 op,s,[l0,l1],(([]:yL In),([]:yL Out),(0:Int)),([((Zo A k0 k1 op).1,(0,[],0))]:yL In),(2097154:Int),u2,outs0 op h0 h1 fee l0 l1)) 2 (λk:Nat=>(fee,[h0,h1],(k:Int),Zo A k0 k1 op,s,[l0,l1],(([]:yL In),([]:yL Out),(0:Int)),([((Zo A k0 k1 op).1,(0,[],0))]:yL In),(2097154:Int),(if k=0 then[] else if k=1 then u1 else u2),(if k=0 then[] else if k=1 then Zos op h0 h1 fee l0 l1 0 else outs0 op h0 h1 fee l0 l1))) ?_ ?_ (by omega),ya]
 ·dsimp only
  have hAm:Zt4 (outs0 op h0 h1 fee l0 l1):=by
   intro o ho;unfold outs0 Zos at ho
   have hp:∀i,ZdZ op h0 h1 fee i<=5000000000:=by
    intro i;unfold ZdZ hav;split <;> split <;> omega
   have hp0:=hp 0;have hp1:=hp 1;rw[ycg] at ho;rcases ho with ho|ho
   all_goals
    split at ho
    ·rw[yam] at ho;subst ho;dsimp only;omega
    ·simp at ho
  have zY:=Zs5 op h0 h1 fee l0 l1;rw[ZLA u2 zY hAm,ya];dsimp only;rw[yW (by simp[ZJ3])];rfl
 ·intro k hk;rcases (show k=0\/k=1 by omega) with rfl|rfl
  ·exact e1
  ·exact e2
 ·unfold Vv;rfl
open Classical in
noncomputable def mkF(op h0 h1:Int)(cs:yL Cond)(l0 l1:yG)(fee:Int):Tx×Int:=
 if cs≠[] then(([],[],0),14) else if¬(LockOk l0/\LockPt l0)\/¬(LockOk l1/\LockPt l1) then(([],[],0),1)
 else if¬(52<=fee/\fee<=hav op h0 h1) then(([],[],0),13) else(([((z32,0),(0,[],0))],ZEC (outs0 op h0 h1 fee l0 l1),2097154),0)
theorem Zr2{A:Int}{k0 k1:Kit}{op:Int}(h:ChOk A k0 k1 op){s:yH}{h0 h1:Int}{l0 l1:yG}(hs:StIn A s h0 h1)(hc:hav op h0 h1 >= cost s.2.2.2 s.2.2.1.length)(w0:Ze0 l0)(w1:Ze0 l1)(fee:Int):
 Yt yD (Zo A k0 k1 op) s [l0,l1] fee=some (mkF op h0 h1 s.2.2.1 l0 l1 fee):=by
 unfold mkF;by_cases hn:s.2.2.1=[]
 ·rw[yX (λh=>h hn)];obtain⟨b0,e0,f0⟩:=ZdY w0;obtain⟨b1,e1,f1⟩:=ZdY w1;by_cases g0:LockOk l0/\LockPt l0
  ·by_cases g1:LockOk l1/\LockPt l1
   ·rw[yX (by rintro(h|h);exact h g0;exact h g1)];by_cases hf:52<=fee/\fee<=hav op h0 h1
    ·rw[yX (λh=>h hf)];exact ZLB h hs hc hn g0 g1 hf.1 hf.2
    ·rw[yW hf];unfold Yt;rw[ZqF h hs hc,ya,yX (by rw[hn];decide),yau,ya,VK g0.1 g0.2,ya,yX (by decide)];rw[yaq,yau,ya,VK g1.1 g1.2,ya,yX (by decide),show(Zo A k0 k1 op).2.2.2.2=op from rfl,ZuP h.o hs.hv,ya,yZ hf,yW (by decide)]
   ·rw[yW (.inr g1)];have:b1=false:=by cases b1 with|false=>rfl|true=>exact absurd (f1.1 rfl) g1
    subst this;unfold Yt;rw[ZqF h hs hc,ya,yX (by rw[hn];decide),yau,ya,VK g0.1 g0.2,ya,yX (by decide)];rw[yaq,yau,ya,e1,ya,yW (by decide)]
  ·rw[yW (.inl g0)];have:b0=false:=by cases b0 with|false=>rfl|true=>exact absurd (f0.1 rfl) g0
   subst this;unfold Yt;rw[ZqF h hs hc,ya,yX (by rw[hn];decide),yau,ya,e0,ya,yW (by decide)]
 ·rw[yW hn];unfold Yt;rw[ZqF h hs hc,ya,yZ hn,yW (by decide)]
def frG(h:yL yB):Nat->Nat
 |0=>0
 |k+1=>(256*frG h k+(h.getD k 0).toNat) % 2305843009213688668
theorem ZJ4(h:yL yB)(k:Nat):frG h k < 2305843009213688668:=by
 cases k with
 |zero=>exact(by decide:(0:Nat) < 2305843009213688668)
 |succ k=>exact ybc _ (by decide)
def frF(h:yL yB):yU:=yx (frG h 32)+1
theorem ZAH{z:Nat}(h:z < 2305843009213688668):(yx z).toNat=z:=by
 rw[yaw,yaf (by omega)]
theorem ZNL(x:yU)(n:Nat):(Q3 x n).toNat=x.toNat*2 ^ n % 18446744073709551616:=yaw ..
theorem ZLC(n:Nat)(b:yB)(hn:n < 2305843009213688668):((Q3 (yx n) 8)|||(yx b.toNat)).toNat=n*256 % 18446744073709551616+b.toNat:=by
 have hb:b.toNat < 256:=b.toNat_lt;rw[UInt64.toNat_or,ZNL,ZAH hn,yaw,yaf (a:=b.toNat) (by omega)];have h2:n*2 ^ 8 % 2 ^ 64=(n % 2 ^ 56)*2 ^ 8:=by omega
 rw[show n*2 ^ 8 % 18446744073709551616=(n % 2 ^ 56)*2 ^ 8 from h2,ybf, <-ycy (by omega:b.toNat < 2 ^ 8)]
theorem ZF6{h:yL yB}(hl:h.length=32):ZfH yD h=some (frF h):=by
 unfold ZfH
 have e:=Zt (step:=QX yD) 32 (λk:Nat=>(yx (frG h k),h,(k:Int),h)) (x:=(yx (frG h 32),h)) (by
  intro k hk;obtain⟨e,he,_⟩:=Zk (l:=h) (k:=k) (by omega);unfold QX;dsimp only;rw[yW (yY (by omega)),Zq he,ya];unfold V9;rw[yW (by decide),ya,Zn (by omega)];have hn:=ZJ4 h k;have hb:e.toNat < 256:=e.toNat_lt;have hd:h.getD k 0=e:=by simp[List.getD,he]
  rw[show(2305843009213688668:yU).toNat=2305843009213688668 from rfl,ZLC _ _ hn,Zba,ZAH hn]
  have h2:frG h k / 2 ^ 56*18446744073709551616+(frG h k*256 % 18446744073709551616+e.toNat)=256*frG h k+e.toNat:=by omega
  rw[h2,show frG h (k+1)=(256*frG h k+(h.getD k 0).toNat) % 2305843009213688668 from rfl,hd]) (by
  unfold QX;dsimp only;rw[yX (ynd (by omega))]) (by omega)
 have e:Zb (QX yD) yD ((0:yU),h,(0:Int),h)=_:=e;rw[e,ya];rfl
theorem ZCO{h:yL yB}(hl:h.length=32):Ya yD h=some (frF h):=by
 unfold Ya
 have e:=Zt (step:=Yk yD) 32 (λk:Nat=>(yx (frG h k),(k:Int),h)) (x:=(yx (frG h 32),h)) (by
  intro k hk;obtain⟨e,he,_⟩:=Zk (l:=h) (k:=k) (by omega);have hb:e.toNat < 256:=e.toNat_lt;have hd:h.getD k 0=e:=by simp[List.getD,he]
  have hn:=ZJ4 h k;unfold Yk;dsimp only;rw[yW (yY (by omega))]
  have g:=Zt (step:=Yj yD) 8 (λj:Nat=>(yx ((2 ^ j*frG h k+e.toNat / 2 ^ (8 - j)) % 2305843009213688668),(k:Int),7 - (j:Int),h)) (x:=(yx ((256*frG h k+e.toNat) % 2305843009213688668),(k:Int),h)) (by
   intro j hj;unfold Yj;dsimp only;rw[yW (yY (by omega)),yW (Yz (by omega) (by omega)),yar,he,ya,ZG (z:=7 - (j:Int) - 1) (by omega) (by omega)]
   have q1:(min ((w64 (7 - (j:Int))).toNat:Int).toNat 64)=7 - j:=by
    have:(w64 (7 - (j:Int))).toNat=7 - j:=by
     unfold w64;rw[yaw];omega
    omega
   rw[q1,show(7:Int) - (j:Int) - 1=7 - ((j+1:Nat):Int) by omega];refine congrArg (λx=>some (Sum.inl (x,(k:Int),7 - ((j+1:Nat):Int),h))) ?_;have m1:(2 ^ j*frG h k+e.toNat / 2 ^ (8 - j)) % 2305843009213688668 < 2305843009213688668:=ybc _ (by decide);rw[<-ybz,ycr,UInt64.toNat_add,UInt64.toNat_mul,ZAH m1,ZAH (ybc _ (by decide)),UInt64.toNat_and,Zba,yaw,yaf (a:=e.toNat) (by omega)];rw[show(1:yU).toNat=1 from rfl,Nat.and_one_is_mod,show(2:yU).toNat=2 from rfl,show(2305843009213688668:yU).toNat=2305843009213688668 from rfl]
   have m2:e.toNat / 2 ^ (8 - (j+1))=2*(e.toNat / 2 ^ (8 - j))+e.toNat / 2 ^ (7 - j) % 2:=by
    rw[show 8 - (j+1)=7 - j by omega,show 8 - j=(7 - j)+1 by omega,Nat.pow_succ, <-Nat.div_div_eq_div_mul];omega
   have m3:2 ^ (j+1)*frG h k=2*(2 ^ j*frG h k):=by rw[Nat.pow_succ,ybf (2 ^ j) 2,Nat.mul_assoc]
   rw[m2,m3];generalize 2 ^ j*frG h k=u at*;generalize e.toNat / 2 ^ (8 - j)=v at*;generalize e.toNat / 2 ^ (7 - j)=t at*;omega) (by
   unfold Yj;dsimp only;rw[yX (ynd (by omega))];simp) (by omega)
  rw[show(2 ^ 0*frG h k+e.toNat / 2 ^ (8 - 0)) % 2305843009213688668=frG h k by
   rw[show 2 ^ (8 - 0)=256 from rfl,Nat.div_eq_of_lt hb,Nat.pow_zero,Nat.one_mul,yce,yaf hn]] at g
  have g:Zb (Yj yD) yD (yx (frG h k),(k:Int),(7:Int),h)=_:=g;rw[g,ya,Zn (by omega),show frG h (k+1)=(256*frG h k+(h.getD k 0).toNat) % 2305843009213688668 from rfl,hd]) (by
  unfold Yk;dsimp only;rw[yX (ynd (by omega))]) (by omega)
 have e:Zb (Yk yD) yD ((0:yU),(0:Int),h)=_:=e;rw[e,ya];rfl
theorem WL(n:Nat):(Zb2 n).length=8:=rfl
theorem Zr3(n:yU):Y9 yD n=some (Zb2 n.toNat):=by
 unfold Y9
 have e:=Zt (step:=Yl yD) 8 (λk:Nat=>(n,56 - 8*(k:Int),(Zb2 n.toNat).take k)) (x:=Zb2 n.toNat) (by
  intro k hk;have hb:(Zb2 n.toNat)[k]? =_:=ZAw n hk;have hl:((Zb2 n.toNat).take k).length<=8:=by rw[yah];exact ybm (Nat.min_le_right _ _) (yj _)
  unfold Yl;dsimp only;have q1:min (56 - 8*(k:Int)).toNat 64=56 - 8*k:=by omega
  rw[yW (yY (by omega)),yW (yY (by omega)),yW (ZD (by omega) (by omega)),ZG (z:=56 - 8*(k:Int) - 8) (by omega) (by omega),q1,show 56 - 8*(k:Int) - 8=56 - 8*((k+1:Nat):Int) by omega,List.take_add_one,hb];rfl) (by
  unfold Yl;dsimp only;rw[yX (ynd (by omega))];rfl) (by omega)
 have e:Zb (Yl yD) yD (n,(56:Int),([]:yL yB))=_:=e;rw[e,ya]
theorem ZHn(n:yU):Xz yD n=some (Zb2 n.toNat):=by
 unfold Xz
 have e:=Zt (step:=ZZ yD) 8 (λk:Nat=>(n,56 - 8*(k:Int),([]:yL yB),(Zb2 n.toNat).take k)) (x:=(([]:yL yB),Zb2 n.toNat)) (by
  intro k hk;have hb:(Zb2 n.toNat)[k]? =_:=ZAw n hk;have hl:((Zb2 n.toNat).take k).length<=8:=by rw[yah];exact ybm (Nat.min_le_right _ _) (yj _)
  unfold ZZ;dsimp only;have q1:min (56 - 8*(k:Int)).toNat 64=56 - 8*k:=by omega
  rw[yW (yY (by omega)),yW (yY (by omega)),yW (ZD (by omega) (by omega)),ZG (z:=56 - 8*(k:Int) - 8) (by omega) (by omega),q1,show 56 - 8*(k:Int) - 8=56 - 8*((k+1:Nat):Int) by omega,List.take_add_one,hb];rfl) (by
  unfold ZZ;dsimp only;rw[yX (ynd (by omega))];rfl) (by omega)
 have e:Zb (ZZ yD) yD (n,(56:Int),([]:yL yB),([]:yL yB))=_:=e;rw[e,ya]
def tgF(l:yL yB):yL yB:=Zb2 l.length++l
def ZxD(s:ByteArray)(ls:yL (yL yB)):yL yB:=Zb2 s.size++Zi6 s++cat tgF ls
theorem ZCP(s:ByteArray):(Zi6 s).length=s.size:=by
 unfold Zi6;rw[Array.length_toList];rfl
theorem ZuQ{ls:yL (yL yB)}(h2:ls.length<=10)(h3:∀l,l∈ls->l.length<=60000)(k:Nat):(cat tgF (ls.take k)).length<=10*60008:=
 ZdX (c:=60008) (λl hl=>by have:=h3 l hl;unfold tgF;rw[yl,WL];omega) h2 k
theorem ZED{s:ByteArray}{ls:yL (yL yB)}(h1:s.size<=100)(h2:ls.length<=10)(h3:∀l,l∈ls->l.length<=60000):ZbM yD s ls=some (Sha.sha (ZxD s ls)):=by
 unfold ZbM;have hs:=ZCP s;have p1:Vr yD (s.size:Int) []=some (Zb2 s.size):=ZuH (b:=[]) (by simp);rw[p1,ya,yW (ZD (by rw[hs,WL];omega) (by rw[hs,WL];omega))]
 have e:=Zt (step:=Qc yD) ls.length (λk:Nat=>(ls,(ls.length:Int),(k:Int),z32,Zb2 s.size++Zi6 s++cat tgF (ls.take k))) (x:=(z32,ZxD s ls)) (by
  intro k hk;obtain⟨e,he,hm⟩:=Zk hk;have:=h3 e hm;have hc:=ZuQ h2 h3 k;unfold Qc;dsimp only;rw[yW (yY (by omega)),Zq he,ya,ZuH (by simp only[yl,WL,hs];omega),ya,yW (ZD (by simp only[yl,WL,hs];omega) (by simp only[yl,WL,hs];omega)),Zn (by omega),Zcf he];simp only[tgF,yad]) (by
  unfold Qc;dsimp only;rw[yX (by rw[ZH];decide),yat];rfl) (by omega)
 rw[show cat tgF (ls.take 0)=[] from rfl,ybd] at e
 have e:Zb (Qc yD) yD (ls,(ls.length:Int),(0:Int),yzz,Zb2 s.size++Zi6 s)=_:=e;have hc:=ZuQ h2 h3 ls.length;rw[yat] at hc;rw[e,ya,ZFL (by show(ZxD s ls).length<=_;unfold ZxD;simp only[yl,WL,hs];omega),ya]
theorem ZAI{s:ByteArray}{ls:yL (yL yB)}(h1:s.size<=100)(h2:ls.length<=10)(h3:∀l,l∈ls->l.length<=60000):YW yD s ls=some (Sha.sha (ZxD s ls)):=by
 unfold YW;have hs:=ZCP s
 have w:∀n:Nat,n<=1000000->(w64 (n:Int)).toNat=n:=λn hn=>by
  unfold w64;rw[yaw];omega
 have hs':s.data.toList.length=s.size:=hs;rw[ZHn,ya,w _ (by omega),yW (yY (by unfold maxLen;omega)),yW (ZD (by rw[hs',WL];omega) (by rw[hs',WL];omega))]
 have e:=Zt (step:=Z1 yD) ls.length (λk:Nat=>(ls,(k:Int),z32,Zb2 s.size++Zi6 s++cat tgF (ls.take k))) (x:=(z32,ZxD s ls)) (by
  intro k hk;obtain⟨e,he,hm⟩:=Zk hk;have:=h3 e hm;have hc:=ZuQ h2 h3 k;unfold Z1;dsimp only;rw[yW (ZV hk),Zq he,ya,Zr3,ya,w _ (by omega),yW (ZD (by simp only[yl,WL,hs];omega) (by simp only[yl,WL,hs];omega)),ya,yW (ZD (by simp only[yl,WL,hs];omega) (by simp only[yl,WL,hs];omega)),Zn (by omega),Zcf he];simp only[tgF,yad]) (by
  unfold Z1;dsimp only;rw[yX (by rw[ZH];decide),yat];rfl) (by omega)
 rw[show cat tgF (ls.take 0)=[] from rfl,ybd] at e
 have e:Zb (Z1 yD) yD (ls,(0:Int),z32,Zb2 s.size++s.data.toList)=_:=e;have hc:=ZuQ h2 h3 ls.length;rw[yat] at hc;show(ybq (Zb (Z1 yD) yD (ls,(0:Int),z32,Zb2 s.size++s.data.toList)) λo85=>(We yD o85.2).bind λo86=>some o86)=_;rw[e,ya,ZCv (by show(ZxD s ls).length<=_;unfold ZxD;simp only[yl,WL,hs];omega),ya]
theorem ZAJ{n:Nat}(h:n < 256):w8 (n:Int)=yas n:=by
 unfold w8;congr 1;omega
theorem ZNM:∀(k n:Nat),n < 128 ^ (k+1)->n<=9223372036854775807->Qn yD (k+1) (n:Int)=some (X4 n):=by
 intro k
 induction k with
 |zero=>
  intro n h h2;have h:n < 128:=by simpa using h
  show W1 yD (Qn yD 0) (n:Int)=_;unfold W1
  rw[yW (yY (by omega)),ZeY h,ZAJ (by omega)]
 |succ k ih=>
  intro n h h2;show W1 yD (Qn yD (k+1)) (n:Int)=_;unfold W1;by_cases h0:n < 128
  ·rw[yW (yY (by omega)),ZeY h0,ZAJ (by omega)]
  ·have hd:n / 128 < 128 ^ (k+1):=by
    rw[Nat.div_lt_iff_lt_mul (by decide)];rw[Nat.pow_succ] at h;exact h
   have e1:wi (Int.tdiv (n:Int) 128)=((n / 128:Nat):Int):=by
    rw[show Int.tdiv (n:Int) 128=((n / 128:Nat):Int) from rfl,ZG (by omega) (by omega)]
   have hl:=Z7 (n:=n / 128) (by omega);rw[yX (ynd (by omega)),e1,ih _ hd (by omega),ya,yW (ZD (by omega) (by omega)),ZrU h0]
   have e2:w8 (yav (n:Int) 128)+128=yas (n % 128+128):=by
    rw[show yav (n:Int) 128=((n % 128:Nat):Int) from rfl,ZAJ (by omega), <-UInt8.toNat_inj,UInt8.toNat_add,UInt8.toNat_ofNat',UInt8.toNat_ofNat']
    show(n % 128 % 256+128) % 256=_;omega
   rw[e2];rfl
theorem ZLD{n:Nat}(h:n<=9223372036854775807):ZaY yD (n:Int)=some (X4 n):=ZNM 11 n (by omega) h
theorem Zfn{b:yL yB}{z:Int}(h0:0<=z)(h:z<=9223372036854775807)(hb:b.length<=1000000):Yg yD b z=some (b++X4 z.toNat):=by
 obtain⟨n,rfl⟩:=Int.eq_ofNat_of_zero_le h0;have hl:=Z7 (n:=n) (by omega);unfold Yg;rw[yW (ZD (by omega) (by omega)),yW (yY (by omega)),ZLD (by omega),ya,yW (ZD (by omega) (by omega)),yar]
theorem ZJ5{b:yL yB}{z:Int}(h0:0<=z)(h:z<=9223372036854775807)(hb:b.length<=1000000):Zby yD b z=some (b++X4 z.toNat):=Zfn h0 h hb
theorem ZwX{b:yL yB}(x:yU)(hb:b.length<=1000000):WV yD b x=some (b++Zm5 x.toNat):=by
 unfold WV;rw[yW (ZD (by omega) (by omega))]
 have e:=Zt (step:=YZ yD) 8 (λk:Nat=>(x,7 - (k:Int),b++(Zm5 x.toNat).take k)) (x:=b++Zm5 x.toNat) (by
  intro k hk;have hl:((Zm5 x.toNat).take k).length<=8:=by rw[yah];omega
  unfold YZ;dsimp only
  have q1:(min ((w64 (wi (8*(7 - (k:Int))))).toNat:Int).toNat 64)=56 - 8*k:=by
   rw[ZG (z:=8*(7 - (k:Int))) (by omega) (by omega)]
   have:(w64 (8*(7 - (k:Int)))).toNat=56 - 8*k:=by
    unfold w64;rw[yaw];omega
   omega
  rw[yW (yY (by omega)),yW (ZD (by rw[yl];omega) (by rw[yl];omega)),ZG (z:=7 - (k:Int) - 1) (by omega) (by omega),q1,ZCB,show 7 - (k:Int) - 1=7 - ((k+1:Nat):Int) by omega,List.take_add_one,ZwS _ hk,yad];rfl) (by
  unfold YZ;dsimp only;rw[yX (ynd (by omega)),ycu (by rw[Qq];exact yj _)]) (by omega)
 have e:Zb (YZ yD) yD (x,(7:Int),b++[])=_:=e;rw[ybd] at e;rw[e,ya]
theorem ZCQ{b h:yL yB}(hb:b.length<=1000000)(hh:h.length=32):YS yD b h=some (b++h):=by
 unfold YS;rw[yW (ZD (by omega) (by omega))]
 have e:=Zt (step:=Z0 yD) 32 (λk:Nat=>((k:Int),h,b++h.take k)) (x:=(h,b++h)) (by
  intro k hk;obtain⟨e,he,_⟩:=Zk (l:=h) (k:=k) (by omega);have hl:(h.take k).length<=32:=by rw[yah];omega
  unfold Z0;dsimp only;rw[yW (yY (by omega)),yW (Yz (by omega) (by omega)),yar,he,ya,yW (ZD (by rw[yl];omega) (by rw[yl];omega)),Zn (by omega),List.take_add_one,he,yad];rfl) (by
  unfold Z0;dsimp only;rw[yX (ynd (by omega)),ycu (by omega)]) (by omega)
 have e:Zb (Z0 yD) yD ((0:Int),h,b++[])=_:=e;rw[ybd] at e;rw[e,ya]
theorem ZAK{b c:yL yB}(hb:b.length<=1000000)(hc:c.length<=1000000):Vm yD b c=some (b++(X4 c.length++c)):=by
 unfold Vm;have hl:=Z7 (n:=c.length) (by omega);rw[ZJ5 (by omega) (by omega) hb,ya,yar,yW (ZD (by rw[yl];omega) (by rw[yl];omega)),yad]
theorem ZLE(a b:yU):ZdU yD a b=some (yx ((a.toNat+b.toNat) % ord)):=by
 rw[<-ZFQ];rfl
theorem ZwY(a:yU):Vc yD a=some (decide (a.toNat < ord)):=by
 unfold Vc;congr 1
theorem ZNN(o x h M:Nat):((o+x) % M+(x+x) % M*h) % M=(o+x*(2*h+1)) % M:=by
 rw[Nat.add_mod,Nat.mod_mod,ybu,Nat.mod_mod, <-ybu, <-Nat.add_mod];congr 1;rw[Nat.add_mul,Nat.mul_add,Nat.mul_one,Nat.mul_left_comm];omega
theorem ZLF(o x h M:Nat):(o+(x+x) % M*h) % M=(o+x*(2*h)) % M:=by
 rw[Nat.add_mod,ybu,Nat.mod_mod, <-ybu, <-Nat.add_mod];congr 1;rw[Nat.add_mul,Nat.mul_left_comm];omega
theorem ZLG(a b:yU):Za0 yD a b=some (yx (a.toNat*b.toNat % ord)):=by
 unfold Za0 Vx;rw[ya,ya];have hM:(2305843009213688669:yU).toNat=ord:=rfl;have hO:ord=2305843009213688669:=rfl
 have addm:∀u v:yU,u.toNat < ord->v.toNat < ord->((u+v) % 2305843009213688669).toNat=(u.toNat+v.toNat) % ord:=λu v hu hv=>by
  rw[ycr,UInt64.toNat_add,hM,yaf (a:=u.toNat+v.toNat) (by omega)]
 obtain⟨x,h1,h2⟩:=Ym (step:=WW yD) 64 (λk s=>∃x y o:yU,s=(x,y,o)/\x.toNat < ord/\o.toNat < ord/\y.toNat < 2 ^ (64 - k)/\(o.toNat+x.toNat*y.toNat) % ord=a.toNat*b.toNat % ord) (λr=>r.toNat=a.toNat*b.toNat % ord)
  (i:=(a % 2305843009213688669,b % 2305843009213688669,(0:yU))) ⟨_,_,_,rfl,by rw[Zoo];exact Zmi,by decide,by rw[Zoo];have:b.toNat % ord < ord:=Zmi;omega,by rw[Zoo,Zoo,show(0:yU).toNat=0 from rfl,ybe, <-ybu]⟩ (by omega) (by
  rintro k _ hk ⟨x,y,o,rfl,hx,ho,hy,he⟩;unfold WW;dsimp only;by_cases h0:y.toNat=0
  ·right;rw[yX (by rw[yN];show¬(0:yU).toNat < y.toNat;rw[h0];decide)];exact⟨_,rfl,by rw[h0,Nat.mul_zero,yce,yaf ho] at he;exact he⟩
  ·left;have hy2:(y / 2).toNat=y.toNat / 2:=by rw[UInt64.toNat_div];rfl
   have hyk:(y / 2).toNat < 2 ^ (64 - (k+1)):=by
    rw[hy2,Nat.div_lt_iff_lt_mul (by decide), <-Nat.pow_succ];have:(64 - (k+1)).succ=64 - k:=by omega
    rw[this];exact hy
   have hxx:=addm x x hx hx;rw[yW (show decide (y > 0)=true from yY (show(0:yU).toNat < y.toNat from Nat.pos_of_ne_zero h0))]
   have hm:((y % 2)==1)=decide (y.toNat % 2=1):=by
    have e:(y % 2).toNat=y.toNat % 2:=by rw[ycr];rfl
    by_cases h1:y.toNat % 2=1
    ·rw[yY h1,yT, <-ybz,e,h1];rfl
    ·rw[yZ h1,beq_eq_false_iff_ne];intro h2;rw[h2] at e;exact h1 e.symm
   rw[hm];have hd:y.toNat=2*(y.toNat / 2)+y.toNat % 2:=by omega
   by_cases h1:y.toNat % 2=1
   ·rw[yW (yY h1)];have hox:=addm o x ho hx;refine⟨_,rfl,_,_,_,rfl,by rw[hxx];exact Zmi,by rw[hox];exact Zmi,hyk, ?_⟩;rw[hxx,hox,hy2,ZNN, <-he];rw[h1] at hd;rw[<-hd]
   ·rw[yX (by rw[yN];exact h1)];refine⟨_,rfl,_,_,_,rfl,by rw[hxx];exact Zmi,ho,hyk, ?_⟩;rw[hxx,hy2,ZLF, <-he];have h2:y.toNat % 2=0:=by omega
    rw[h2,yce] at hd;rw[<-hd]) (by
  rintro _ ⟨x,y,o,rfl,hx,ho,hy,he⟩;have h0:y.toNat=0:=by simpa using hy
  unfold WW;dsimp only;rw[yX (by rw[yN];show¬(0:yU).toNat < y.toNat;rw[h0];decide)];exact⟨_,rfl,by rw[h0,Nat.mul_zero,yce,yaf ho] at he;exact he⟩)
 rw[h1,ya];congr 1;rw[<-ybz,h2,ZJN]
theorem ZHo{b:yL yB}{no:Bool}(hb:b.length<=2000000){k n:Nat}{d:yB}(hx:b[k]? =some d)(h2:k<=8)(h3:¬(0 < k/\d.toNat=0))(hn:n < 128 ^ k):
 ZP yD ((n:Int),((128 ^ k:Nat):Int),(k:Int),(b,no))=some (if d.toNat < 128 then .inr (.inl (((n+d.toNat % 128*128 ^ k:Nat):Int),(b.drop (k+1),no))) else .inl (((n+d.toNat % 128*128 ^ k:Nat):Int),wi (128*((128 ^ k:Nat):Int)),((k+1:Nat):Int),(b,no))):=by
 have hk:k < b.length:=(yq.1 hx).1;have hd:=ZwV n k d hn h2
 have e1:wi ((n:Int)+(wi ((yav (d.toNat:Int) 128)*((128 ^ k:Nat):Int))))=((n+d.toNat % 128*128 ^ k:Nat):Int):=by
  have e2:yav (d.toNat:Int) 128*((128 ^ k:Nat):Int)=((d.toNat % 128*128 ^ k:Nat):Int):=by
   rw[show yav (d.toNat:Int) 128=((d.toNat % 128:Nat):Int) from rfl]
   push_cast
   rfl
  rw[e2,ZG (z:=((d.toNat % 128*128 ^ k:Nat):Int)) (by omega) (by omega),ZG (by omega) (by omega)]
  push_cast
  rfl
 have hcut:ZaE b.length (some ((k+1:Nat):Int)) none=true:=ZuM (by omega) (by omega);unfold ZP;dsimp only;rw[yW (yY (by omega)),yW (yY (by omega)),Zq hx,ya,e1,Zn (by omega)]
 have hc:(if(decide ((d.toNat:Int) < 128))=true then if(ZaE b.length (some ((k+1:Nat):Int)) none)=true then some (Sum.inr (Sum.inl (((n+d.toNat % 128*128 ^ k:Nat):Int),(b.drop (((k+1:Nat):Int).toNat),no)))) else none else some (Sum.inl (((n+d.toNat % 128*128 ^ k:Nat):Int),wi (128*((128 ^ k:Nat):Int)),((k+1:Nat):Int),(b,no))):yO ((Int×Int×Int×Zi)⊕((Int×Zi)⊕Zi)))=some (if d.toNat < 128 then .inr (.inl (((n+d.toNat % 128*128 ^ k:Nat):Int),(b.drop (k+1),no))) else .inl (((n+d.toNat % 128*128 ^ k:Nat):Int),wi (128*((128 ^ k:Nat):Int)),((k+1:Nat):Int),(b,no))):=by
  by_cases h4:d.toNat < 128
  ·rw[yW (yY (by omega)),yW hcut,yW h4,yar]
  ·rw[yX (ynd (by omega)),yX h4]
 by_cases h0:d.toNat=0
 ·rw[yW (by rw[h0];rfl),yX (ynd (by omega))];exact hc
 ·rw[yX (by simp;omega)];exact hc
theorem ZyP{b:yL yB}{no:Bool}(hb:b.length<=2000000):∀(f k n m:Nat)(z:Int),k+f=10->f < m->n < 128 ^ k->(k<=8->z=((128 ^ k:Nat):Int))->
 ∃o,Zb (ZP yD) m ((n:Int),z,(k:Int),(b,no))=some o/\((Vs b f k n).1=true->o=.inl (((Vs b f k n).2.1:Int),(b.drop (Vs b f k n).2.2,no)))/\((Vs b f k n).1=false->o=.inl ((0:Int),([],true))\/o=.inr (b,no))
 |f,k,n,0,_,_,h,_,_=>by omega
 |0,k,n,m+1,z,h,_,_,_=>by
  unfold Zb ZP;dsimp only;refine⟨.inr (b,no), ?_,λhg=>by simp[Vs] at hg,λ_=>.inr rfl⟩;by_cases h1:(k:Int) < (b.length:Int)
  ·rw[yW (yY h1),yX (ynd (by omega))];rfl
  ·rw[yX (by rw[yN];exact h1)]
   rfl
 |f+1,k,n,m+1,z,h,hf,hn,hz=>by
  by_cases h1:b.length<=k
  ·rw[Zmk h1];unfold Zb ZP;dsimp only;rw[yX (ynd (by omega))];exact⟨_,rfl,λhg=>(by cases hg),λ_=>.inr rfl⟩
  obtain⟨d,hx,_⟩:=Zk (l:=b) (k:=k) (by omega);by_cases h2:8 < k
  ·rw[ZoW hx h2];unfold Zb ZP;dsimp only;rw[yW (yY (by omega)),yX (ynd (by omega))];exact⟨_,rfl,λhg=>(by cases hg),λ_=>.inr rfl⟩
  have hz:=hz (by omega);subst hz;by_cases h3:0 < k/\d.toNat=0
  ·rw[ZhA hx h2 h3];unfold Zb ZP Yr;dsimp only;rw[yW (yY (by omega)),yW (yY (by omega)),Zq hx,ya,yW (by rw[h3.2];rfl),yW (yY (by omega))];exact⟨_,rfl,λhg=>(by cases hg),λ_=>.inl rfl⟩
  unfold Zb;rw[ZHo hb hx (by omega) h3 hn,ya];by_cases h4:d.toNat < 128
  ·rw[Zi0 hx h2 h3 h4,yW h4];exact⟨_,rfl,λ_=>rfl,λhg=>(by cases hg)⟩
  ·rw[Zi1 hx h2 h3 h4,yX h4];refine ZyP hb f (k+1) _ m _ (by omega) (by omega) (Zs4 n k d hn) (λhk=> ?_);have h5:128 ^ (k+1)<=128 ^ 8:=Nat.pow_le_pow_right (by omega) hk
   have h6:(128:Int)*((128 ^ k:Nat):Int)=((128 ^ (k+1):Nat):Int):=by
    rw[Nat.pow_succ]
    push_cast
    omega
   rw[h6,ZG (by omega) (by omega)]
theorem ZjN{r:Zi}(h:r.1.length<=2000000):Yu yD r=some (Zgx r):=by
 obtain⟨b,no⟩:=r;obtain⟨o,h1,h2,h3⟩:=ZyP (no:=no) h 10 0 0 yD 1 (by omega) (by rw[Zdf];omega) (by omega) (λ_=>rfl);unfold Yu Zgx;rw[show((0:Int),(1:Int),(0:Int),(b,no))=(((0:Nat):Int),(1:Int),((0:Nat):Int),(b,no)) from rfl,h1,ya]
 dsimp only
 cases hg:(Vs b 10 0 0).1 with
 |true=>rw[h2 hg,yW rfl]
 |false=>
  rw[yX (by decide)];rcases h3 hg with rfl|rfl <;> rfl
theorem ZJ6{z:Int}{r:Zi}(h0:0<=z)(h:r.1.length<=2000000):Wt yD z r=some (ZiZ r z.toNat):=by
 obtain⟨b,no⟩:=r;obtain⟨n,rfl⟩:=Int.eq_ofNat_of_zero_le h0;unfold Wt ZiZ Yr;dsimp only at h ⊢
 cases no with
 |true=>rw[yW rfl,yW (.inl rfl)];rfl
 |false=>
  rw[yX (by decide),yar];by_cases h1:b.length < n
  ·rw[yW (yY (by omega)),yW (.inr h1)];rfl
  ·rw[yX (ynd (by omega)),yW (ZF0 (by omega) (by omega)),yW (ZD (by rw[yah];omega) (by rw[yah];omega)),yW (ZuM (by omega) (by omega)),yX (by simp;omega)]
theorem ZuR{r:Zi}(h:r.1.length<=2000000):XG yD r=some (ZEB r):=by
 unfold XG ZEB;rw[ZJ6 (by omega) h,ya,show(8:Int).toNat=8 from rfl]
 have hl:=(Zs3 r 8).1;generalize (ZiZ r 8).1=l at hl;generalize (ZiZ r 8).2=q
 have e:=Zt (step:=Yx yD) l.length (λk:Nat=>(l,yx (beF l k),(k:Int),q)) (x:=(yx (beF l l.length),q)) (by
  intro k hk;obtain⟨d,hx,_⟩:=Zk hk;unfold Yx;dsimp only;rw[yW (ZV hk),Zq hx,ya,Zn (by omega)]
  have e1:256*yx (beF l k)+yx d.toNat=yx (beF l (k+1)):=by
   have h1:=ZEA l k;have h2:256 ^ k<=256 ^ 7:=Nat.pow_le_pow_right (by omega) (by omega);have h3:=d.toNat_lt;apply ybz.1;rw[UInt64.toNat_add,UInt64.toNat_mul,yaw,yaw,yaw,beF,hx];show(256*_ % _+_) % _=_;simp;omega
  rw[e1]) (by
  unfold Yx;dsimp only;rw[yX (by rw[ZH];decide)]) (by omega)
 have e:Zb (Yx yD) yD (l,(0:yU),(0:Int),q)=_:=e;rw[e,ya]
theorem ZCR{e:ZC}(hw:e.1.length<=9223372036854775807):∃b,Ql yD e=some b/\(b=true↔ZAA e/\ZAB e):=by
 unfold Ql;by_cases c1:(e.1.length:Int) > 12
 ·rw[yW (yY c1)];exact⟨_,rfl,λh=>(by cases h),λh=>by have:=h.1.1;omega⟩
 rw[yX (by rw[yN];exact c1)];by_cases c2:e.2.1 < 0
 ·rw[yW (yY c2)];exact⟨_,rfl,λh=>(by cases h),λh=>by have:=h.1.2.1;omega⟩
 rw[yX (by rw[yN];exact c2)];by_cases c3:e.2.1 > 1048576
 ·rw[yW (yY c3)];exact⟨_,rfl,λh=>(by cases h),λh=>by have:=h.1.2.2.1;omega⟩
 rw[yX (by rw[yN];exact c3)];by_cases c4:e.2.2.1 < 0
 ·rw[yW (yY c4)];exact⟨_,rfl,λh=>(by cases h),λh=>by have:=h.1.2.2.2.1;omega⟩
 rw[yX (by rw[yN];exact c4)];by_cases c5:e.2.2.1 > 1048576
 ·rw[yW (yY c5)];exact⟨_,rfl,λh=>(by cases h),λh=>by have:=h.1.2.2.2.2;omega⟩
 rw[yX (by rw[yN];exact c5)];have ok:ZAA e:=⟨by omega,by omega,by omega,by omega,by omega⟩
 obtain⟨x,h1,h2⟩:=Ym (step:=X0 yD) e.1.length (λk s=>s=((k:Int),e)/\∀j p,j < k->e.1[j]? =some p->Qu p.toNat) (λx=>(x=.inl (false,e)/\¬ZAB e)\/(x=.inr e/\∀p,p∈e.1->Qu p.toNat)) (i:=((0:Int),e)) ⟨rfl,λj p hj=>by omega⟩ (by omega) (by
  rintro k _ hk ⟨rfl,hj⟩;obtain⟨d,hd,hm⟩:=Zk hk;unfold X0;dsimp only;rw[yW (ZV hk),Zq hd,ya,Zc0,ya];by_cases hp:Qu d.toNat
  ·left;rw[yY hp,yX (by decide),Zn (by omega)];refine⟨_,rfl,rfl,λj p h3 h4=> ?_⟩;by_cases h5:j < k
   ·exact hj j p h5 h4
   ·have:j=k:=by omega
    subst this;rw[hd] at h4;cases h4;exact hp
  ·right;rw[yZ hp,yW (by decide)];exact⟨_,rfl,.inl ⟨rfl,λh=>hp (h.1 d hm)⟩⟩) (by
  rintro _ ⟨rfl,hj⟩;unfold X0;dsimp only;rw[yX (by rw[ZH];decide)];refine⟨_,rfl,.inr ⟨rfl,λp hp=> ?_⟩⟩;obtain⟨j,j1,j2⟩:=ycw hp;exact hj j p j1 (by rw[yab j1,j2]))
 rw[h1,ya];rcases h2 with⟨rfl,h2⟩|⟨rfl,h2⟩
 ·exact⟨_,rfl,λh=>(by cases h),λh=>absurd h.2 h2⟩
 ·dsimp only;rw[Zc0,ya];by_cases h0:e.2.2.2=0
  ·rw[yW (beq_iff_eq.2 h0)];exact⟨_,rfl,λ_=>⟨ok,h2,λh=>absurd h0 h⟩,λ_=>rfl⟩
  ·rw[yX (by rw[yT];exact h0)];refine⟨_,rfl,λh=>⟨ok,h2,λ_=>yF h⟩,λh=>yY (h.2.2 h0)⟩
theorem Zd0{l:yG}(hl:Ze0 l):∃b,Yp yD l=some b/\(b=true↔LockOk l/\LockPt l):=by
 obtain⟨w0,w1⟩:=hl;unfold Yp;by_cases c1:(l.length:Int) < 1
 ·rw[yW (yY c1)];exact⟨_,rfl,λh=>(by cases h),λh=>by have:=h.1.1;omega⟩
 rw[yX (by rw[yN];exact c1)];by_cases c2:(l.length:Int) > 4
 ·rw[yW (yY c2)];exact⟨_,rfl,λh=>(by cases h),λh=>by have:=h.1.2.1;omega⟩
 rw[yX (by rw[yN];exact c2)]
 obtain⟨x,h1,h2⟩:=Ym (step:=Wh yD) l.length (λk s=>s=((k:Int),l)/\∀j b,j < k->l[j]? =some b->ZAA b/\ZAB b) (λx=>(x=.inl (false,l)/\¬(LockOk l/\LockPt l))\/(x=.inr l/\∀b,b∈l->ZAA b/\ZAB b)) (i:=((0:Int),l)) ⟨rfl,λj p hj=>by omega⟩ (by omega) (by
  rintro k _ hk ⟨rfl,hj⟩;obtain⟨d,hd,hm⟩:=Zk hk;obtain⟨b,b1,b2⟩:=ZCR (w1 d hm);unfold Wh;dsimp only;rw[yW (ZV hk),Zq hd,ya,b1,ya]
  cases b with
  |true=>
   left;rw[yX (by decide),Zn (by omega)];refine⟨_,rfl,rfl,λj p h3 h4=> ?_⟩;by_cases h5:j < k
   ·exact hj j p h5 h4
   ·have:j=k:=by omega
    subst this;rw[hd] at h4;cases h4
    exact b2.1 rfl
  |false=>
   right;rw[yW (by decide)];exact⟨_,rfl,.inl ⟨rfl,λh=>by have:=b2.2 ⟨h.1.2.2 d hm,h.2 d hm⟩;cases this⟩⟩) (by
  rintro _ ⟨rfl,hj⟩;unfold Wh;dsimp only;rw[yX (by rw[ZH];decide)];refine⟨_,rfl,.inr ⟨rfl,λp hp=> ?_⟩⟩;obtain⟨j,j1,j2⟩:=ycw hp;exact hj j p j1 (by rw[yab j1,j2]))
 rw[h1,ya];rcases h2 with⟨rfl,h2⟩|⟨rfl,h2⟩
 ·exact⟨_,rfl,λh=>(by cases h),λh=>absurd h h2⟩
 ·exact⟨_,rfl,λ_=>⟨⟨by omega,by omega,λb hb=>(h2 b hb).1⟩,λb hb=>(h2 b hb).2⟩,λ_=>rfl⟩
theorem ZwZ{l:yG}(h:LockOk l)(hp:LockPt l):Yp yD l=some true:=by
 obtain⟨b,b1,b2⟩:=Zd0 (l:=l) ⟨by have:=h.2.1;omega,λb hb=>by have:=(h.2.2 b hb).1;omega⟩;rw[b1,b2.2 ⟨h,hp⟩]
theorem ZEE{c:yL yB}(hc:c.length<=100000){i:Int}{l:yG}{e:ZC}(hk:e.1.length<=12):
 Zb (Xe yD) yD (c,i,(0:Int),l,e)=some (c++cat Zkq e.1,i,l,e):=by
 have q:=Zt (step:=Xe yD) e.1.length (λk:Nat=>(c++cat Zkq (e.1.take k),i,(k:Int),l,e)) (x:=(c++cat Zkq e.1,i,l,e)) (by
  intro k hk2;obtain⟨d,hd,_⟩:=Zk hk2;have hl:=Zor hk k;unfold Xe;dsimp only;rw[yW (ZV hk2),Zq hd,ya,ZwX _ (by rw[yl];omega),ya,Zn (by omega),Zcf hd,yad];rfl) (by
  unfold Xe;dsimp only;rw[yX (by rw[ZH];decide),yat]) (by omega)
 rw[show cat Zkq (e.1.take 0)=[] from rfl,ybd] at q
 exact q
theorem Zgc{l:yG}(h:LockOk l)(hp:LockPt l):Xp yD l=some (XQ l):=by
 unfold Xp;have h0:=h.2.1;have h9:=Z7 (n:=l.length) (by omega);rw[ZwZ h hp,ya,yX (by decide),Zfn (by omega) (by omega) (by simp),ya,yw,yar]
 have q:=Zt (step:=Xf yD) l.length (λk:Nat=>(X4 l.length++cat brF (l.take k),(k:Int),l)) (x:=(XQ l,l)) (by
  intro k hk;obtain⟨e,he,hm⟩:=Zk hk;obtain⟨e1,e2,e3,e4,e5⟩:=h.2.2 e hm;have hl:=ZdX (f:=brF) (c:=131) (λx hx=>ZrV (h.2.2 x hx)) h.2.1 k;have hr:=Z7 (n:=e.1.length) (by omega);have hr2:=Z7 (n:=e.2.1.toNat) (by omega);have hr3:=Z7 (n:=e.2.2.1.toNat) (by omega);have hk8:=Zor e1 e.1.length;rw[yat] at hk8;unfold Xf;dsimp only
  rw[yW (ZV hk),Zq he,ya,Zfn (by omega) (by omega) (by rw[yl];omega),ya,yar,
   ZEE (by simp only[yl];omega) e1,ya]
  dsimp only
  rw[Zfn e2 (by omega) (by simp only[yl];omega),ya,Zfn e4 (by omega) (by simp only[yl];omega),ya,
   ZwX _ (by simp only[yl];omega),ya,Zn (by omega),Zcf he]
  unfold brF;simp only[yad]) (by
  unfold Xf;dsimp only;rw[yX (by rw[ZH];decide),yat];rfl) (by omega)
 rw[show cat brF (l.take 0)=[] from rfl,ybd] at q
 have q:Zb (Xf yD) yD (X4 l.length,(0:Int),l)=_:=q;rw[q,ya]
theorem ZyQ(d z:Int):QK yD (Tm d) z=some (decide (z >= 100)):=rfl
theorem ZAL{A:Int}{k0 k1:Kit}{op:Int}(h:ChOk A k0 k1 op){s:yH}{h0 h1:Int}(hs:StIn A s h0 h1)(hc:hav op h0 h1 >= cost s.2.2.2 s.2.2.1.length):W0 yD (Zo A k0 k1 op) s=some (decide (s.2.2.1=[])):=by
 unfold W0;rw[Zs2 h hs,ya,yY hc,yW rfl];congr 1
 cases s.2.2.1 with
 |nil=>rfl
 |cons c r=>simp;omega
theorem ZAM{A:Int}{k0 k1:Kit}{op:Int}(ho:op=0\/op=1){s:yH}{h0 h1:Int}(hv:s.2.1=[h0,h1])(fee:Int):Xt yD (Zo A k0 k1 op) s fee=some (decide (52<=fee/\fee<=hav op h0 h1)):=by
 unfold Xt;rw[show(Zo A k0 k1 op).2.2.2.2=op from rfl,hv]
 by_cases q1:fee >= 52
 ·rw[yW (yY q1),yW (Ys ho),Zfm ho,ya];by_cases h2:fee<=hav op h0 h1
  ·rw[yY h2,yY ⟨q1,h2⟩]
  ·rw[yZ h2,yZ (λh=>h2 h.2)]
 ·rw[yX (by rw[yN];exact q1),yZ (λh=>q1 h.1)]
theorem ZCS{A:Int}{k0 k1:Kit}{op:Int}{s:yH}{l0 l1:yG}{t:Tx}{p0 p1:Int}{ins:yL In}{note:Int}{o:yL Out}{f k c:Int}(hk:k=0\/k=1)(hc:c=0\/c=1)(he:yav (wi (f+k)) 2=c)(ho:o.length<=1):
 Yn yD (f,k,Zo A k0 k1 op,s,[l0,l1],t,[p0,p1],ins,note,o)=some (.inl (f,k+1,Zo A k0 k1 op,s,[l0,l1],t,[p0,p1],ins,note,o++(if(if c=0 then p0 else p1) >= 100 then[(if c=0 then p0 else p1,ZqE l0 l1 c)] else[]))):=by
 have hT:(Zo A k0 k1 op).2.2.2.1=[Tm 5,Tm 6]:=rfl
 have hp:([p0,p1]:yL Int)[c.toNat]? =some (if c=0 then p0 else p1):=by
  rcases hc with rfl|rfl <;> rfl
 have hl:([l0,l1]:yL yG)[c.toNat]? =some (ZqE l0 l1 c):=by
  rcases hc with rfl|rfl <;> rfl
 generalize (if c=0 then p0 else p1)=p at hp ⊢
 unfold Yn;dsimp only;rw[yW (yY (by omega)),hT,yau,ya,he,yW (Ys hc),hp,ya,ZyQ,ya,yaq,yau,ya,yW (Ys hc),ya,ZyQ,ya,ZG (z:=k+1) (by omega) (by omega)];by_cases h:p >= 100
 ·rw[yW (yY h),yW (yY h),yW (Ys hc),ya,yW (Ys hc),hl,ya,yW (ZD (by omega) (by omega)),yW h]
 ·rw[yX (by rw[yN];exact h),yX h,ybd]
theorem ZCT{A:Int}{k0 k1:Kit}{op:Int}{s:yH}{l0 l1:yG}{t:Tx}{p0 p1:Int}{ins:yL In}{note:Int}{f:Int}(hf:f=0\/f=1):
 Zb (Yn yD) yD (f,(0:Int),Zo A k0 k1 op,s,[l0,l1],t,[p0,p1],ins,note,([]:yL Out))=some (Zo A k0 k1 op,s,[l0,l1],t,[p0,p1],ins,note,(if(if f=0 then p0 else p1) >= 100 then[(if f=0 then p0 else p1,ZqE l0 l1 f)] else[])++(if(if 1 - f=0 then p0 else p1) >= 100 then[(if 1 - f=0 then p0 else p1,ZqE l0 l1 (1 - f))] else[])):=by
 have s0:=ZCS (A:=A) (k0:=k0) (k1:=k1) (op:=op) (s:=s) (l0:=l0) (l1:=l1) (t:=t) (p0:=p0) (p1:=p1) (ins:=ins) (note:=note) (o:=[]) (f:=f) (k:=0) (c:=f) (.inl rfl) hf (by rcases hf with rfl|rfl <;> rfl) (by simp);rw[yw] at s0
 have ol:(if(if f=0 then p0 else p1) >= 100 then[(if f=0 then p0 else p1,ZqE l0 l1 f)] else([]:yL Out)).length<=1:=by
  generalize (if f=0 then p0 else p1)=p
  split <;> simp
 have s1:=ZCS (A:=A) (k0:=k0) (k1:=k1) (op:=op) (s:=s) (l0:=l0) (l1:=l1) (t:=t) (p0:=p0) (p1:=p1) (ins:=ins) (note:=note) (f:=f) (k:=1) (c:=1 - f) (.inr rfl) (by omega) (by rcases hf with rfl|rfl <;> rfl) ol
 refine Zt 2 (λk:Nat=>match k with
  |0=>(f,(0:Int),Zo A k0 k1 op,s,[l0,l1],t,[p0,p1],ins,note,([]:yL Out))
  |1=>(f,(1:Int),Zo A k0 k1 op,s,[l0,l1],t,[p0,p1],ins,note,(if(if f=0 then p0 else p1) >= 100 then[(if f=0 then p0 else p1,ZqE l0 l1 f)] else[]))
  |_=>(f,(2:Int),Zo A k0 k1 op,s,[l0,l1],t,[p0,p1],ins,note,(if(if f=0 then p0 else p1) >= 100 then[(if f=0 then p0 else p1,ZqE l0 l1 f)] else[])++(if(if 1 - f=0 then p0 else p1) >= 100 then[(if 1 - f=0 then p0 else p1,ZqE l0 l1 (1 - f))] else[]))) ?_ ?_ (by omega)
 ·intro k hk
  match k,hk with
  |0,_=>exact s0
  |1,_=>exact s1
 ·unfold Yn;rfl
theorem Zs6{A:Int}{k0 k1:Kit}{op:Int}(h:ChOk A k0 k1 op){s:yH}{h0 h1:Int}{l0 l1:yG}(hs:StIn A s h0 h1)(hc:hav op h0 h1 >= cost s.2.2.2 s.2.2.1.length)(w0:Ze0 l0)(w1:Ze0 l1)(fee:Int):
 YL yD (Zo A k0 k1 op) s [l0,l1] fee=some (mkF op h0 h1 s.2.2.1 l0 l1 fee):=by
 have ho:=h.o;have hA:=h.hi;have p0:=hs.p0;have p1:=hs.p1;have ht:=hs.tot;obtain⟨b0,e0,f0⟩:=Zd0 w0;obtain⟨b1,e1,f1⟩:=Zd0 w1;unfold YL;rw[ZAL h hs hc,ya];by_cases hn:s.2.2.1=[]
 ·have n1:¬(s.2.2.1≠[]):=λh=>h hn;rw[yY hn,yX (by decide),yau,ya,e0,ya,yaq,yau,ya,e1,ya];by_cases g0:LockOk l0/\LockPt l0
  ·rw[f0.2 g0,yX (by decide)];by_cases g1:LockOk l1/\LockPt l1
   ·rw[f1.2 g1,yX (by decide),ZAM ho hs.hv,ya]
    have n2:¬(¬(LockOk l0/\LockPt l0)\/¬(LockOk l1/\LockPt l1)):=by
     rintro(h|h)
     ·exact h g0
     ·exact h g1
    by_cases hf:52<=fee/\fee<=hav op h0 h1
    ·have n3:¬¬(52<=fee/\fee<=hav op h0 h1):=λh=>h hf;rw[show mkF op h0 h1 s.2.2.1 l0 l1 fee=_ from(yX n1).trans ((yX n2).trans (yX n3))]
     rw[yY hf,yX (by decide),show(Zo A k0 k1 op).2.2.2.2=op from rfl,yW (Ys ho),hs.hv,Zfm ho,ya,yW (Ys ho),ya]
     rw[hn,show amtC ([]:yL Cond)=0 from rfl] at ht
     have hh:hav op h0 h1<=4300000000:=by
      unfold hav;split <;> omega
     have hset:([h0,h1]:yL Int).set op.toNat (wi (hav op h0 h1 - fee))=[ZdZ op h0 h1 fee 0,ZdZ op h0 h1 fee 1]:=by
      rw[ZG (by omega) (by omega)];rcases ho with rfl|rfl <;> rfl
     rw[hset,yaq,yau,ya,yau,ya];unfold outs0 Zos;have z1:∀(t:Tx)(q0 q1:Int)(ins:yL In)(note:Int),Zb (Yn yD) yD ((1:Int),(0:Int),Zo A k0 k1 op,s,[l0,l1],t,[q0,q1],ins,note,([]:yL Out))=some (Zo A k0 k1 op,s,[l0,l1],t,[q0,q1],ins,note,(if q1 >= 100 then[(q1,l1)] else[])++(if q0 >= 100 then[(q0,l0)] else[])):=λt q0 q1 ins note=>ZCT (.inr rfl)
     have z0:∀(t:Tx)(q0 q1:Int)(ins:yL In)(note:Int),Zb (Yn yD) yD ((0:Int),(0:Int),Zo A k0 k1 op,s,[l0,l1],t,[q0,q1],ins,note,([]:yL Out))=some (Zo A k0 k1 op,s,[l0,l1],t,[q0,q1],ins,note,(if q0 >= 100 then[(q0,l0)] else[])++(if q1 >= 100 then[(q1,l1)] else[])):=λt q0 q1 ins note=>ZCT (.inl rfl)
     have fin:∀x,x=ZEC ((if ZdZ op h0 h1 fee 0 >= 100 then[(ZdZ op h0 h1 fee 0,l0)] else[])++(if ZdZ op h0 h1 fee 1 >= 100 then[(ZdZ op h0 h1 fee 1,l1)] else[]))->(some ((([((Zo A k0 k1 op).1,(0,[],0))]:yL In),x,(2097154:Int)),(0:Int)):yO (Tx×Int))=some (([((z32,0),(0,[],0))],ZEC ((if ZdZ op h0 h1 fee 0 >= 100 then[(ZdZ op h0 h1 fee 0,ZqE l0 l1 0)] else[])++(if ZdZ op h0 h1 fee 1 >= 100 then[(ZdZ op h0 h1 fee 1,ZqE l0 l1 1)] else[])),2097154),0):=λx hx=>by
      rw[hx];rfl
     generalize ZdZ op h0 h1 fee 0=q0 at*;generalize ZdZ op h0 h1 fee 1=q1 at*;by_cases hlt:q1 < q0
     ·rw[yW (yY hlt),z1,ya];refine fin _ ?_;by_cases d0:q0 >= 100
      ·by_cases d1:q1 >= 100
       ·rw[yW d0,yW d1];show _=(if q1 < q0 then _ else _)
        rw[yW hlt];rfl
       ·rw[yW d0,yX d1];rfl
      ·rw[yX d0,yX (show¬q1 >= 100 by omega)];rfl
     ·rw[yX (by rw[yN];exact hlt),z0,ya];refine fin _ ?_;by_cases d0:q0 >= 100
      ·rw[yW d0,yW (show q1 >= 100 by omega)];show _=(if q1 < q0 then _ else _)
       rw[yX hlt];rfl
      ·by_cases d1:q1 >= 100
       ·rw[yX d0,yW d1];rfl
       ·rw[yX d0,yX d1];rfl
    ·rw[yZ hf,yW (by decide),show mkF op h0 h1 s.2.2.1 l0 l1 fee=_ from(yX n1).trans ((yX n2).trans (yW hf))]
   ·have:b1=false:=by cases b1 with|false=>rfl|true=>exact absurd (f1.1 rfl) g1
    subst this;rw[yW (by decide),show mkF op h0 h1 s.2.2.1 l0 l1 fee=_ from(yX n1).trans (yW (.inr g1))]
  ·have:b0=false:=by cases b0 with|false=>rfl|true=>exact absurd (f0.1 rfl) g0
   subst this;rw[yW (by decide),show mkF op h0 h1 s.2.2.1 l0 l1 fee=_ from(yX n1).trans (yW (.inl g0))]
 ·rw[yZ hn,yW (by decide),show mkF op h0 h1 s.2.2.1 l0 l1 fee=_ from yW hn]
theorem ZJ7{b:yL yB}{n i m:Int}{l:yG}{r:Zi}{acc:yL ZC}{i1 i2:Int}{u:yU}(hm:m<=12)(hr:r.1.length<=2000000):
 ∃r' w,Zb (WK yD) yD (b,n,i,m,(0:Int),l,r,acc,i1,i2,u,([]:yL yU))=some (b,n,i,l,r',acc,i1,i2,u,w)/\r'.1.length<=2000000/\w.length<=12:=by
 obtain⟨x,h1,r',w,rfl,h2⟩:=Ym (step:=WK yD) m.toNat (λk s=>∃r' w,s=(b,n,i,m,(k:Int),l,r',acc,i1,i2,u,w)/\r'.1.length<=2000000/\w.length=k) (λx=>∃r' w,x=(b,n,i,l,r',acc,i1,i2,u,w)/\r'.1.length<=2000000/\w.length<=12)
  (i:=(b,n,i,m,(0:Int),l,r,acc,i1,i2,u,([]:yL yU))) ⟨r,[],rfl,hr,rfl⟩ (by omega) (by
  rintro k _ hk ⟨r',w,rfl,h1,h2⟩;left;have hl:=ZrX r';unfold WK;dsimp only;rw[yW (yY (by omega)),ZuN h1,ya,yW (ZD (by omega) (by omega)),Zn (by omega)];exact⟨_,rfl,_,_,rfl,by omega,by simp[h2]⟩) (by
  rintro _ ⟨r',w,rfl,h1,h2⟩;unfold WK;dsimp only;rw[yX (ynd (by omega))];exact⟨_,rfl,_,_,rfl,h1,by omega⟩)
 exact⟨r',w,h1,h2⟩
theorem tk1:tk 1=1:=ZJJ ZAc
theorem ZNO(n:Nat):sc 1 n=1:=by
 rw[<-ybz,ZEu,tk1,show(1:yU).toNat=1 from rfl,Nat.one_pow]
 rfl
theorem ZEF(p:yU)(h:Qu p.toNat):ad p 1=p:=by
 rw[<-ybz,ZNA,ZJJ h,tk1];show p.toNat*1 % mdl=_;rw[Nat.mul_one,yaf h.2.1]
instance(k:yU):Decidable (Key k):=by unfold Key;infer_instance
theorem ZF7(k:yU):Zk2 yD k=some (decide (Key k)):=by
 unfold Zk2;rw[ZsZ,ya];by_cases h:k.toNat < ord
 ·rw[yW (yY h)];congr 1;by_cases h0:k=0
  ·subst h0;rw[yZ (by unfold Key;exact λh=>absurd h.1 (by decide))];rfl
  ·have:0 < k.toNat:=by
    rcases Nat.eq_zero_or_pos k.toNat with h1|h1
    ·exact absurd (ybz.1 h1) h0
    ·exact h1
   rw[yY (p:=Key k) ⟨this,h⟩];exact bne_iff_ne.2 h0
 ·rw[yX (by rw[yN];exact h),yZ (λhk=>h hk.2)]
theorem Zs7(p:yU):ZcS yD p=some (Zb2 p.toNat):=by
 unfold ZcS
 have e:=Zt (step:=QY yD) 8 (λk:Nat=>(p,(8:Int),(k:Int),Zp3 (Zb2 p.toNat) 8 k)) (x:=Zb2 p.toNat) (by
  intro k hk;have hb:(Zb2 p.toNat)[k]? =_:=ZAw p hk;have hl:(Zb2 p.toNat).length=8:=rfl;unfold QY;dsimp only;have q1:min (56 - 8*(k:Int)).toNat 64=56 - 8*k:=by omega
  rw[yW (yY (by omega)),ZG (z:=8*(k:Int)) (by omega) (by omega),ZG (z:=56 - 8*(k:Int)) (by omega) (by omega),yW (yY (by omega)),yW (Yz (by omega) (by omega)),yar,ybe,ZyC (by omega) (by omega),ya,Zn (by omega),q1,ZyD hb (by omega)]) (by
  unfold QY;dsimp only;rw[yX (ynd (by omega)),ZyE (n:=8) (WL _)]) (by omega)
 have e:Zb (QY yD) yD (p,(8:Int),(0:Int),([0,0,0,0,0,0,0,0]:yL yB))=_:=e;rw[e,ya];rfl
noncomputable def chF(r p:yU)(m:yL yB):yU:=frF (Sha.sha (ZxD ZJA [Zb2 r.toNat,Zb2 p.toNat,m]))
theorem ZF8(r p:yU){m:yL yB}(hm:m.length=32):Zaw yD r p m=some (chF r p m):=by
 unfold Zaw
 rw[Zs7,ya,Zs7,ya,ZED (by decide) (by simp) (by
  intro l hl;simp only[ybh,ycv,or_false] at hl;rcases hl with rfl|rfl|rfl
  ·exact ybm (Nat.le_of_eq (WL _)) (by decide)
  ·exact ybm (Nat.le_of_eq (WL _)) (by decide)
  ·omega),ya,ZF6 (Sha.ZO8 _),ya]
 rfl
noncomputable def noF(k:yU)(m:yL yB):yU:=frF (Sha.sha (ZxD ZJB [Zb2 k.toNat,m]))
noncomputable def sgF(k:yU)(m:yL yB):Sig:=
 if Key k then(B (noF k m).toNat,yx (((noF k m).toNat+(yx ((chF (B (noF k m).toNat) (B k.toNat) m).toNat*k.toNat % ord)).toNat) % ord)) else(0,0)
theorem ZLH(k:yU){m:yL yB}(hm:m.length=32):ZlV yD k m=some (sgF k m):=by
 unfold ZlV sgF;rw[ZF7,ya];by_cases hk:Key k
 ·rw[yY hk,yX (by decide),yW hk,Zs7,ya,ZED (by decide) (by simp) (by
   intro l hl;simp only[ybh,ycv,or_false] at hl;rcases hl with rfl|rfl
   ·exact ybm (Nat.le_of_eq (WL _)) (by decide)
   ·omega),ya,ZF6 (Sha.ZO8 _),ya]
  unfold ZlU;rw[Zhz,ya,ZNB,ZEF _ (ZHe _),ya,Zhz,ya,ZF8 _ _ hm,ya,ZLq,ya,ZFQ,ya];rfl
 ·rw[yZ hk,yW (by decide),yX hk]
instance(n:Nat):Decidable (Qu n):=by unfold Qu;infer_instance
noncomputable def Zw0(p:yU)(m:yL yB)(s:Sig):Bool:=decide (p≠1/\Qu p.toNat/\Qu s.1.toNat/\s.2.toNat < ord/\B s.2.toNat=ad s.1 (sc p (chF s.1 p m).toNat))
theorem ZLI(a b:yU):yx (Zop [a,b,sc 1 (ord - 1)] 1)=ad a b:=by
 rw[ZNO];unfold Zop Zop Zop Zop ad;rw[tk1,show(1:yU).toNat=1 from rfl,Nat.one_mul,Nat.mul_one,Nat.mod_mod,Nat.mod_mul_mod]
theorem ZHp(p:yU){m:yL yB}(hm:m.length=32)(s:Sig):Zhv yD p m s=some (Zw0 p m s):=by
 have h:Zhu yD p m 1 s=some (Zw0 p m s):=by
  unfold Zhu;rw[ZiY,ZiY,ZiY,ZsZ,ya,ya,ya,ya,ZF8 _ _ hm,ya,ZCy,ya,ZNC,ya,ZJM (by simp),ya,Zhz,ya,ZLI];unfold Zw0;by_cases h0:p=1
  ·rw[yW (beq_iff_eq.2 h0),yZ (λh=>h.1 h0)]
  rw[yX (by rw[yT];exact h0)];by_cases h1:Qu p.toNat
  ·rw[yY h1,yX (by decide),yY (show Qu (1:yU).toNat from ZAc),yX (by decide)]
   by_cases h2:Qu s.1.toNat
   ·rw[yY h2,yX (by decide)];by_cases h3:s.2.toNat < ord
    ·rw[yY h3,yX (by decide)];by_cases h4:B s.2.toNat=ad s.1 (sc p (chF s.1 p m).toNat)
     ·rw[yY ⟨h0,h1,h2,h3,h4⟩,beq_iff_eq.2 h4]
     ·rw[yZ (λh=>h4 h.2.2.2.2),beq_eq_false_iff_ne.2 h4]
    ·rw[yZ h3,yW (by decide),yZ (λh=>h3 h.2.2.2.1)]
   ·rw[yZ h2,yW (by decide),yZ (λh=>h2 h.2.2.1)]
  ·rw[yZ h1,yW (by decide),yZ (λh=>h1 h.2.1)]
 unfold Zhv;rw[h,ya]
theorem ZJ8{a b:yL yB}(h:a.length<=2000000):Yo yD a b=some (decide (a=b)):=by
 obtain⟨r,hr⟩:=ZHk (a:=a) (b:=b) h;by_cases hab:a=b
 ·subst hab;rw[ZwW h,yY rfl]
 ·rw[yZ hab];unfold Yo;by_cases hl:a.length=b.length
  ·rw[yX (by simp[hl])]
   obtain⟨x,h1,h2⟩:=Ym (step:=ZT yD) a.length (λk s=>s=(a,b,(a.length:Int),(k:Int))/\a.take k=b.take k) (λx=>x=.inl false) (i:=(a,b,(a.length:Int),(0:Int))) ⟨rfl,rfl⟩ (by omega) (by
    rintro k _ hk ⟨rfl,ht⟩;obtain⟨e,he,_⟩:=Zk hk;obtain⟨f,hf,_⟩:=Zk (l:=b) (k:=k) (by omega);unfold ZT;dsimp only;rw[yW (ZV hk),Zq he,ya,Zq hf,ya,Zn (by omega)];by_cases hef:e=f
    ·left;rw[yX (by simp[hef])];exact⟨_,rfl,rfl,by rw[List.take_add_one,List.take_add_one,ht,he,hf,hef]⟩
    ·right;rw[yW (bne_iff_ne.2 hef)];exact⟨_,rfl,rfl⟩) (by
    rintro _ ⟨rfl,ht⟩;rw[yat,hl,yat] at ht;exact absurd ht hab)
   rw[h1,ya,h2]
  ·rw[yW (by simp;omega)]
theorem ZAN{b:yL yB}(hb:b.length<=2000000):∃l ok,W6 yD b=some (l,ok)/\(ok=true->LockOk l/\LockPt l/\XQ l=b)/\(ok=false->l=[]):=by
 unfold W6;rw[ZF2 hb,ya,Zml hb,ya];have hnl:=Zgb (b,false);generalize Zgx (b,false)=q at hnl;obtain⟨n,r⟩:=q;dsimp only at hnl ⊢
 obtain⟨x,h1,r',acc,rfl,h2,h3⟩:=Ym (step:=Qv yD) (min n.toNat 4) (λk s=>∃r acc,s=(b,n,(k:Int),([]:yG),r,acc)/\r.1.length<=2000000/\acc.length=k/\∀e,e∈acc->e.1.length<=12) (λx=>∃r acc,x=(b,([]:yG),r,acc)/\acc.length<=4/\∀e,e∈acc->e.1.length<=12)
  (i:=(b,n,(0:Int),([]:yG),r,([]:yL ZC))) ⟨r,[],rfl,by omega,rfl,λe he=>by cases he⟩ (by omega) (by
  rintro k _ hk ⟨r,acc,rfl,h1,h2,h3⟩;have hl:=Zgb r;unfold Qv;dsimp only;rw[yW (yY (by omega)),Zml h1,ya,yX (by rw[yT];omega)];by_cases hk12:(Zgx r).1 > 12
  ·right;rw[yW (yY hk12)];exact⟨_,rfl,_,_,rfl,by omega,h3⟩
  ·left;rw[yX (by rw[yN];exact hk12)];obtain⟨r2,w,e1,e2,e3⟩:=ZJ7 (b:=b) (n:=n) (i:=(k:Int)) (m:=(Zgx r).1) (l:=[]) (r:=(Zgx r).2) (acc:=acc) (i1:=0) (i2:=0) (u:=0) (by omega) (by omega);have hl2:=Zgb r2;have hl3:=Zgb (Zgx r2).2;have hl4:=ZrX (Zgx (Zgx r2).2).2;rw[e1,ya];dsimp only;rw[Zml e2,ya,Zml (by omega),ya,ZuN (by omega),ya,yW (ZD (by omega) (by omega)),Zn (by omega)];refine⟨_,rfl,_,_,rfl,by omega,by simp[h2],λe he=> ?_⟩;rcases ycg.1 he with he|he
   ·exact h3 e he
   ·rw[yam.1 he];exact e3) (by
  rintro _ ⟨r,acc,rfl,h1,h2,h3⟩;unfold Qv;dsimp only;by_cases hn:((min n.toNat 4:Nat):Int) < n
  ·rw[yW (yY hn),Zml h1,ya,yW (by rw[yT];omega)];exact⟨_,rfl,_,_,rfl,by omega,h3⟩
  ·rw[yX (by rw[yN];exact hn)];exact⟨_,rfl,_,_,rfl,by omega,h3⟩)
 rw[h1,ya];dsimp only;have hw:Ze0 acc:=⟨by omega,λe he=>by have:=h3 e he;omega⟩;obtain⟨k,hk1,hk2⟩:=ZdY hw;rw[hk1,ya]
 cases k with
 |false=>exact⟨_,_,rfl,λh=>(by cases h),λ_=>rfl⟩
 |true=>
  have hk:=hk2.1 rfl;have zY:=Q1 hk.1;rw[yX (by decide),ZeZ hk.1 hk.2,ya,ZJ8 (by omega),ya];by_cases hz:XQ acc=b
  ·rw[yY hz,yX (by decide)];exact⟨_,_,rfl,λ_=>⟨hk.1,hk.2,hz⟩,λh=>(by cases h)⟩
  ·rw[yZ hz,yW (by decide)];exact⟨_,_,rfl,λh=>(by cases h),λ_=>rfl⟩
open Classical in
noncomputable def rdF(b:yL yB):yG×Bool:=if h:∃l,LockOk l/\LockPt l/\XQ l=b then(h.choose,true) else([],false)
theorem ZF9{b:yL yB}(hb:b.length<=2000000):W6 yD b=some (rdF b):=by
 obtain⟨l,ok,h1,h2,h3⟩:=ZAN hb;unfold rdF;by_cases h:∃l,LockOk l/\LockPt l/\XQ l=b
 ·obtain⟨c1,c2,c3⟩:=h.choose_spec;have:=ZyO c1 c2;rw[c3] at this;rw[dif_pos h,this]
 ·rw[dif_neg h,h1]
  cases ok with
  |false=>rw[h3 rfl]
  |true=>exact absurd ⟨l,h2 rfl⟩ h
theorem ZHq{n i m:Int}{l:yG}{r:Zi}{acc:yL ZC}{i1 i2:Int}{u:yU}(hr:r.1.length<=2000000):
 ∃r' w,Zb (Z6 yD) yD (n,i,m,(0:Int),r,l,acc,i1,i2,u,([]:yL yU))=some (n,i,r',l,acc,i1,i2,u,w)/\r'.1.length<=2000000/\w.length<=13:=by
 obtain⟨x,h1,r',w,rfl,h2⟩:=Ym (step:=Z6 yD) (min m.toNat 13) (λk s=>∃r' w,s=(n,i,m,(k:Int),r',l,acc,i1,i2,u,w)/\r'.1.length<=2000000/\w.length=k) (λx=>∃r' w,x=(n,i,r',l,acc,i1,i2,u,w)/\r'.1.length<=2000000/\w.length<=13)
  (i:=(n,i,m,(0:Int),r,l,acc,i1,i2,u,([]:yL yU))) ⟨r,[],rfl,hr,rfl⟩ (by omega) (by
  rintro k _ hk ⟨r',w,rfl,h1,h2⟩;left;have hl:=ZrX r';unfold Z6;dsimp only;rw[yW (yY (by omega)),yW (yY (by omega)),ZuR h1,ya,yW (ZD (by omega) (by omega)),Zn (by omega)];exact⟨_,rfl,_,_,rfl,by omega,by simp[h2]⟩) (by
  rintro _ ⟨r',w,rfl,h1,h2⟩;unfold Z6;dsimp only;by_cases hm:((min m.toNat 13:Nat):Int) < m
  ·rw[yW (yY hm),yX (ynd (by omega))];exact⟨_,rfl,_,_,rfl,h1,by omega⟩
  ·rw[yX (by rw[yN];exact hm)];exact⟨_,rfl,_,_,rfl,h1,by omega⟩)
 exact⟨r',w,h1,h2⟩
theorem ZCU{r:Zi}(hr:r.1.length<=2000000):∃l r',X3 yD r=some (l,r')/\l.length<=5/\∀e,e∈l->e.1.length<=13:=by
 unfold X3;have hnl:=Zgb r;rw[ZjN hr,ya];generalize Zgx r=q at hnl;obtain⟨n,r1⟩:=q;dsimp only at hnl ⊢
 obtain⟨x,h1,r',acc,rfl,h2,h3⟩:=Ym (step:=YD yD) (min n.toNat 5) (λk s=>∃r acc,s=(n,(k:Int),r,([]:yG),acc)/\r.1.length<=2000000/\acc.length=k/\∀e,e∈acc->e.1.length<=13) (λx=>∃r acc,x=(r,([]:yG),acc)/\acc.length<=5/\∀e,e∈acc->e.1.length<=13)
  (i:=(n,(0:Int),r1,([]:yG),([]:yL ZC))) ⟨r1,[],rfl,by omega,rfl,λe he=>by cases he⟩ (by omega) (by
  rintro k _ hk ⟨r,acc,rfl,h1,h2,h3⟩;left;have hl:=Zgb r;unfold YD;dsimp only;rw[yW (yY (by omega)),yW (yY (by omega)),ZjN h1,ya];obtain⟨r2,w,e1,e2,e3⟩:=ZHq (n:=n) (i:=(k:Int)) (m:=(Zgx r).1) (l:=[]) (r:=(Zgx r).2) (acc:=acc) (i1:=0) (i2:=0) (u:=0) (by omega);have hl2:=Zgb r2;have hl3:=Zgb (Zgx r2).2;have hl4:=ZrX (Zgx (Zgx r2).2).2;rw[e1,ya];dsimp only;rw[ZjN e2,ya,ZjN (by omega),ya,ZuR (by omega),ya,yW (ZD (by omega) (by omega)),Zn (by omega)];refine⟨_,rfl,_,_,rfl,by omega,by simp[h2],λe he=> ?_⟩;rcases ycg.1 he with he|he
  ·exact h3 e he
  ·rw[yam.1 he];exact e3) (by
  rintro _ ⟨r,acc,rfl,h1,h2,h3⟩;unfold YD;dsimp only;by_cases hn:((min n.toNat 5:Nat):Int) < n
  ·rw[yW (yY hn),yX (ynd (by omega))];exact⟨_,rfl,_,_,rfl,by omega,h3⟩
  ·rw[yX (by rw[yN];exact hn)];exact⟨_,rfl,_,_,rfl,by omega,h3⟩)
 rw[h1,ya];exact⟨_,_,rfl,h2,h3⟩
theorem ZEG{n i:Int}{l:yG}{yQ:yL yB}{acc:yL ZC}{i1 i2:Int}{u:yU}{ks:yL yU}(hk:ks.length<=12)(hr:yQ.length<=100000):
 Zb (Z6 yD) yD (n,i,(ks.length:Int),(0:Int),(cat Zkq ks++yQ,false),l,acc,i1,i2,u,([]:yL yU))=some (n,i,(yQ,false),l,acc,i1,i2,u,ks):=by
 refine Zt ks.length (λk:Nat=>(n,i,(ks.length:Int),(k:Int),(cat Zkq (ks.drop k)++yQ,false),l,acc,i1,i2,u,ks.take k)) ?_ ?_ (by omega)
 ·intro k hk2;obtain⟨e,he,_⟩:=Zk hk2;have hl:=ZbO (f:=Zkq) (c:=8) (λx _=>Nat.le_of_eq (Qq _)) hk k;unfold Z6;dsimp only;rw[yW (ZV hk2),yW (yY (by omega)),ZuR (by dsimp only;rw[yl];omega),ya,Zr0 he,yad];unfold Zkq;rw[ZuO,yW (ZD (by rw[yah];omega) (by rw[yah];omega)),Zn (by omega),ZdM he]
 ·unfold Z6;dsimp only;rw[yX (by rw[ZH];decide),List.drop_length,yat];rfl
theorem ZAO{l:yG}(h:LockOk l)(hp:LockPt l):X3 yD (XQ l,false)=some (l,([],false)):=by
 have zY:=Q1 h;unfold X3;rw[ZjN (by dsimp only;omega),ya];have h0:=h.2.1
 have e0:Zgx (XQ l,false)=((l.length:Int),(cat brF l,false)):=by
  have:=ZjM (z:=(l.length:Int)) (by omega) (by omega) (cat brF l);rw[yar] at this;exact this
 have hbl:∀k,(cat brF (l.drop k)).length<=4*131:=ZbO (λx hx=>ZrV (h.2.2 x hx)) h0;rw[e0];dsimp only
 rw[show((l.length:Int),(0:Int),(cat brF l,false),([]:yG),([]:yL ZC))=(λk:Nat=>((l.length:Int),(k:Int),(cat brF (l.drop k),false),([]:yG),l.take k)) 0 from rfl,
  Zt (x:=((([]:yL yB),false),([]:yG),l)) l.length (λk:Nat=>((l.length:Int),(k:Int),(cat brF (l.drop k),false),([]:yG),l.take k)) ?_ ?_ (by omega),ya]
 ·intro k hk;obtain⟨e,he,hm⟩:=Zk hk;obtain⟨e1,e2,e3,e4,e5⟩:=h.2.2 e hm;have hl:=hbl k;have hl2:=hbl (k+1);have r2:=Z7 (n:=e.2.1.toNat) (by omega);have r3:=Z7 (n:=e.2.2.1.toNat) (by omega);have r4:=Qq e.2.2.2.toNat
  have hks:=ZbO (f:=Zkq) (c:=8) (l:=e.1) (λx _=>Nat.le_of_eq (Qq _)) e1 0;rw[List.drop_zero] at hks;unfold YD;dsimp only;rw[yW (ZV hk),yW (yY (by omega)),ZjN (by dsimp only;omega),ya,Zr0 he];unfold brF;simp only[yad];have q1:=ZjM (z:=(e.1.length:Int)) (by omega) (by omega) (cat Zkq e.1++(X4 e.2.1.toNat++(X4 e.2.2.1.toNat++(Zm5 e.2.2.2.toNat++cat brF (l.drop (k+1))))));rw[yar] at q1;unfold brF at q1 hl2;rw[q1];dsimp only;rw[ZEG e1 (by simp only[yl];omega),ya];dsimp only;rw[ZjN (by simp only[yl];omega),ya,ZjM e2 (by omega)];dsimp only;rw[ZjN (by simp only[yl];omega),ya,ZjM e4 (by omega)];dsimp only;rw[ZuR (by simp only[yl];omega),ya,ZuO,yW (ZD (by rw[yah];omega) (by rw[yah];omega)),Zn (by omega),ZdM he]
 ·unfold YD;dsimp only;rw[yX (by rw[ZH];decide),List.drop_length,yat];rfl
theorem Zmm(a b:yL yB):((WX a).data.toList==(WX b).data.toList)=decide (a=b):=by
 have:(WX a).data.toList=a/\(WX b).data.toList=b:=⟨rfl,rfl⟩;rw[this.1,this.2];by_cases h:a=b
 ·rw[yY h,beq_iff_eq.2 h]
 ·rw[yZ h,beq_eq_false_iff_ne.2 h]
theorem ZCV{b:yL yB}(h:b.length<=2000000):Zap yD b=some (b,false):=by
 unfold Zap;rw[yW (ZD (by omega) (by omega))]
theorem ZJ9{b:yL yB}(hb:b.length<=2000000):WF yD b=some (rdF b):=by
 unfold rdF;by_cases h:∃l,LockOk l/\LockPt l/\XQ l=b
 ·obtain⟨c1,c2,c3⟩:=h.choose_spec;rw[dif_pos h];have hp:=ZAO c1 c2;have hy:=Zgc c1 c2;have hr:=ZwZ c1 c2;generalize h.choose=l at c1 c2 c3 hp hy hr;unfold WF;rw[ZCV hb,ya, <-c3,hp,ya];dsimp only;rw[hr,ya,yX (by decide),hy,ya,Zmm,yY rfl];rfl
 ·rw[dif_neg h];obtain⟨l,r',p1,p2,p3⟩:=ZCU (r:=(b,false)) hb;obtain⟨z,z1,z2⟩:=Zd0 (l:=l) ⟨by omega,λe he=>by have:=p3 e he;omega⟩;unfold WF;rw[ZCV hb,ya,p1,ya];dsimp only;rw[z1,ya]
  cases z with
  |false=>rfl
  |true=>
   obtain⟨k1,k2⟩:=z2.1 rfl;rw[yX (by decide),Zgc k1 k2,ya,Zmm,yZ (λe=>h ⟨l,k1,k2,e⟩)];rfl
theorem ZHr{t:Tx}(hw:TxWf t)(h:TxOk t):QM yD t=some (VX t):=by
 obtain⟨ins,outs,note⟩:=t;obtain⟨w1,w2⟩:=hw;obtain⟨t1,t2,t3,t4,t5,t6⟩:=h;dsimp only at w1 w2 t1 t2 t3 t4 t5 t6;have r1:=Z7 (n:=ins.length) (by omega);have r2:=Z7 (n:=outs.length) (by omega);have ci:∀k,(cat inF (ins.take k)).length<=64*41:=ZdX (λx hx=>ZFS (w1 x hx) (t5 x hx)) t2;have co:∀k,(cat Zs0 (outs.take k)).length<=64*551:=ZdX (λx hx=>ZCD (t6 x hx)) t3;have ci':=ci ins.length;rw[yat] at ci';have co':=co outs.length;rw[yat] at co';unfold QM;dsimp only;rw[Zfn (by omega) (by omega) (by simp),ya,yw,yar]
 have q:=Zt (step:=Xi yD) ins.length (λk:Nat=>(X4 ins.length++cat inF (ins.take k),(k:Int),(ins,outs,note))) (x:=(X4 ins.length++cat inF ins,(ins,outs,note))) (by
  intro k hk;obtain⟨e,he,hm⟩:=Zk hk;have hc:=ci k;have h32:=w1 e hm;have hi:=t5 e hm;unfold Xi;dsimp only;rw[yW (ZV hk),Zq he,ya,ZCQ (by rw[yl];omega) h32,ya,ya,Zfn hi.1 (by have:=hi.2.1;omega) (by simp only[yl];omega),ya,Zn (by omega),Zcf he];unfold inF;simp only[yad]) (by
  unfold Xi;dsimp only;rw[yX (by rw[ZH];decide),yat]) (by omega)
 rw[show cat inF (ins.take 0)=[] from rfl,ybd] at q
 have q:Zb (Xi yD) yD (X4 ins.length,(0:Int),(ins,outs,note))=_:=q;rw[q,ya];dsimp only;rw[Zfn (by omega) (by omega) (by rw[yl];omega),ya,yar]
 have p:=Zt (step:=Xj yD) outs.length (λk:Nat=>(X4 ins.length++cat inF ins++X4 outs.length++cat Zs0 (outs.take k),(k:Int),(ins,outs,note))) (x:=(X4 ins.length++cat inF ins++X4 outs.length++cat Zs0 outs,(ins,outs,note))) (by
  intro k hk;obtain⟨e,he,hm⟩:=Zk hk;have hc:=co k;obtain⟨o1,o2,o3,o4⟩:=t6 e hm;have hl:=Q1 o3;have hr:=Z7 (n:=e.1.toNat) (by omega);unfold Xj;dsimp only;rw[yW (ZV hk),Zq he,ya,Zfn o1 (by omega) (by simp only[yl];omega),ya,ya,Zgc o3 o4,ya,ZAK (by simp only[yl];omega) (by omega),ya,Zn (by omega),Zcf he];unfold Zs0;simp only[yad]) (by
  unfold Xj;dsimp only;rw[yX (by rw[ZH];decide),yat]) (by omega)
 rw[show cat Zs0 (outs.take 0)=[] from rfl,ybd] at p
 have p:Zb (Xj yD) yD (X4 ins.length++cat inF ins++X4 outs.length,(0:Int),(ins,outs,note))=_:=p;rw[p,ya];dsimp only;rw[Zfn t4 w2 (by simp only[yl];omega),ya];unfold VX;simp only[yad]
theorem ZHs{x:In}{outs:yL Out}{note:Int}(h:TxOk ([x],outs,note))(hs:amts outs<=1125899906842624):QL yD ([x],outs,note)=some true:=by
 obtain⟨t1,t2,t3,t4,t5,t6⟩:=h;dsimp only at t1 t2 t3 t4 t5 t6;obtain⟨x1,x2,x3,x4,x5⟩:=t5 x (yam.2 rfl);unfold QL;dsimp only;rw[yX (by simp),yX (by simp),yX (ynd (by omega)),yX (ynd (by omega))]
 have q:=Zt (step:=Xg yD) 1 (λk:Nat=>((k:Int),([x],outs,note))) (x:=.inr ([x],outs,note)) (by
  intro k hk;have:k=0:=by omega
  subst this;unfold Xg Zan;dsimp only
  have l1:Zb (Vl yD) yD (((0:Nat):Int),(0:Int),([x],outs,note),x)=some (.inr (((0:Nat):Int),([x],outs,note),x)):=by
   refine Zt 0 (λk:Nat=>(((0:Nat):Int),(k:Int),([x],outs,note),x)) (λk hk=>by omega) ?_ (by omega);unfold Vl;dsimp only;rw[yX (ynd (by omega))]
  rw[yW (by simp),show idx [x] ((0:Nat):Int)=some x from rfl,ya,yX (ynd (by omega)),yX (ynd (by omega)),yW (yY x3),yW (yY (by omega)),ya,yX (by rw[yY (show(x.2.2.1.length:Int)<=12 by omega)];decide),l1,ya]
  rfl) (by
  unfold Xg;dsimp only;rw[yX (by simp)]) (by omega)
 have q:Zb (Xg yD) yD ((0:Int),([x],outs,note))=_:=q;rw[q,ya];dsimp only
 have p:=Zt (step:=Xh yD) outs.length (λk:Nat=>(amts (outs.take k),(k:Int),([x],outs,note))) (x:=.inr (amts outs,([x],outs,note))) (by
  intro k hk;obtain⟨e,he,hm⟩:=Zk hk;obtain⟨o1,o2,o3,o4⟩:=t6 e hm;have hl:=ZuI t6 k;have hl2:=ZuI t6 (k+1);have hst:=Zs1 he;unfold Xh;dsimp only;rw[yW (ZV hk),Zq he,ya,yX (ynd (by omega)),yX (ynd (by omega)),ZwZ o3 o4,ya,yX (by decide),Zn (by omega),ZG (z:=amts (outs.take k)+e.1) (by omega) (by omega),hst]) (by
  unfold Xh;dsimp only;rw[yX (by rw[ZH];decide),yat]) (by omega)
 have p:Zb (Xh yD) yD ((0:Int),(0:Int),([x],outs,note))=_:=p;rw[p,ya];dsimp only;rw[yY hs]
theorem ZKa{x:In}{outs:yL Out}{note:Int}(hw:TxWf ([x],outs,note))(h:TxOk ([x],outs,note))(hs:amts outs<=1125899906842624):Vw yD ([x],outs,note)=some (Zg3 (VX ([x],outs,note))):=by
 have hl:=(ZCE hw h).2
 have hls:∀l,l∈[VX ([x],outs,note)]->l.length<=60000:=λl h=>by
  rw[yam.1 h];omega
 unfold Vw;rw[ZHs h hs,ya,yX (by decide),ZHr hw h,ya,ZAI (by decide) (by simp) hls,ya];unfold Zg3;rw[ZED (by decide) (by simp) hls];rfl
theorem ZOU(p:yU):(tk p).toNat < mdl:=(ZCx p).2.1
theorem Zw1(p q:yU):W2 yD p q=some (ad p q):=by
 unfold W2;rw[ZsY,ya,ZsY,ya];unfold ZA;rw[yW (show decide ((tk p).toNat < 4611686018427377339)=true from yY (ZOU p)),ya]
 rfl
theorem ZCW(r p:yU){m:yL yB}(hm:m.length=32):X2 yD r p m=some (chF r p m):=by
 unfold X2 QN
 rw[Zr3,Zr3,ya,ya,ya,ya,ZAI (by decide) (by simp) (by
  intro l hl;simp only[ybh,ycv,or_false] at hl;rcases hl with rfl|rfl|rfl
  ·exact ybm (Nat.le_of_eq (WL _)) (by decide)
  ·exact ybm (Nat.le_of_eq (WL _)) (by decide)
  ·omega),ya,ZCO (Sha.ZO8 _),ya]
 rfl
theorem ZLJ(k:yU):ZaZ yD k=some (decide (Key k)):=by
 rw[<-ZF7];unfold ZaZ Zk2;rw[ZwY,ZsZ]
theorem ZKb(k:yU){m:yL yB}(hm:m.length=32):Zao yD k m=some (sgF k m):=by
 unfold Zao sgF;rw[ZLJ,ya];by_cases hk:Key k
 ·rw[yY hk,yX (by decide),yW hk,Zr3,ya,ZAI (by decide) (by simp) (by
   intro l hl;simp only[ybh,ycv,or_false] at hl;rcases hl with rfl|rfl
   ·exact ybm (Nat.le_of_eq (WL _)) (by decide)
   ·omega),ya,ZCO (Sha.ZO8 _),ya]
  unfold ZcI;rw[Q0,ya,Zw1,ZEF _ (ZHe _),ya,Q0,ya,ZCW _ _ hm,ya,ZLG,ya,ZLE,ya];rw[ybf];rfl
 ·rw[yZ hk,yW (by decide),yX hk]
theorem ZEH(p:yU){m:yL yB}(hm:m.length=32)(s:Sig):Qp yD p m s=some (Zw0 p m s):=by
 have h:QO yD p m 1 s=some (Zw0 p m s):=by
  unfold QO;rw[Zc0,Zc0,Zc0,ZwY,ya,ya,ya,ya,Q0,ya,Zw1,ZEF _ (ZHe _),ya,ZCW _ _ hm,ya,ZyA,ya,Zw1,ya];unfold Zw0;by_cases h1:Qu p.toNat
  ·rw[yY h1,yX (by decide),yY (show Qu (1:yU).toNat from ZAc),yX (by decide)]
   by_cases h2:Qu s.1.toNat
   ·rw[yY h2,yX (by decide)];by_cases h3:s.2.toNat < ord
    ·rw[yY h3,yX (by decide)];by_cases h0:p=1
     ·rw[yW (beq_iff_eq.2 h0),yZ (λh=>h.1 h0)]
     rw[yX (by rw[yT];exact h0)];by_cases h4:B s.2.toNat=ad s.1 (sc p (chF s.1 p m).toNat)
     ·rw[yY ⟨h0,h1,h2,h3,h4⟩,beq_iff_eq.2 h4]
     ·rw[yZ (λh=>h4 h.2.2.2.2),beq_eq_false_iff_ne.2 h4]
    ·rw[yZ h3,yW (by decide),yZ (λh=>h3 h.2.2.2.1)]
   ·rw[yZ h2,yW (by decide),yZ (λh=>h2 h.2.2.1)]
  ·rw[yZ h1,yW (by decide),yZ (λh=>h1 h.2.1)]
 unfold Qp;rw[h,ya]
theorem Zw2(k:Kit):YI yD k=some (Ye k):=by
 unfold YI;rw[Q0,ya,Q0,ya,Q0,ya,Q0,ya,Q0,ya];rfl
theorem Zs8{x:In}{outs:yL Out}{note:Int}(hw:TxWf ([x],outs,note))(h:TxOk ([x],outs,note))(hs:amts outs<=1125899906842624):(Zg3 (VX ([x],outs,note))).length=32:=(ZFU hw h hs).2
theorem ZCX{k:Kit}{x:In}{outs:yL Out}{note:Int}(hw:TxWf ([x],outs,note))(h:TxOk ([x],outs,note))(hs:amts outs<=1125899906842624):Xd yD k ([x],outs,note)=some (sgF k.1 (Zg3 (VX ([x],outs,note)))):=by
 unfold Xd;rw[(ZFU hw h hs).1,ya,ZLH _ (Zs8 hw h hs),ya]
theorem ZyR{k:Kit}{x:In}{outs:yL Out}{note:Int}(hw:TxWf ([x],outs,note))(h:TxOk ([x],outs,note))(hs:amts outs<=1125899906842624):XS yD k ([x],outs,note)=some (sgF k.1 (Zg3 (VX ([x],outs,note)))):=by
 unfold XS;rw[ZKa hw h hs,ya,ZKb _ (Zs8 hw h hs),ya]
theorem ZKc(x:In)(outs:yL Out)(note:Int)(a b:Sig):WG yD ([x],outs,note) a b=some ([(x.1,(0,[a,b],0))],outs,note):=by
 unfold WG;dsimp only;rw[yX (by simp),show idx [x] 0=some x from rfl,ya,yW (by rfl),yW (ZD (by simp) (by simp))]
 rfl
theorem Ze1{l:yL Msg}(hl:l.length<=1000000):YM yD l l=some true:=by
 unfold YM
 have q:=Zt (step:=XA yD) l.length (λk:Nat=>(l,l,(k:Int))) (x:=.inr ()) (by
  intro k hk;obtain⟨e,he,_⟩:=Zk hk;unfold XA;dsimp only;rw[yW (ZV hk),Zq he];simp only[ya];rw[yX (by simp),Zmm,yY rfl,yX (by decide),yX (by simp),yX (by decide),Zn (by omega)]) (by
  unfold XA;dsimp only;rw[yX (by rw[ZH];decide)]) (by omega)
 have q:Zb (XA yD) yD (l,l,(0:Int))=_:=q;rw[yX (by simp),q,ya]
theorem ZHt{w:ZaK}(hl:w.2.1.length<=1000000):VM yD w w=some true:=by
 unfold VM
 have q:=Zt (step:=YQ yD) w.2.1.length (λk:Nat=>((k:Int),w,w)) (x:=.inr (w,w)) (by
  intro k hk;obtain⟨e,he,_⟩:=Zk hk;unfold YQ;dsimp only;rw[yW (ZV hk),Zq he,ya,ya,yX (by simp),Zn (by omega)]) (by
  unfold YQ;dsimp only;rw[yX (by rw[ZH];decide)]) (by omega)
 have q:Zb (YQ yD) yD ((0:Int),w,w)=_:=q;rw[yX (by simp),yX (by simp),yX (by simp),q,ya]
theorem ZEI{l:yG}(hl:l.length<=1000000)(hk:∀b,b∈l->b.1.length<=1000000):Zaa yD l l=some true:=by
 unfold Zaa
 have q:=Zt (step:=Xv yD) l.length (λk:Nat=>((k:Int),l,l)) (x:=.inr (l,l)) (by
  intro k hk2;obtain⟨e,he,hm⟩:=Zk hk2;have hb:=hk e hm
  have p:=Zt (step:=Xu yD) e.1.length (λj:Nat=>((k:Int),(j:Int),l,l,e,e)) (x:=.inr ((k:Int),l,l,e,e)) (by
   intro j hj;obtain⟨d,hd,_⟩:=Zk hj;unfold Xu;dsimp only;rw[yW (ZV hj),Zq hd,ya,ya,yX (by simp),Zn (by omega)]) (by
   unfold Xu;dsimp only;rw[yX (by rw[ZH];decide)]) (by omega)
  have p:Zb (Xu yD) yD ((k:Int),(0:Int),l,l,e,e)=_:=p;unfold Xv;dsimp only;rw[yW (ZV hk2),Zq he,ya,ya,yX (by simp),yX (by simp),yX (by simp),yX (by simp),p,ya];dsimp only;rw[Zn (by omega)]) (by
  unfold Xv;dsimp only;rw[yX (by rw[ZH];decide)]) (by omega)
 have q:Zb (Xv yD) yD ((0:Int),l,l)=_:=q;rw[yX (by simp),q,ya]
theorem Zmn{t:Tx}(h1:t.1.length<=1000000)(h2:t.2.1.length<=1000000)(h3:∀x,x∈t.1->x.2.2.1.length<=1000000)(h4:∀o,o∈t.2.1->o.2.length<=1000000/\∀b,b∈o.2->b.1.length<=1000000):YJ yD t t=some true:=by
 unfold YJ
 have q:=Zt (step:=Xw yD) t.1.length (λk:Nat=>((k:Int),t,t)) (x:=.inr (t,t)) (by
  intro k hk;obtain⟨e,he,hm⟩:=Zk hk;unfold Xw;dsimp only;rw[yW (ZV hk),Zq he,ya,ya,yX (by simp),ya,ya,ZHt (h3 e hm),ya,yX (by decide),Zn (by omega)]) (by
  unfold Xw;dsimp only;rw[yX (by rw[ZH];decide)]) (by omega)
 have q:Zb (Xw yD) yD ((0:Int),t,t)=_:=q
 have p:=Zt (step:=Xx yD) t.2.1.length (λk:Nat=>((k:Int),t,t)) (x:=.inr (t,t)) (by
  intro k hk;obtain⟨e,he,hm⟩:=Zk hk;obtain⟨g1,g2⟩:=h4 e hm;unfold Xx;dsimp only;rw[yW (ZV hk),Zq he,ya,ya,yX (by simp),ya,ya,ZEI g1 g2,ya,yX (by decide),Zn (by omega)]) (by
  unfold Xx;dsimp only;rw[yX (by rw[ZH];decide)]) (by omega)
 have p:Zb (Xx yD) yD ((0:Int),t,t)=_:=p;rw[yX (by simp),yX (by simp),yX (by simp),q,ya];dsimp only;rw[p,ya]
end Go.Proofs.YtdhclndplbopgaaGreat
end
