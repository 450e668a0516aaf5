/- Parts of the proof, in one file. -/
import Derived.Test.YtmkgbalfkhaflaaGreatKf
open Bool renaming and_eq_true → yj
open Go renaming TypeId → yb, Value → yh
open Go.Proofs.Tryz renaming prog → yc
open Int renaming tmod → yar, toNat_natCast → ybq
open List renaming length_append → yp, getElem?_eq_some_iff → yr, getElem?_eq_getElem → yac, map_cons → yaf, length_cons → yag, length_take → yai, append_assoc → yaj, getElem?_cons_succ → yap, mem_singleton → yaq, getElem?_cons_zero → yas, getElem?_append_right → yat, mem_cons_self → yav, mem_cons_of_mem → yaw, mem_cons → ybg, append_nil → ybh, take_length → ybl, mem_append → ych, getElem?_set_self → ycr, not_mem_nil → yct, getElem_of_mem → ycw
open Nat renaming le_refl → yn, mod_eq_of_lt → yah, mul_comm → ybi, mul_le_mul_right → ybx, two_pow_add_eq_or_of_lt → ycy
open Option renaming bind_some → ya, bind_eq_some_iff → yf, bind → ybu
open UInt64 renaming ofNat → yad, toNat_ofNat' → yba, toNat_inj → ycf
open UInt8 renaming ofNat → yau
set_option linter.unusedVariables false
set_option linter.unusedSimpArgs false
section
set_option maxRecDepth 4000
namespace Go.Proofs.YtmkgbalfkhaflaaGreat
open Go Go.Ev
theorem Zvj{lo hi:Int}{l:List Int}(hl:l.length≤100)(h:∀x,x∈l→lo≤x∧x≤hi):YS fuel lo hi l=some true:=by
 unfold YS XZ WA;rw[show(l,(l.length:Int),(0:Int),lo,hi)=(λk:Nat=>(l,(l.length:Int),(k:Int),lo,hi)) 0 from rfl,Z4 (x:=.inr (lo,hi)) l.length (λk:Nat=>(l,(l.length:Int),(k:Int),lo,hi)) ?_ ?_ (by omega),ya]
 ·rfl
 ·intro k hk;obtain⟨e,he,hm⟩:=Zl hk;have:=h e hm;unfold YX ZdQ;dsimp only;rw[if_pos (Yk hk),Zu he,ya,if_neg (ynd (by omega)),ya,decide_eq_false (by omega),if_neg (by simp),Zr (by omega)]
 ·unfold YX;dsimp only;rw[if_neg (by rw[Z2];decide)]
theorem w1{lo hi z:Int}(h1:lo≤z)(h2:z≤hi):YS fuel lo hi [z]=some true:=Zvj (by simp) λx hx=>by rw[yaq.1 hx];exact⟨h1,h2⟩
theorem tin{z a b:Int}(h1:a≤z)(h2:z≤b):Xk fuel z a b=some true:=by
 unfold Xk;rw[if_pos (decide_eq_true h1),decide_eq_true h2]
theorem ZF8{d:Int}(h1:1≤d)(h2:d≤4096):ZeF fuel (Tm d)=some true:=by
 unfold ZeF Tm;dsimp only;rw[tin (by omega) (by omega),ya,if_pos rfl,tin h1 h2,ya,if_pos rfl,tin (by omega) (by omega),ya,if_pos rfl,tin (by omega) (by omega),ya,if_pos rfl,tin (by omega) (by omega),ya,if_pos rfl,tin (by omega) (by omega)];rfl
theorem ZB3{k:Kit}(h:KitOk k):ZcO fuel (ZJ k)=some true:=by
 unfold ZcO Zg2 Zbm;have hb:=Zm5 h;generalize hl:([(ZJ k).1,(ZJ k).2.1,(ZJ k).2.2.1,(ZJ k).2.2.2.1,(ZJ k).2.2.2.2]:List UInt64)=l at*;have h5:l.length=5:=by rw[←hl];rfl
 rw[show(l,(l.length:Int),(0:Int))=(λk:Nat=>(l,(l.length:Int),(k:Int))) 0 from rfl,Z4 (x:=.inr ()) l.length (λk:Nat=>(l,(l.length:Int),(k:Int))) ?_ ?_ (by omega),ya]
 ·rfl
 ·intro k hk;obtain⟨e,he,hm⟩:=Zl hk;obtain⟨x,hx,rfl⟩:=hb e hm;unfold WL ZdP;dsimp only;rw[if_pos (Yk hk),Zu he,ya,if_neg (by rw[beq_iff_eq];exact ZB2 hx),Zad,ya,decide_eq_true (Zud _),ya,Zr (by omega)];rfl
 ·unfold WL;dsimp only;rw[if_neg (by rw[Z2];decide)]
theorem ZLv{A:Int}{k0 k1:Kit}{op:Int}(h:ChOk A k0 k1 op):Zit fuel (Z9 A k0 k1 op)=some 0:=by
 obtain⟨h1,h2,h3,h4,h5⟩:=h;have hA:(Z9 A k0 k1 op).2.1=A:=rfl;have hN:(Z9 A k0 k1 op).1.2=0:=rfl;have hO:(Z9 A k0 k1 op).2.2.2.2=op:=rfl;have hT:(Z9 A k0 k1 op).2.2.2.1=[Tm 5,Tm 6]:=rfl;have hB:(Z9 A k0 k1 op).2.2.1=[ZJ k0,ZJ k1]:=rfl;unfold Zit;rw[hA,hN,hO,if_neg (ynd (by omega)),if_neg (ynd (by omega)),if_neg (by decide),if_neg (by decide),if_neg (by rcases h3 with rfl|rfl <;> decide)];generalize hc:Z9 A k0 k1 op=c at*;rw[hT,show(([Tm 5,Tm 6]:List Zbi),(0:Int),c)=(λk:Nat=>(([Tm 5,Tm 6]:List Zbi),(k:Int),c)) 0 from rfl,Z4 (x:=.inr c) 2 (λk:Nat=>(([Tm 5,Tm 6]:List Zbi),(k:Int),c)) ?_ ?_ (by omega),ya]
 ·dsimp only;rw[hT];rw[show([Tm 5,Tm 6]:List Zbi)[0]? =some (Tm 5) from rfl,ya,show([Tm 5,Tm 6]:List Zbi)[1]? =some (Tm 6) from rfl,ya]
  show(ybu (ZhG fuel 200 200) _)=some 0;rw[ZB1 (by omega) (by omega) (by omega),ya,if_neg (by decide),hA,if_neg (by rw[decide_eq_true_iff];show¬(200+200 > A);omega)]
 ·intro k hk;unfold ZcP;dsimp only;rw[if_pos (decide_eq_true (by omega)),hB]
  match k,hk with
  |0,_=>
   rw[ZgC (i:=((0:Nat):Int)) (y:=Tm 5) (by omega) rfl,ya,ZF8 (by omega) (by omega),ya,if_neg (by decide),if_pos (by decide)];show(ybu (some (ZJ k0)) _)=_;rw[ya,ZB3 h4,ya,if_neg (by decide)]
   rfl
  |1,_=>
   rw[ZgC (i:=((1:Nat):Int)) (y:=Tm 6) (by omega) rfl,ya,ZF8 (by omega) (by omega),ya,if_neg (by decide),if_pos (by decide)];show(ybu (some (ZJ k1)) _)=_;rw[ya,ZB3 h5,ya,if_neg (by decide)];rfl
 ·unfold ZcP;dsimp only;rw[if_neg (ynd (by omega))]
theorem ZKJ{c:Cond}(h:CondIn c):ZgE fuel c=some true:=by
 obtain⟨h1,h2,h3,h4,h5,h6,h7,h8,h9⟩:=h;unfold ZgE;rw[w1 (by omega) (by omega),ya,if_pos rfl,w1 h2 h3,ya,if_pos rfl,w1 h4 (by omega),ya,if_pos rfl,w1 h8 (by omega),ya,if_pos rfl,Zad,ya,if_pos (decide_eq_true h6)];exact congrArg some (bne_iff_ne.2 h7)
theorem Ztw(a b:Int):Vp fuel a b=some (if a < b then-1 else if a > b then 1 else 0):=by
 unfold Vp Zbn;rw[ya,ya];have e:∀z:Int,(z !=z)=false:=λz=>by simp
 rw[e,e,if_neg (by decide),if_neg (by decide)];by_cases h1:a < b
 ·rw[if_pos (decide_eq_true h1),if_pos h1]
 ·rw[if_neg (by rw[decide_eq_true_iff];exact h1),if_neg h1];by_cases h2:a > b
  ·rw[if_pos (decide_eq_true h2),if_pos h2]
  ·rw[if_neg (by rw[decide_eq_true_iff];exact h2),if_neg h2]
def orL:List Int→Int
 |[]=>0
 |z::r=>if z≠0 then z else orL r
theorem ZKK{l:List Int}(hl:l.length≤100):ZgF fuel l=some (orL l):=by
 have key:∀(d k f:Nat),k+d=l.length→d < f→∃x,Zc (Vo fuel) f ((0:Int),l,(l.length:Int),(k:Int))=some x∧(x=.inl (orL (l.drop k))∨x=.inr 0∧orL (l.drop k)=0):=by
  intro d
  induction d with
  |zero=>
   intro k f h hf;obtain⟨f,rfl⟩:=Nat.exists_eq_succ_of_ne_zero (n:=f) (by omega);have:k=l.length:=by omega
   subst this;unfold Zc Vo;dsimp only;rw[if_neg (by rw[Z2];decide),ya]
   exact⟨_,rfl,.inr ⟨rfl,by rw[List.drop_length];rfl⟩⟩
  |succ d ih=>
   intro k f h hf;obtain⟨f,rfl⟩:=Nat.exists_eq_succ_of_ne_zero (n:=f) (by omega);have hk:k < l.length:=by omega
   obtain⟨e,he,hm⟩:=Zl hk
   have hd:l.drop k=e::l.drop (k+1):=by
    rw[List.drop_eq_getElem_cons hk];rw[yac hk] at he;cases he;rfl
   rw[hd];unfold Zc Vo;dsimp only;rw[if_pos (Yk hk),Zu he,ya];by_cases h0:e=0
   ·subst h0;rw[if_neg (by decide),ya,Zr (by omega)];exact ih (k+1) f (by omega) (by omega)
   ·rw[if_pos (bne_iff_ne.2 h0),ya];exact⟨_,rfl,.inl (by unfold orL;rw[if_pos h0])⟩
 unfold ZgF;obtain⟨x,h1,h2⟩:=key l.length 0 fuel (by omega) (by rw[ZcL];omega);rw[List.drop_zero] at h2;show ybu (Zc (Vo fuel) fuel ((0:Int),l,(l.length:Int),((0:Nat):Int))) _=_;rw[h1,ya];rcases h2 with rfl|⟨rfl,h2⟩
 ·rfl
 ·rw[h2]
theorem ZJH{a b:Cond}(h:Ahd a b):∃z,ZeH fuel a b=some z∧z < 0:=by
 unfold ZeH;rw[Ztw,ya,Ztw,ya,ZKK (by simp),ya];refine⟨_,rfl, ?_⟩;unfold Ahd at h;have e2:∀x y:Int,orL [x,y]=if x≠0 then x else if y≠0 then y else 0:=λ_ _=>rfl
 rw[e2];by_cases h1:a.1 < b.1
 ·rw[if_pos h1,if_pos (by decide)];decide
 ·have e:a.1=b.1:=by omega
  rw[if_neg h1,if_neg (show¬a.1 > b.1 by omega),if_neg (by decide),if_pos (show a.2.1 < b.2.1 by omega)];decide
theorem ZLw{r:Int}{n:Nat}(h0:0≤r)(h1:r≤7)(h2:n≤16):Ziu fuel r (n:Int)=some (r*(68+8*(n:Int))):=by
 have:=Zw9 (m:=68+8*(n:Int)) h0 h1 (by omega);unfold Ziu;rw[if_neg (ynd (by omega)),if_neg (ynd (by omega))];unfold Zg3;rw[if_neg (ynd (by omega)),if_neg (ynd (by omega)),ya,ZD (z:=8*(n:Int)) (by omega) (by omega),ZD (z:=68+8*(n:Int)) (by omega) (by omega),ZD (by omega) (by omega)]
theorem ZKL{A:Int}{s:State}{h0 h1:Int}(h:StIn A s h0 h1)(ch:ZH):ZgH fuel ch s=some (cost s.2.2.2 s.2.2.1.length):=by
 have:=Zox h.r0 h.r1 h.len;unfold ZgH;unfold cost at*;rw[ZLw h.r0 h.r1 h.len,ya,ZD (by omega) (by omega)]
theorem ZJI{A:Int}{s:State}{h0 h1:Int}(h:StIn A s h0 h1)(hA:A≤4300000000):ZeI fuel s=some A:=by
 obtain⟨no,hv,l,r⟩:=s;obtain⟨_,_,hh,p0,p1,_,_,hl,hc,_,ht⟩:=h;dsimp only at hh hl hc ht;subst hh;unfold ZeI;show ybu (some h0) _=_;rw[ya];show ybu (some h1) _=_;have hb:=λk=>Ztv hc k;have hb':=Zlz hc;dsimp only
 rw[ya,ZD (z:=h0+h1) (by omega) (by omega),show(h0+h1,l,(l.length:Int),(0:Int),(no,[h0,h1],l,r))=(λk:Nat=>(h0+h1+amtC (l.take k),l,(l.length:Int),(k:Int),(no,[h0,h1],l,r))) 0 by simp[amtC],
  Z4 (x:=(A,(no,[h0,h1],l,r))) l.length (λk:Nat=>(h0+h1+amtC (l.take k),l,(l.length:Int),(k:Int),(no,[h0,h1],l,r))) ?_ ?_ (by omega),ya]
 ·intro k hk;obtain⟨e,he,hm⟩:=Zl hk;have h1:=hb k;have h2:=hb (k+1);have h3:=Zvh he;unfold Zal;dsimp only;rw[if_pos (Yk hk),Zu he,ya,ZD (by omega) (by omega),Zr (by omega),h3,Int.add_assoc]
 ·unfold Zal;dsimp only;rw[if_neg (by rw[Z2];decide),ybl,ht]
theorem ZLx{A:Int}{s:State}{h0 h1:Int}(h:StIn A s h0 h1){to:Int}(ht:to=0∨to=1):∃n m,Zbo fuel s to=some (n,m)∧0≤n∧n≤16∧0≤m∧m≤2000000:=by
 obtain⟨no,hv,l,r⟩:=s;have hl:=h.len;have hc:=h.cs;dsimp only at hl hc;unfold Zbo;dsimp only
 obtain⟨x,g1,n,m,rfl,g2⟩:=Z8 (step:=WM fuel) l.length (λk q=>∃n m,q=(to,n,m,l,(l.length:Int),(k:Int),(no,hv,l,r))∧0≤n∧n≤(k:Int)∧0≤m∧m≤65536*(k:Int)) (λx=>∃n m,x=(n,m,(no,hv,l,r))∧0≤n∧n≤16∧0≤m∧m≤2000000) (i:=(to,(0:Int),(0:Int),l,(l.length:Int),(0:Int),(no,hv,l,r))) ⟨0,0,rfl,by omega⟩ (by omega) (by
  rintro k _ hk ⟨n,m,rfl,q⟩;left;obtain⟨e,he,hm⟩:=Zl hk;have h4:=(hc e hm).2.2.2.1;have h5:=(hc e hm).2.2.2.2.1;unfold WM;dsimp only;rw[if_pos (Yk hk),Zu he,ya,Zr (by omega)];split
  ·rw[ZD (z:=n+1) (by omega) (by omega),ZD (z:=m+e.2.2.1) (by omega) (by omega)];exact⟨_,rfl,_,_,rfl,by omega⟩
  ·exact⟨_,rfl,_,_,rfl,by omega⟩) (by
  rintro _ ⟨n,m,rfl,q⟩;unfold WM;dsimp only;rw[if_neg (by rw[Z2];decide)];exact⟨_,rfl,_,_,rfl,by omega⟩)
 rw[g1,ya];exact⟨_,_,rfl,g2⟩
theorem ZJJ{A:Int}{k0 k1:Kit}{op:Int}(h:ChOk A k0 k1 op){s:State}{h0 h1:Int}(hs:StIn A s h0 h1):ZeJ fuel (Z9 A k0 k1 op) s=some (decide (hav op h0 h1 ≥ cost s.2.2.2 s.2.2.1.length)):=by
 have hT:(Z9 A k0 k1 op).2.2.2.1=[Tm 5,Tm 6]:=rfl;have hA:(Z9 A k0 k1 op).2.1=A:=rfl;have hO:(Z9 A k0 k1 op).2.2.2.2=op:=rfl;have hlo:=h.lo;have hhi:=h.hi;have hco:=ZKL hs (Z9 A k0 k1 op);have hto:=ZJI hs h.hi;have hof:=λto ht=>ZLx hs (to:=to) ht;have hb:=Zlz hs.cs;unfold ZeJ;rw[ZLv h,ya,if_neg (by decide)];generalize hc:Z9 A k0 k1 op=c at*;obtain⟨no,hv,l,r⟩:=s;obtain⟨n0,n1,hh,p0,p1,r0,r1,hl,hcs,hsr,ht⟩:=hs;dsimp only at n0 n1 hh p0 p1 r0 r1 hl hcs hsr ht hb;subst hh;dsimp only;rw[w1 n0 (by omega),ya,if_neg (by decide)];show ybu (some h0) _=_;rw[ya];show ybu (some h1) _=_
 rw[ya,Zvj (l:=[h0,h1]) (by simp) (by
  intro x hx;simp only[ybg,yct,or_false] at hx;rcases hx with rfl|rfl <;> omega),ya,if_neg (by decide),w1 r0 (by omega),ya,if_neg (by decide),if_neg (ynd (by omega))]
 rw[show(l,(l.length:Int),(0:Int),c,(no,[h0,h1],l,r))=(λk:Nat=>(l,(l.length:Int),(k:Int),c,(no,[h0,h1],l,r))) 0 from rfl,Z4 (x:=.inr (c,(no,[h0,h1],l,r))) l.length (λk:Nat=>(l,(l.length:Int),(k:Int),c,(no,[h0,h1],l,r))) ?_ ?_ (by omega),ya]
 ·dsimp only;rw[show(c.2.2.2.1,(0:Int),c,(no,[h0,h1],l,r))=(λk:Nat=>(c.2.2.2.1,(k:Int),c,(no,[h0,h1],l,r))) 0 from rfl,Z4 (x:=.inr (c,(no,[h0,h1],l,r))) 2 (λk:Nat=>(c.2.2.2.1,(k:Int),c,(no,[h0,h1],l,r))) ?_ ?_ (by omega),ya]
  ·dsimp only;rw[hto,ya,hA,if_pos (beq_self_eq_true _),hO,if_pos (XF h.o),ZeZ h.o,ya,hco,ya]
  ·intro k hk;obtain⟨n,m,e1,e2,e3,e4,e5⟩:=hof (k:Int) (by omega)
   have ht:∃d,c.2.2.2.1[k]? =some (Tm d):=by
    rw[hT]
    match k,hk with
    |0,_=>exact⟨_,rfl⟩
    |1,_=>exact⟨_,rfl⟩
   obtain⟨d,hd⟩:=ht;unfold Zan;dsimp only;rw[if_pos (decide_eq_true (by omega)),Zu hd,ya,e1,ya,Zr (by omega)];rw[if_neg (by rw[decide_eq_true_iff];show¬n > 16;omega),if_neg (by rw[decide_eq_true_iff];show¬m > 1125899906842624;omega)]
  ·unfold Zan;dsimp only;rw[if_neg (ynd (by omega))]
 ·intro k hk;obtain⟨e,he,hm⟩:=Zl hk;obtain⟨d,hd⟩:=ZAK (hcs e hm).1;have h4:=(hcs e hm).2.2.2.1;have hlt:¬(e.2.2.1 < (Tm d).2.2.2.2.1):=by show¬(e.2.2.1 < 1);omega
  unfold Zam;dsimp only;rw[if_pos (Yk hk),Zu he,ya,ZKJ (hcs e hm),ya,if_neg (by decide),if_pos (Zoy (hcs e hm).1),hT,hd,ya,if_neg (by rw[decide_eq_true_iff];exact hlt),Zr (by omega)];by_cases h0:k=0
  ·subst h0;rw[if_neg (ynd (by omega))]
  ·obtain⟨f,hf,hfm⟩:=Zl (l:=l) (k:=k - 1) (by omega)
   have hah:Ahd f e:=by
    have h7:=List.pairwise_iff_getElem.1 hsr (k - 1) k (by omega) hk (by omega);rw[yac (by omega)] at hf he;cases hf;cases he;exact h7
   obtain⟨z,hz,hz0⟩:=ZJH hah;rw[if_pos (decide_eq_true (by omega)),ZD (z:=(k:Int) - 1) (by omega) (by omega),show(k:Int) - 1=((k - 1:Nat):Int) by omega,Zu hf,ya,hz,ya,if_neg (ynd (by omega))]
 ·unfold Zam;dsimp only;rw[if_neg (by rw[Z2];decide)]
theorem Zhn{α:Type}{c:Prop}[Decidable c]{a b:Option α}{P:α→Prop}(h1:c→∃x,a=some x∧P x)(h2:¬c→∃x,b=some x∧P x):∃x,(if c then a else b)=some x∧P x:=by
 by_cases h:c
 ·rw[if_pos h];exact h1 h
 ·rw[if_neg h];exact h2 h
def ins(c:Cond):List Cond→List Cond
 |[]=>[c]
 |e::r=>if Ahd c e then c::e::r else e::ins c r
theorem Zrh{c x:Cond}:∀{l:List Cond},x∈ins c l↔x=c∨x∈l
 |[]=>by simp[ins]
 |e::r=>by
  rw[ins];split
  ·simp
  ·rw[ybg,Zrh (l:=r),ybg];constructor
   ·rintro(h|h|h) <;> simp[h]
   ·rintro(h|h|h) <;> simp[h]
theorem Zri{c:Cond}:∀{l:List Cond},(ins c l).length=l.length+1
 |[]=>rfl
 |e::r=>by
  rw[ins];split
  ·rfl
  ·rw[yag,Zri (l:=r),yag]
theorem Zvk(c:Cond)(l:List Cond):amtC (c::l)=c.2.2.1+amtC l:=rfl
theorem ZB4{c:Cond}:∀{l:List Cond},amtC (ins c l)=c.2.2.1+amtC l
 |[]=>rfl
 |e::r=>by
  rw[ins];split
  ·rfl
  ·rw[Zvk,ZB4 (l:=r),Zvk];omega
theorem ZB5{c:Cond}:∀{l:List Cond},l.Pairwise Ahd→(∀e,e∈l→c.2.1≠e.2.1)→(ins c l).Pairwise Ahd
 |[],_,_=>by simp[ins]
 |e::r,h,hd=>by
  obtain⟨h1,h2⟩:=List.pairwise_cons.1 h;rw[ins];split
  ·rename_i ha;refine List.pairwise_cons.2 ⟨?_,h⟩;intro x hx;rcases ybg.1 hx with rfl|hx
   ·exact ha
   ·exact ZDt ha (h1 x hx)
  ·rename_i ha;refine List.pairwise_cons.2 ⟨?_,ZB5 h2 λx hx=>hd x (yaw _ hx)⟩;intro x hx;rcases Zrh.1 hx with rfl|hx
   ·exact ZJF (hd e (yav ..)) ha
   ·exact h1 x hx
theorem ZKM{s:State}{h0 h1:Int}(hv:s.2.1=[h0,h1])(hl:s.2.2.1.length≤16){c:Cond}(hc:CondIn c):VL fuel s c=some (s.1,([h0,h1]:List Int).set c.1.toNat (wi (hav c.1 h0 h1 - c.2.2.1)),ins c s.2.2.1,s.2.2.2):=by
 obtain⟨no,hh,l,r⟩:=s;dsimp only at hv hl;subst hv;unfold VL;dsimp only
 obtain⟨x,g1,d,o,rfl,g2,g3,g4⟩:=Z8 (step:=XD fuel) l.length (λk q=>∃d o,q=(d,(k:Int),(no,[h0,h1],l,r),c,((0:Int),([0,0]:List Int),([]:List Cond),(0:Int)),no,[h0,h1],r,o)∧o.length≤2*k∧(d=true→ins c l=o++l.drop k)∧(d=false→ins c l=o++ins c (l.drop k)))
  (λx=>∃d o,x=(d,(no,[h0,h1],l,r),c,((0:Int),([0,0]:List Int),([]:List Cond),(0:Int)),no,[h0,h1],r,o)∧o.length≤40∧(d=true→ins c l=o)∧(d=false→ins c l=o++[c]))
  (i:=(false,(0:Int),(no,[h0,h1],l,r),c,((0:Int),([0,0]:List Int),([]:List Cond),(0:Int)),no,[h0,h1],r,([]:List Cond))) ⟨_,_,rfl,by simp,(λh=>by cases h),λ_=>rfl⟩ (by omega) (by
  rintro k _ hk ⟨d,o,rfl,q1,q2,q3⟩;left;obtain⟨e,he,hm⟩:=Zl hk
  have hd:l.drop k=e::l.drop (k+1):=by
   rw[List.drop_eq_getElem_cons hk];rw[yac hk] at he;cases he;rfl
  rw[hd] at q2 q3;unfold XD;dsimp only;rw[if_pos (Yk hk),Zu he,ya,Zr (by omega),Zvg]
  cases d with
  |false=>
   rw[if_pos (by decide),ya];have q3:=q3 rfl;rw[ins] at q3;by_cases ha:Ahd c e
   ·rw[if_pos (decide_eq_true ha),if_pos (Yj (by omega) (by omega)),ya,if_pos (Yj (by simp;omega) (by simp;omega))];rw[if_pos ha] at q3;exact⟨_,rfl,_,_,rfl,by simp;omega,(λ_=>by rw[q3];simp),λh=>by cases h⟩
   ·rw[if_neg (by rw[decide_eq_true_iff];exact ha),ya,if_pos (Yj (by omega) (by omega))];rw[if_neg ha] at q3
    exact⟨_,rfl,_,_,rfl,by simp;omega,λh=>(by cases h),λ_=>by rw[q3];simp⟩
  |true=>
   have q2:=q2 rfl;rw[if_neg (by decide),ya,if_pos (Yj (by omega) (by omega))];exact⟨_,rfl,_,_,rfl,by simp;omega,(λ_=>by rw[q2];simp),λh=>by cases h⟩) (by
  rintro _ ⟨d,o,rfl,q1,q2,q3⟩;rw[List.drop_length] at q2 q3;unfold XD;dsimp only;rw[if_neg (by rw[Z2];decide)];exact⟨_,rfl,_,_,rfl,by omega,(λh=>by rw[q2 h,ybh]),λh=>by rw[q3 h];rfl⟩)
 rw[g1,ya];dsimp only
 cases d with
 |true=>
  rw[if_neg (by decide),if_pos (XF hc.1),ZeZ hc.1,ya,if_pos (XF hc.1),ya,g3 rfl]
 |false=>
  rw[if_pos (by decide),if_pos (Yj (by omega) (by omega)),if_pos (XF hc.1),ZeZ hc.1,ya,if_pos (XF hc.1),ya,g4 rfl]
theorem ZJK{s:State}(hl:s.2.2.1.length≤16)(f i:Int):∃z,Vi fuel s f i=some z:=by
 obtain⟨no,hh,l,r⟩:=s;dsimp only at hl;unfold Vi
 obtain⟨x,g1,_⟩:=Z8 (step:=Xp fuel) l.length (λk q=>q=(f,i,(k:Int),(no,hh,l,r))) (λ_=>True) (i:=(f,i,(0:Int),(no,hh,l,r))) rfl (by omega) (by
  rintro k _ hk rfl;obtain⟨e,he,hm⟩:=Zl hk;unfold Xp;dsimp only;rw[if_pos (Yk hk),Zu he,ya,ya,Zr (by omega)];split
  ·split
   ·right;exact⟨_,rfl,ytt⟩
   ·left;exact⟨_,rfl,rfl⟩
  ·left;exact⟨_,rfl,rfl⟩) (by
  rintro _ rfl;unfold Xp;dsimp only;rw[if_neg (by rw[Z2];decide)];exact⟨_,rfl,ytt⟩)
 rw[g1,ya];cases x <;> exact⟨_,rfl⟩
structure StOk(A op:Int)(s:State):Prop where
 ex:∃h0 h1,StIn A s h0 h1∧hav op h0 h1 ≥ cost s.2.2.2 s.2.2.1.length
theorem ZLy{A:Int}{k0 k1:Kit}{op:Int}(h:ChOk A k0 k1 op){s:State}(hs:StOk A op s){c:Cond}(hc:CondIn c)(hd:∀e,e∈s.2.2.1→c.2.1≠e.2.1):
 ∃x,Qf fuel (Z9 A k0 k1 op) s c=some x∧(x.2=0→StOk A op x.1∧x.1.2.2.1=ins c s.2.2.1∧x.1.1=s.1):=by
 obtain⟨h0,h1,hs,ho⟩:=hs;have hT:(Z9 A k0 k1 op).2.2.2.1=[Tm 5,Tm 6]:=rfl;have hO:(Z9 A k0 k1 op).2.2.2.2=op:=rfl;obtain⟨d,hd1⟩:=ZAK hc.1;obtain⟨z,hz⟩:=ZJK hs.len c.1 c.2.1;obtain⟨n,m,e1,e2,e3,e4,e5⟩:=ZKI hs (to:=wi (1 - c.1)) (by rcases hc.1 with h|h <;> rw[h] <;> decide);have hlo:=h.lo;have hhi:=h.hi;have c4:=hc.2.2.2.1;have c5:=hc.2.2.2.2.1;have hb:=Zlz hs.cs;have hht:=hs.tot;have p0:=hs.p0;have p1:=hs.p1;have hl:=hs.len;unfold Qf;rw[Zvi h hs,ya,ZIa hc,ya,decide_eq_true ho,if_neg (by decide),if_neg (by decide),hz,ya];refine Zhn (λ_=>⟨_,rfl,λh=>absurd h (by decide)⟩) λ_=> ?_;rw[if_pos (Zoy hc.1),hT,hd1,ya,e1,ya];refine Zhn (λ_=>⟨_,rfl,λh=>absurd h (by decide)⟩) λ_=> ?_;refine Zhn (λ_=>⟨_,rfl,λh=>absurd h (by decide)⟩) λh16=> ?_
 have h16:s.2.2.1.length≤15:=by
  rw[beq_iff_eq] at h16;omega
 refine Zhn (λ_=>⟨_,rfl,λh=>absurd h (by decide)⟩) λ_=> ?_;dsimp only;refine Zhn (λ_=>⟨_,rfl,λh=>absurd h (by decide)⟩) λ_=> ?_
 have hav0:∀i:Int,0≤hav i h0 h1∧hav i h0 h1≤A:=by
  intro i;unfold hav;split <;> omega
 have hwi:wi (hav c.1 h0 h1 - c.2.2.1)=hav c.1 h0 h1 - c.2.2.1:=ZD (by have:=hav0 c.1;omega) (by have:=hav0 c.1;omega);rw[ZKM hs.hv hs.len hc,ya,hwi]
 obtain⟨g0,g1,hg,hg2⟩:∃g0 g1:Int,([h0,h1]:List Int).set c.1.toNat (hav c.1 h0 h1 - c.2.2.1)=[g0,g1]∧(g0+g1=h0+h1 - c.2.2.1∧(hav c.1 g0 g1=hav c.1 h0 h1 - c.2.2.1)∧(c.1=0→g1=h1)∧(c.1=1→g0=h0)):=by
  rcases hc.1 with h|h
  ·rw[h];exact⟨_,_,rfl,by unfold hav;simp;omega⟩
  ·rw[h];exact⟨_,_,rfl,by unfold hav;simp;omega⟩
 rw[hg]
 have hcost:Y3 fuel (Z9 A k0 k1 op) (s.1,[g0,g1],ins c s.2.2.1,s.2.2.2)=some (cost s.2.2.2 (ins c s.2.2.1).length):=by
  have:=Zox (n:=(ins c s.2.2.1).length) hs.r0 hs.r1 (by rw[Zri];omega);unfold Y3;unfold cost at*;dsimp only;rw[ZKG hs.r0 hs.r1 (by show(ins c s.2.2.1).length≤16;rw[Zri];omega),ya,ZD (by omega) (by omega)]
 rw[hcost,ya,if_pos (XF hc.1),ZeZ hc.1,ya];refine Zhn (λ_=>⟨_,rfl,λh=>absurd h (by decide)⟩) λhneg=> ?_;rw[hO,if_pos (XF h.o),ZeZ h.o,ya];refine Zhn (λ_=>⟨_,rfl,λh=>absurd h (by decide)⟩) λhcst=> ?_;rw[decide_eq_true_iff] at hneg hcst
 have fin:StOk A op (s.1,[g0,g1],ins c s.2.2.1,s.2.2.2):=by
  refine⟨g0,g1,⟨hs.n0,hs.n1,rfl, ?_, ?_,hs.r0,hs.r1,by show(ins c s.2.2.1).length≤16;rw[Zri];omega, ?_,ZB5 hs.srt hd, ?_⟩,by show hav op g0 g1 ≥ cost s.2.2.2 (ins c s.2.2.1).length;omega⟩
  ·rcases hc.1 with h|h
   ·rw[h] at hneg;unfold hav at hneg;simp at hneg;omega
   ·have:=hg2.2.2.2 h;omega
  ·rcases hc.1 with h|h
   ·have:=hg2.2.2.1 h;omega
   ·rw[h] at hneg;unfold hav at hneg;simp at hneg;omega
  ·intro x hx;rcases Zrh.1 hx with rfl|hx
   ·exact hc
   ·exact hs.cs x hx
  ·show g0+g1+amtC (ins c s.2.2.1)=A;rw[ZB4];omega
 rw[if_pos (XF hc.1),ya];exact Zhn (λ_=>Zhn (λ_=>⟨_,rfl,λh=>absurd h (by decide)⟩) λ_=>⟨_,rfl,λ_=>⟨fin,rfl,rfl⟩⟩) λ_=>Zhn (λ_=>⟨_,rfl,λh=>absurd h (by decide)⟩) λ_=>⟨_,rfl,λ_=>⟨fin,rfl,rfl⟩⟩
theorem ZDu(n:UInt64):∃o,VG fuel n=some o∧o.length=8:=by
 unfold VG
 obtain⟨x,h1,h2⟩:=Z8 (step:=Xz fuel) 8 (λk s=>∃c,s=(n,56 - 8*(k:Int),c)∧c.length=k) (λx=>x.length=8) (i:=(n,(56:Int),([]:List UInt8))) ⟨_,rfl,rfl⟩ (by omega) (by
  rintro k _ hk ⟨c,rfl,hc⟩;left;unfold Xz;dsimp only;rw[if_pos (decide_eq_true (by omega)),if_pos (decide_eq_true (by omega)),if_pos (Yj (by omega) (by omega)),ZD (z:=56 - 8*(k:Int) - 8) (by omega) (by omega)];exact⟨_,rfl,_,by rw[show(56:Int) - 8*(k:Int) - 8=56 - 8*((k+1:Nat):Int) by omega],by simp[hc]⟩) (by
  rintro _ ⟨c,rfl,hc⟩;unfold Xz;dsimp only;rw[if_neg (ynd (by omega))];exact⟨_,rfl,hc⟩)
 rw[h1,ya];exact⟨_,rfl,h2⟩
theorem ZAL(n:UInt64):∃o,Wt fuel n=some o∧o.length=8:=by
 unfold Wt
 obtain⟨x,h1,h2⟩:=Z8 (step:=YU fuel) 8 (λk s=>∃c,s=(n,56 - 8*(k:Int),c)∧c.2.length=k) (λx=>x.2.length=8) (i:=(n,(56:Int),([]:List UInt8),([]:List UInt8))) ⟨_,rfl,rfl⟩ (by omega) (by
  rintro k _ hk ⟨c,rfl,hc⟩;left;unfold YU;dsimp only;rw[if_pos (decide_eq_true (by omega)),if_pos (decide_eq_true (by omega)),if_pos (Yj (by omega) (by omega)),ZD (z:=56 - 8*(k:Int) - 8) (by omega) (by omega)];exact⟨_,rfl,_,by rw[show(56:Int) - 8*(k:Int) - 8=56 - 8*((k+1:Nat):Int) by omega],by simp[hc]⟩) (by
  rintro _ ⟨c,rfl,hc⟩;unfold YU;dsimp only;rw[if_neg (ynd (by omega))];exact⟨_,rfl,hc⟩)
 rw[h1,ya];exact⟨_,rfl,h2⟩
theorem ZF9{s:ByteArray}{ls:List (List UInt8)}(h1:s.size≤100)(h2:ls.length≤10)(h3:∀l,l∈ls→l.length≤60000):∃o,Qa fuel s ls=some o∧o.length=32:=by
 unfold Qa;obtain⟨o,p1,p2⟩:=ZAL (w64 (s.size:Int))
 have hsl:s.data.toList.length=s.size:=by
  rw[Array.length_toList];rfl
 rw[p1,ya,if_pos (decide_eq_true (by unfold maxLen;omega)),if_pos (Yj (by rw[hsl,p2];omega) (by rw[hsl,p2];omega))]
 obtain⟨x,g1,b,rfl,g2⟩:=Z8 (step:=Y9 fuel) ls.length (λk q=>∃b,q=(ls,(k:Int),z32,b)∧b.length≤200+60100*k) (λx=>∃b,x=(z32,b)∧b.length≤700000) (i:=(ls,(0:Int),z32,o++s.data.toList)) ⟨_,rfl,by rw[yp,p2,hsl];omega⟩ (by omega) (by
  rintro k _ hk ⟨b,rfl,hb⟩;left;obtain⟨e,he,hm⟩:=Zl hk;have:=h3 e hm;obtain⟨q,q1,q2⟩:=ZDu (w64 (e.length:Int));unfold Y9;dsimp only;rw[if_pos (Yk hk),Zu he,ya,q1,ya,if_pos (Yj (by omega) (by omega)),ya,if_pos (Yj (by rw[yp];omega) (by rw[yp];omega)),Zr (by omega)];exact⟨_,rfl,_,rfl,by simp only[yp];omega⟩) (by
  rintro _ ⟨b,rfl,hb⟩;unfold Y9;dsimp only;rw[if_neg (by rw[Z2];decide)];exact⟨_,rfl,_,rfl,by omega⟩)
 show∃o_1,(ybu (Zc (Y9 fuel) fuel (ls,(0:Int),z32,o++s.data.toList)) λo85=>(XV fuel o85.2).bind λo86=>some o86)=some o_1∧o_1.length=32;rw[g1,ya,ZFR (by show b.length≤_;omega),ya];exact⟨_,rfl,Sha.ZLb _⟩
theorem ZGa{h:List UInt8}(hl:h.length=32):∃o,Wu fuel [] h=some o∧o.length=32:=by
 unfold Wu;rw[if_pos (Yj (by simp) (by simp))]
 obtain⟨x,g1,b,rfl,g2⟩:=Z8 (step:=YV fuel) 32 (λk q=>∃b,q=((k:Int),h,b)∧b.length=k) (λx=>∃b,x=(h,b)∧b.length=32) (i:=((0:Int),h,([]:List UInt8))) ⟨_,rfl,rfl⟩ (by omega) (by
  rintro k _ hk ⟨b,rfl,hb⟩;left;obtain⟨e,he,hm⟩:=Zl (l:=h) (k:=k) (by omega);unfold YV;dsimp only;rw[if_pos (decide_eq_true (by omega)),if_pos (Xf (by omega) (by omega)),ybq,he,ya,if_pos (Yj (by omega) (by omega)),Zr (by omega)];exact⟨_,rfl,_,rfl,by simp[hb]⟩) (by
  rintro _ ⟨b,rfl,hb⟩;unfold YV;dsimp only;rw[if_neg (ynd (by omega))];exact⟨_,rfl,_,rfl,hb⟩)
 rw[g1,ya];exact⟨_,rfl,g2⟩
theorem Zvl{h:List UInt8}(hl:h.length=32)(n:UInt8):∃o,Yl fuel h n=some o∧o.length=32:=by
 unfold Yl;obtain⟨o,h1,h2⟩:=ZGa hl
 obtain⟨p,h3,h4⟩:=ZF9 (s:=ZH9) (ls:=[o,[n]]) (by decide) (by simp) (by
  intro l hl;simp only[ybg,yct,or_false] at hl;rcases hl with rfl|rfl
  ·omega
  ·simp)
 rw[h1,ya,h3,ya];exact⟨_,rfl,h4⟩
theorem ZKN{h:List UInt8}(hl:h.length=32):∃k,WP fuel h=some k∧KitOk k:=by
 unfold WP;obtain⟨p1,a1,b1⟩:=Zvl hl 1;obtain⟨p2,a2,b2⟩:=Zvl hl 2;obtain⟨p3,a3,b3⟩:=Zvl hl 3;obtain⟨p4,a4,b4⟩:=Zvl hl 4;obtain⟨p5,a5,b5⟩:=Zvl hl 5;obtain⟨p6,a6,b6⟩:=Zvl hl 6;obtain⟨k1,c1,d1⟩:=Zk2 b1;obtain⟨k2,c2,d2⟩:=Zk2 b2;obtain⟨k3,c3,d3⟩:=Zk2 b3;obtain⟨k4,c4,d4⟩:=Zk2 b4;obtain⟨k5,c5,d5⟩:=Zk2 b5;rw[a1,ya,c1,ya,a2,ya,c2,ya,a3,ya,c3,ya,a4,ya,c4,ya,a5,ya,c5,ya,a6,ya];exact⟨_,rfl,d1,d2,d3,d4,d5⟩
theorem ZB6(k:Kit):WT fuel k=some (ZJ k):=by
 unfold WT;rw[Zk1,ya,Zk1,ya,Zk1,ya,Zk1,ya,Zk1,ya];rfl
def Sec(o:WW):UInt64:=1+o.2.2.2 % 2305843009213688668
theorem ZHG(o:WW):Key (Sec o):=by
 have h:(o.2.2.2 % 2305843009213688668).toNat < 2305843009213688668:=by
  rw[UInt64.toNat_mod];exact Nat.mod_lt _ (by decide)
 have e:(Sec o).toNat=1+(o.2.2.2 % 2305843009213688668).toNat:=by
  unfold Sec;rw[UInt64.toNat_add,yah]
  ·rfl
  ·show 1+_ < _;omega
 unfold Key ord;omega
structure PlayOk(p:Corsnedlaw21Play):Prop where
 sl:p.1.length=2
 ss:∀h,h∈p.1→h.length=32
 ol:p.2.2.2.2.2.1.length≤9223372036854775807
 os:∀o,o∈p.2.2.2.2.2.1→0≤o.2.1∧o.2.1≤65535∧0≤o.2.2.1∧o.2.2.1≤65535
 n0:0≤p.2.2.2.2.2.2.1
 n1:p.2.2.2.2.2.2.1≤65535
 per:p.2.2.2.2.2.2.2.length=32
def ZGb(p:Corsnedlaw21Play)(k:Nat)(l:List Cond):Prop:=∀c,c∈l→1≤c.2.1∧c.2.1≤(k:Int)∧∃o,p.2.2.2.2.2.1[c.2.1.toNat - 1]? =some o∧c.2.2.2.1=B (Sec o).toNat
theorem ZAM(x:UInt8):(((x % 2).toNat:Nat):Int)=0∨(((x % 2).toNat:Nat):Int)=1:=by
 have:(x % 2).toNat=x.toNat % 2:=UInt8.toNat_mod ..;omega
theorem Zy1{A:Int}{k0 k1:Kit}{op:Int}(h:ChOk A k0 k1 op){p:Corsnedlaw21Play}(hp:PlayOk p){s:State}(hs:StOk A op s)(he:s.2.2.1=[])(a:ZH)(b:List Kit)(c:State)(ks:List Kit):
 ∃x,Zc (Yt fuel) fuel ((0:Int),p,a,b,c,ks,Z9 A k0 k1 op,s)=some x∧∃t,x=(p,a,b,c,ks,Z9 A k0 k1 op,t)∧StOk A op t∧ZGb p 20 t.2.2.1∧t.1=s.1:=by
 obtain⟨p1,p2,p3,p4,p5,of,p6,p7⟩:=p;have hol:=hp.ol;have hos:=hp.os;dsimp only at hol hos;refine Z8 (step:=Yt fuel) 20 (λk q=>∃t,q=((k:Int),(p1,p2,p3,p4,p5,of,p6,p7),a,b,c,ks,Z9 A k0 k1 op,t)∧StOk A op t∧ZGb (p1,p2,p3,p4,p5,of,p6,p7) k t.2.2.1∧t.1=s.1) _ ⟨_,rfl,hs,by rw[he];intro c hc;simp at hc,rfl⟩ (by omega) ?_ ?_
 ·rintro k _ hk ⟨t,rfl,t1,t2,t3⟩
  have mono:∀{n m:Nat}{l:List Cond},n≤m→ZGb (p1,p2,p3,p4,p5,of,p6,p7) n l→ZGb (p1,p2,p3,p4,p5,of,p6,p7) m l:=λhnm ho c hc=>by
   obtain⟨q1,q2,q3⟩:=ho c hc;exact⟨q1,by omega,q3⟩
  unfold Yt;dsimp only;by_cases hkl:k < of.length
  ·left;obtain⟨o,ho,hom⟩:=Zl hkl;obtain⟨b1,b2,b3,b4⟩:=hos o hom
   have hc:CondIn (((o.1 % 2).toNat:Int),wi ((k:Int)+1),wi (1+wi o.2.1),B (Sec o).toNat,wi (1+wi o.2.2.1)):=by
    rw[Zr (by omega),ZD (z:=o.2.1) (by omega) (by omega),ZD (z:=1+o.2.1) (by omega) (by omega),ZD (z:=o.2.2.1) (by omega) (by omega),ZD (z:=1+o.2.2.1) (by omega) (by omega)];exact⟨ZAM _,by dsimp only;omega,by dsimp only;omega,by dsimp only;omega,by dsimp only;omega,Zud _,ZB2 (ZHG o),by dsimp only;omega,by dsimp only;omega⟩
   obtain⟨x,x1,x2⟩:=ZLy h t1 hc (by
    intro e he;have:=(t2 e he).2.1;rw[Zr (by omega)];dsimp only;omega)
   have hsec:QI fuel o=some (Sec o):=rfl;rw[if_pos (Yk hkl),if_pos (decide_eq_true (by omega)),Zu ho,ya,hsec,ya,Zc0,ya,x1,ya];by_cases h0:x.2=0
   ·obtain⟨y1,y2,y3⟩:=x2 h0;rw[if_pos (by rw[h0];rfl),Zr (by omega)];refine⟨_,rfl,_,rfl,y1, ?_,by rw[y3,t3]⟩;rw[y2];intro c hc;rcases Zrh.1 hc with rfl|hc
    ·rw[Zr (by omega)];refine⟨by dsimp only;omega,by dsimp only;omega,o, ?_,rfl⟩;dsimp only;rw[show((k+1:Nat):Int).toNat - 1=k by omega];exact ho
    ·exact mono (by omega) t2 c hc
   ·rw[if_neg (by rw[beq_iff_eq];exact h0),Zr (by omega)];exact⟨_,rfl,_,rfl,t1,mono (by omega) t2,t3⟩
  ·right;rw[if_neg (ynd (by omega))];exact⟨_,rfl,_,rfl,t1,mono (by omega) t2,t3⟩
 ·rintro _ ⟨t,rfl,t1,t2,t3⟩;unfold Yt;dsimp only;by_cases hkl:20 < of.length
  ·rw[if_pos (Yk hkl),if_neg (ynd (by omega))];exact⟨_,rfl,_,rfl,t1,t2,t3⟩
  ·rw[if_neg (ynd (by omega))];exact⟨_,rfl,_,rfl,t1,t2,t3⟩
theorem Zy2(P:Corsnedlaw21Play)(a:ZH)(b:List Kit)(c:State)(k0 k1:Kit)(A op:Int):Zc (XE fuel) fuel ((0:Int),P,a,b,c,([k0,k1]:List Kit),((yzz,(0:Int)),A,([(0,0,0,0,0),(0,0,0,0,0)]:List QZ),([(0,0,0,0,0,0),(0,0,0,0,0,0)]:List Zbi),op))=some (P,a,b,c,[k0,k1],Z9 A k0 k1 op):=by
 refine Z4 2 (λk:Nat=>((k:Int),P,a,b,c,([k0,k1]:List Kit),((z32,(0:Int)),A,([ZJ k0,ZJ k1]:List QZ).take k++([(0,0,0,0,0),(0,0,0,0,0)]:List QZ).drop k,([Tm 5,Tm 6]:List Zbi).take k++([(0,0,0,0,0,0),(0,0,0,0,0,0)]:List Zbi).drop k,op))) ?_ ?_ (by omega)
 ·intro k hk;unfold XE;dsimp only
  match k,hk with
  |0,_=>
   rw[if_pos (decide_eq_true (by omega)),if_pos (Xf (by omega) (by omega))];show ybu (some k0) _=_;rw[ya,ZB6,ya]
   rfl
  |1,_=>
   rw[if_pos (decide_eq_true (by omega)),if_pos (Xf (by omega) (by omega))];show ybu (some k1) _=_;rw[ya,ZB6,ya];rfl
 ·unfold XE;dsimp only;rw[if_neg (ynd (by omega))];rfl
theorem ZLz{p:Corsnedlaw21Play}(hp:PlayOk p):∃A k0 k1 op s,VM fuel p=some (Z9 A k0 k1 op,[k0,k1],s)∧ChOk A k0 k1 op∧StOk A op s∧ZGb p 20 s.2.2.1:=by
 have hof:=λ{A:Int}{k0 k1:Kit}{op:Int}(h:ChOk A k0 k1 op){s:State}(hs:StOk A op s)(he:s.2.2.1=[])(a:ZH)(b:List Kit)(c:State)(ks:List Kit)=>Zy1 h hp hs he a b c ks;have hn0:=hp.n0;have hn1:=hp.n1;obtain⟨sd,am,ow,ra,on,of,no,pr⟩:=p;dsimp only at hn0 hn1
 obtain⟨q0,q1,hsd⟩:∃q0 q1,sd=[q0,q1]:=by
  have:=hp.sl;dsimp only at this
  match sd,this with
  |[a,b],_=>exact⟨_,_,rfl⟩
 subst hsd;have hss:=hp.ss;obtain⟨k0,e0,f0⟩:=ZKN (hss q0 (by simp));obtain⟨k1,e1,f1⟩:=ZKN (hss q1 (by simp));have hop:=ZAM on;have ham:(am.toNat:Int)≤4294967295:=by have:=am.toNat_lt;omega
 unfold VM;show∃A k0 k1 op s,ybu (some q0) _=_∧_;rw[ya,e0,ya];show∃A k0 k1 op s,ybu (some q1) _=_∧_;rw[ya,e1,ya];dsimp only;rw[ZD (z:=20000+(am.toNat:Int)) (by omega) (by omega)];generalize hA:20000+(am.toNat:Int)=A;generalize (((on % 2).toNat:Nat):Int)=op at hop;have hch:ChOk A k0 k1 op:=⟨by omega,by omega,hop,f0,f1⟩;rw[Zy2,ya];have hcA:(Z9 A k0 k1 op).2.1=A:=rfl;have hcO:(Z9 A k0 k1 op).2.2.2.2=op:=rfl;dsimp only;rw[hcA,hcO,ZD (z:=A+1) (by omega) (by omega),if_pos (bne_iff_ne.2 (by omega))]
 obtain⟨y,hy,hy0,hyA⟩:∃y,yar (ow.toNat:Int) (A+1)=y∧0≤y∧y≤A:=by
  refine⟨_,rfl, ?_, ?_⟩
  ·exact Int.tmod_nonneg _ (by omega)
  ·have:=Int.tmod_lt_of_pos (ow.toNat:Int) (b:=A+1) (by omega);omega
 rw[hy,ZD (z:=A - y) (by omega) (by omega),ZD (z:=no) (by omega) (by omega)]
 have hr8:(ra % 8).toNat < 8:=by
  rw[UInt8.toNat_mod];exact Nat.mod_lt _ (by decide)
 generalize hr:(((ra % 8).toNat:Nat):Int)=r;have hs0:StIn A (no,[y,A - y],[],r) y (A - y):=⟨hn0,hn1,rfl,hy0,by omega,by dsimp only;omega,by dsimp only;omega,by simp,λc hc=>(by simp at hc),List.Pairwise.nil,by show y+(A - y)+0=A;omega⟩;rw[show Xr fuel (Z9 A k0 k1 op) (no,[y,A - y],[],r)=some (decide (hav op y (A - y) ≥ cost r 0)) from Zvi hch hs0,ya]
 by_cases hco:hav op y (A - y) ≥ cost r 0
 ·rw[if_neg (by rw[decide_eq_true hco];decide)];obtain⟨x,x1,t,rfl,x2,x3,x4⟩:=hof hch (s:=(no,[y,A - y],[],r)) ⟨_,_,hs0,hco⟩ rfl _ _ _ _;rw[x1,ya];exact⟨A,k0,k1,op,t,rfl,hch,x2,x3⟩
 ·have hci:=Zox (r:=r) (n:=0) (by omega) (by omega) (by omega);rw[if_pos (by rw[decide_eq_false hco];rfl),if_pos (XF hop),ZeZ hop,ya,if_pos (Zoy hop)]
  obtain⟨g0,g1,e1,e2,e3⟩:∃g0 g1:Int,(([y,A - y]:List Int).set op.toNat A).set ((wi (1 - op)).toNat) 0=[g0,g1]∧(g0=A∧g1=0∧op=0∨g0=0∧g1=A∧op=1)∧∃z,((([y,A - y]:List Int).set op.toNat A)[(wi (1 - op)).toNat]?)=some z:=by
   rcases hop with rfl|rfl
   ·exact⟨_,_,rfl,.inl ⟨rfl,rfl,rfl⟩,_,rfl⟩
   ·exact⟨_,_,rfl,.inr ⟨rfl,rfl,rfl⟩,_,rfl⟩
  obtain⟨z,hz⟩:=e3;rw[hz,ya,e1];have hs1:StIn A (no,[g0,g1],[],r) g0 g1:=⟨hn0,hn1,rfl,by omega,by omega,by dsimp only;omega,by dsimp only;omega,by simp,λc hc=>(by simp at hc),List.Pairwise.nil,by show g0+g1+0=A;omega⟩
  have hco1:hav op g0 g1 ≥ cost r 0:=by
   unfold hav;rcases e2 with⟨u1,u2,u3⟩|⟨u1,u2,u3⟩
   ·rw[if_pos u3];omega
   ·rw[if_neg (by omega)];omega
  obtain⟨x,x1,t,rfl,x2,x3,x4⟩:=hof hch (s:=(no,[g0,g1],[],r)) ⟨_,_,hs1,hco1⟩ rfl _ _ _ _;rw[x1,ya];exact⟨A,k0,k1,op,t,rfl,hch,x2,x3⟩
def beF(l:List UInt8):Nat→Nat
 |0=>0
 |k+1=>beF l k*256+((l[k]?).map UInt8.toNat).getD 0
theorem ZGc(l:List UInt8):∀k,beF l k < 256 ^ k
 |0=>by simp[beF]
 |k+1=>by
  have:=ZGc l k
  have h:((l[k]?).map UInt8.toNat).getD 0 < 256:=by
   cases l[k]? with
   |none=>simp
   |some d=>exact d.toNat_lt
  rw[beF,Nat.pow_succ];omega
theorem ZB7(n:Nat):∀k,k≤8→n < 18446744073709551616→beF (Zpw n) k=n / 2 ^ (64 - 8*k)
 |0,_,h=>by rw[beF,Nat.div_eq_of_lt (by omega)]
 |k+1,hk,h=>by
  rw[beF,ZB7 n k (by omega) h,ZyW n (by omega)];have e:(64 - 8*k)=(56 - 8*k)+8:=by omega
  have e2:64 - 8*(k+1)=56 - 8*k:=by omega
  rw[e,e2,Nat.pow_add, ←Nat.div_div_eq_div_mul];simp;omega
def Zk4(r:Zt)(n:Nat):List UInt8×Zt:=if r.2=true∨r.1.length < n then([],([],true)) else(r.1.take n,(r.1.drop n,r.2))
theorem ZB8{n:Nat}{z:Int}(h0:0≤z)(h:z≤(n:Int)):Za2 n (some z) none=true:=by simp[Za2,h0,h]
theorem ZHH{n:Nat}{z:Int}(h0:0≤z)(h:z≤(n:Int)):Za2 n none (some z)=true:=by simp[Za2,h0,h]
theorem Zy3{l:List UInt8}(h:l.length≤1000000000):Yb fuel l=some l:=by
 unfold Yb;rw[if_pos (Yj (by omega) (by omega))]
theorem ZHI{z:Int}{r:Zt}(h0:0≤z)(h:r.1.length≤2000000):V7 fuel z r=some (Zk4 r z.toNat):=by
 obtain⟨b,no⟩:=r;obtain⟨n,rfl⟩:=Int.eq_ofNat_of_zero_le h0;unfold V7 Zk4 WN;dsimp only at h ⊢;rw[ybq];by_cases h1:no=true
 ·rw[if_pos h1,ya,if_pos (.inl h1)]
 by_cases h2:b.length < n
 ·rw[if_neg h1,if_pos (decide_eq_true (by omega)),ya,if_pos (.inr h2)]
 rw[if_neg h1,if_neg (ynd (by omega)),if_pos (ZHH (by omega) (by omega)),Zy3 (by rw[yai];omega),ya,if_pos (ZB8 (by omega) (by omega)),if_neg (by rintro(h|h);exact h1 h;exact h2 h)]
theorem Zvm(r:Zt)(n:Nat):(Zk4 r n).1.length≤n∧(Zk4 r n).2.1.length≤r.1.length:=by
 unfold Zk4;split
 ·simp
 ·simp;omega
theorem ZGd{b r:List UInt8}{n:Nat}(h:b.length=n):Zk4 (b++r,false) n=(b,(r,false)):=by
 subst h;unfold Zk4;rw[if_neg (by simp)];simp
def ZGe(r:Zt):UInt64×Zt:=(yad (beF (Zk4 r 8).1 (Zk4 r 8).1.length),(Zk4 r 8).2)
theorem ZGf{l:List UInt8}{k:Nat}{d:UInt8}(hk:k < 8)(hx:l[k]? =some d):(V3 (yad (beF l k)) 8)|||(yad d.toNat)=yad (beF l (k+1)):=by
 have h1:=ZGc l k;have h2:256 ^ k≤256 ^ 7:=Nat.pow_le_pow_right (by omega) (by omega);have h3:=d.toNat_lt;apply ycf.1;unfold V3
 rw[UInt64.toNat_or,yba,yba,yba,yba,yah (a:=beF l k) (by omega),yah (a:=d.toNat) (by omega),yah (a:=beF l k*2 ^ 8) (by omega),beF,hx,
  ybi (beF l k) (2 ^ 8), ←ycy (by omega)]
 simp;omega
theorem Zrj{r:Zt}(h:r.1.length≤2000000):Vq fuel r=some (ZGe r):=by
 unfold Vq ZGe;rw[ZHI (by omega) h,ya];have hl:=Zvm r 8;rw[show(8:Int).toNat=8 from rfl]
 generalize Zk4 r 8=q at hl;obtain⟨l,s⟩:=q;dsimp only at hl ⊢
 rw[show((0:UInt64),l,(l.length:Int),(0:Int),s)=(λk:Nat=>(yad (beF l k),l,(l.length:Int),(k:Int),s)) 0 from rfl,
  Z4 (x:=(yad (beF l l.length),s)) l.length (λk:Nat=>(yad (beF l k),l,(l.length:Int),(k:Int),s)) ?_ ?_ (by omega),ya]
 ·intro k hk;obtain⟨e,he,_⟩:=Zl hk;unfold Vb;dsimp only;rw[if_pos (Yk hk),Zu he,ya,ZGf (by omega) he,Zr (by omega)]
 ·unfold Vb;dsimp only;rw[if_neg (by rw[Z2];decide)]
theorem Zy4(r:Zt):(ZGe r).2.1.length≤r.1.length:=(Zvm r 8).2
theorem ZB9(x:UInt64)(r:List UInt8):ZGe (Zpw x.toNat++r,false)=(x,(r,false)):=by
 unfold ZGe;rw[ZGd (Zae _),Zae];dsimp only;rw[ZB7 _ 8 (by omega) (UInt64.toNat_lt _)];simp
def Vw(b:List UInt8):Nat→Nat→Nat→Bool×Nat×Nat
 |0,k,_=>(false,0,k)
 |f+1,k,n=>match b[k]? with
  |none=>(false,0,k)
  |some d=>if 8 < k∨(0 < k∧d.toNat=0) then(false,0,k) else if d.toNat < 128 then(true,n+d.toNat % 128*128 ^ k,k+1) else Vw b f (k+1) (n+d.toNat % 128*128 ^ k)
theorem Zm6{b:List UInt8}{f k n:Nat}(h:b.length≤k):Vw b (f+1) k n=(false,0,k):=by
 simp[Vw,List.getElem?_eq_none h]
theorem Zpx{b:List UInt8}{f k n:Nat}{d:UInt8}(hx:b[k]? =some d)(h:8 < k):Vw b (f+1) k n=(false,0,k):=by
 simp[Vw,hx,h]
theorem Zi1{b:List UInt8}{f k n:Nat}{d:UInt8}(hx:b[k]? =some d)(_:¬8 < k)(h:0 < k∧d.toNat=0):Vw b (f+1) k n=(false,0,k):=by
 rw[Vw,hx];exact if_pos (.inr h)
theorem Zi2{b:List UInt8}{f k n:Nat}{d:UInt8}(hx:b[k]? =some d)(h2:¬8 < k)(h3:¬(0 < k∧d.toNat=0))(h4:d.toNat < 128):Vw b (f+1) k n=(true,n+d.toNat % 128*128 ^ k,k+1):=by
 rw[Vw,hx];show(if 8 < k∨(0 < k∧d.toNat=0) then _ else _)=_
 rw[if_neg (by rintro(h|h);exact h2 h;exact h3 h),if_pos h4]
theorem Zi3{b:List UInt8}{f k n:Nat}{d:UInt8}(hx:b[k]? =some d)(h2:¬8 < k)(h3:¬(0 < k∧d.toNat=0))(h4:¬d.toNat < 128):Vw b (f+1) k n=Vw b f (k+1) (n+d.toNat % 128*128 ^ k):=by
 rw[Vw,hx];show(if 8 < k∨(0 < k∧d.toNat=0) then _ else _)=_
 rw[if_neg (by rintro(h|h);exact h2 h;exact h3 h),if_neg h4]
theorem Zy5(n k:Nat)(d:UInt8)(hn:n < 128 ^ k)(hk:k≤8):n+d.toNat % 128*128 ^ k < 9223372036854775808:=by
 have h1:d.toNat % 128*128 ^ k≤127*128 ^ k:=ybx _ (by omega);have h2:128 ^ (k+1)≤128 ^ 9:=Nat.pow_le_pow_right (by omega) (by omega);rw[Nat.pow_succ] at h2;omega
theorem Zvn(n k:Nat)(d:UInt8)(hn:n < 128 ^ k):n+d.toNat % 128*128 ^ k < 128 ^ (k+1):=by
 have h1:d.toNat % 128*128 ^ k≤127*128 ^ k:=ybx _ (by omega);rw[Nat.pow_succ];omega
theorem Zy6(b:List UInt8):∀(f k n:Nat),(Vw b f k n).1=true→(Vw b f k n).2.2≤b.length
 |0,k,n,h=>by simp[Vw] at h
 |f+1,k,n,h=>by
  by_cases h1:b.length≤k
  ·rw[Zm6 h1] at h;cases h
  have hx:=yac (Nat.lt_of_not_le h1);by_cases h2:8 < k
  ·rw[Zpx hx h2] at h;cases h
  by_cases h3:0 < k∧b[k].toNat=0
  ·rw[Zi1 hx h2 h3] at h;cases h
  by_cases h4:b[k].toNat < 128
  ·rw[Zi2 hx h2 h3 h4];simp;omega
  ·rw[Zi3 hx h2 h3 h4] at h ⊢;exact Zy6 b f _ _ h
theorem Zy7(b:List UInt8):∀(f k n:Nat),n < 128 ^ k→k≤9→(Vw b f k n).2.1≤9223372036854775807
 |0,k,n,h,_=>by simp[Vw]
 |f+1,k,n,h,hk=>by
  by_cases h1:b.length≤k
  ·rw[Zm6 h1];simp
  have hx:=yac (Nat.lt_of_not_le h1);by_cases h2:8 < k
  ·rw[Zpx hx h2];simp
  by_cases h3:0 < k∧b[k].toNat=0
  ·rw[Zi1 hx h2 h3];simp
  by_cases h4:b[k].toNat < 128
  ·rw[Zi2 hx h2 h3 h4];have:=Zy5 n k b[k] h (by omega);show n+b[k].toNat % 128*128 ^ k≤_;omega
  ·rw[Zi3 hx h2 h3 h4];exact Zy7 b f _ _ (Zvn n k _ h) (by omega)
theorem ZCa{a:List UInt8}{k:Nat}{x:UInt8}{r:List UInt8}(h:a.length=k):(a++x::r)[k]? =some x:=by
 rw[yat (by omega),h,Nat.sub_self];rfl
theorem Zoz{n:Nat}(h:n < 256):(yau n).toNat=n:=by simp[yah h]
theorem Zvo:∀(f n:Nat)(pre rest:List UInt8)(k acc:Nat),pre.length=k→k+(WX n).length≤9→(WX n).length≤f→(0 < k→0 < n)→
 Vw (pre++(WX n++rest)) f k acc=(true,acc+n*128 ^ k,k+(WX n).length)
 |0,n,pre,rest,k,acc,_,_,hf,_=>by
  have:=List.length_pos_iff.2 (ZHE n);omega
 |f+1,n,pre,rest,k,acc,hp,hk,hf,h0=>by
  by_cases h:n < 128
  ·rw[ZiZ h] at hk ⊢;have hx:(pre++([yau n]++rest))[k]? =some (yau n):=ZCa hp;have e:(yau n).toNat=n:=Zoz (by omega);simp at hk;rw[Zi2 hx (by omega) (by rw[e];omega) (by rw[e];exact h),e,yah h];rfl
  ·rw[Ztr h] at hk hf ⊢;have hx:(pre++((yau (n % 128+128)::WX (n / 128))++rest))[k]? =some (yau (n % 128+128)):=ZCa hp;have e:(yau (n % 128+128)).toNat=n % 128+128:=Zoz (by omega);simp only[yag] at hk hf ⊢;rw[Zi3 hx (by omega) (by rw[e];omega) (by rw[e];omega),e];have:=Zvo f (n / 128) (pre++[yau (n % 128+128)]) rest (k+1) (acc+(n % 128+128) % 128*128 ^ k) (by simp[hp]) (by omega) (by omega) (by omega);rw[yaj] at this;simp only[List.cons_append,List.nil_append] at this ⊢;rw[this];have e2:n=n % 128+128*(n / 128):=by omega
   have e3:(n % 128+128) % 128=n % 128:=by omega
   rw[e3,Nat.pow_succ];refine Prod.ext rfl (Prod.ext ?_ (by simp;omega));show acc+n % 128*128 ^ k+n / 128*(128 ^ k*128)=acc+n*128 ^ k;rw[show n / 128*(128 ^ k*128)=128*(n / 128)*128 ^ k by rw[ybi (128 ^ k) 128, ←Nat.mul_assoc,ybi (n / 128) 128],Nat.add_assoc, ←Nat.add_mul, ←e2]
def ZlW(r:Zt):Int×Zt:=if(Vw r.1 10 0 0).1=true then(((Vw r.1 10 0 0).2.1:Int),(r.1.drop (Vw r.1 10 0 0).2.2,r.2)) else(0,([],true))
theorem Zrk{z:Int}(h0:0≤z)(hz:z≤9223372036854775807)(rest:List UInt8):ZlW (WX z.toNat++rest,false)=(z,(rest,false)):=by
 obtain⟨n,rfl⟩:=Int.eq_ofNat_of_zero_le h0;have hl:=YL (n:=n) (by omega);have:=Zvo 10 n [] rest 0 0 rfl (by omega) (by omega) (by omega);simp only[List.nil_append,Nat.zero_add,Nat.pow_zero,Nat.mul_one] at this;unfold ZlW;rw[ybq];dsimp only;rw[this];simp
theorem ZoA(r:Zt):0≤(ZlW r).1∧(ZlW r).1≤9223372036854775807∧(ZlW r).2.1.length≤r.1.length:=by
 unfold ZlW;split
 ·have:=Zy7 r.1 10 0 0 (by omega) (by omega);refine⟨by dsimp only;omega,by dsimp only;omega, ?_⟩;rw[List.length_drop];omega
 ·simp
theorem ZGg{n k:Nat}{d:UInt8}(hn:n < 128 ^ k)(hk:k≤8):bits .or .i64 (n:Int) (wi (((d % 128).toNat:Int)*2 ^ (min (wi (7*(k:Int))).toNat 64)))=((n+d.toNat % 128*128 ^ k:Nat):Int):=by
 have e0:(wi (7*(k:Int)))=((7*k:Nat):Int):=by rw[ZD (by omega) (by omega)];omega
 have e1:min ((7*k:Nat):Int).toNat 64=7*k:=by omega
 have e2:128 ^ k=2 ^ (7*k):=by rw[Nat.pow_mul]
 have h1:=Zy5 n k d hn hk
 have e3:((d % 128).toNat:Int)*2 ^ (7*k)=((d.toNat % 128*128 ^ k:Nat):Int):=by
  rw[e2,UInt8.toNat_mod]
  push_cast
  rfl
 rw[e0,e1,e3,ZD (by omega) (by omega)];refine Go.Ev.Zrt (op:=.or) (k:=.i64) ?_ (by omega) ⟨by show-9223372036854775808≤_;omega,by show _≤9223372036854775807;omega⟩ (by omega) ⟨by show-9223372036854775808≤_;omega,by show _≤9223372036854775807;omega⟩ ⟨by show-9223372036854775808≤_;omega,by show _≤9223372036854775807;omega⟩;show some _=some _;congr 1;simp only[ybq];rw[e2] at hn ⊢;have:=ycy hn (d.toNat % 128);rw[ybi,Nat.or_comm, ←this];omega
theorem ZoB{b:List UInt8}{no:Bool}{k:Nat}(hb:b.length≤2000000)(h:b.length≤k∨8 < k∨(0 < k∧b[k]? =some 0)):XH fuel (k:Int) (b,no)=some (true,(k:Int),(b,no)):=by
 unfold XH;dsimp only;by_cases h1:b.length≤k
 ·rw[if_pos (decide_eq_true (by omega))]
 rw[if_neg (ynd (by omega))];by_cases h2:8 < k
 ·rw[if_pos (decide_eq_true (by omega))]
 rw[if_neg (ynd (by omega))];rcases h with h|h|⟨h,h3⟩
 ·exact absurd h h1
 ·exact absurd h h2
 rw[if_pos (decide_eq_true (by omega)),Zu h3,ya];rfl
theorem ZDv{b:List UInt8}{no:Bool}{k:Nat}{d:UInt8}(hb:b.length≤2000000)(hx:b[k]? =some d)(h2:¬8 < k)(h3:¬(0 < k∧d.toNat=0)):XH fuel (k:Int) (b,no)=some (false,(k:Int),(b,no)):=by
 unfold XH;have h1:k < b.length:=(yr.1 hx).1;dsimp only;rw[if_neg (ynd (by omega)),if_neg (ynd (by omega))];by_cases h4:0 < k
 ·rw[if_pos (decide_eq_true (by omega)),Zu hx,ya]
  have:(d==0)=false:=by
   rw[beq_eq_false_iff_ne];intro h;exact h3 ⟨h4,by rw[h];rfl⟩
  rw[this]
 ·rw[if_neg (ynd (by omega))]
theorem Zy8{b:List UInt8}{no:Bool}(hb:b.length≤2000000):∀(f k n m:Nat),k+f=10→f < m→n < 128 ^ k→
 Zc (X4 fuel) m ((n:Int),(b,no),(k:Int))=some (if(Vw b f k n).1=true then .inr (((Vw b f k n).2.1:Int),(b,no),((Vw b f k n).2.2:Int)) else .inl ((0:Int),([],true),((Vw b f k n).2.2:Int)))
 |f,k,n,0,_,h,_=>by omega
 |0,k,n,m+1,h,_,_=>by
  unfold Zc X4;dsimp only;rw[ZoB hb (.inr (.inl (by omega))),ya]
  rfl
 |f+1,k,n,m+1,h,hf,hn=>by
  unfold Zc X4;dsimp only;by_cases h1:b.length≤k
  ·rw[Zm6 h1,ZoB hb (.inl h1),ya];rfl
  obtain⟨d,hx,_⟩:=Zl (l:=b) (k:=k) (by omega);by_cases h2:8 < k
  ·rw[Zpx hx h2,ZoB hb (.inr (.inl h2)),ya];rfl
  by_cases h3:0 < k∧d.toNat=0
  ·rw[Zi1 hx h2 h3,ZoB hb (.inr (.inr ⟨h3.1,by rw[hx,show d=0 from UInt8.toNat_inj.1 h3.2]⟩)),ya]
   rfl
  rw[ZDv hb hx h2 h3,ya];dsimp only
  rw[if_neg (by decide),Zu hx,ya,ZGg hn (by omega),
   if_pos (decide_eq_true (by rw[ZD (by omega) (by omega)];omega)),Zr (by omega)]
  have hlt:decide (d < 128)=decide (d.toNat < 128):=by
   rw[Bool.eq_iff_iff,decide_eq_true_iff,decide_eq_true_iff,UInt8.lt_iff_toNat_lt];rfl
  rw[hlt];by_cases h4:d.toNat < 128
  ·rw[Zi2 hx h2 h3 h4,if_pos (decide_eq_true h4)];rfl
  ·rw[Zi3 hx h2 h3 h4,if_neg (by rw[decide_eq_true_iff];exact h4)];exact Zy8 hb f (k+1) _ m (by omega) (by omega) (Zvn n k d hn)
theorem Zi4{r:Zt}(h:r.1.length≤2000000):XI fuel r=some (ZlW r):=by
 obtain⟨b,no⟩:=r;unfold XI ZlW;dsimp only at h ⊢;have:=Zy8 (no:=no) h 10 0 0 fuel (by omega) (by rw[ZcL];omega) (by omega);rw[show((0:Nat):Int)=0 from rfl] at this
 rw[this,ya];by_cases hg:(Vw b 10 0 0).1=true
 ·have hl:=Zy6 b 10 0 0 hg;rw[if_pos hg,if_pos hg];dsimp only;rw[if_pos (ZB8 (by omega) (by omega)),ybq]
 ·rw[if_neg hg,if_neg hg]
theorem ZCb{b:List UInt8}(h:b.length≤2000000):Ziw fuel b=some (b,false):=by
 unfold Ziw;rw[Zy3 (by omega),ya]
theorem ZDw{l:List UInt64}(hl:l.length≤9223372036854775807):∃b,Zcp fuel l=some b∧(b=false→∀p,p∈l→Q7 p.toNat):=by
 unfold Zcp Zbl
 obtain⟨x,h1,h2⟩:=Z8 (step:=Xj fuel) l.length (λk s=>s=(l,(l.length:Int),(k:Int))∧∀j p,j < k→l[j]? =some p→Q7 p.toNat) (λx=>(∃k:Nat,x=.inl (k:Int))∨x=.inr ()∧∀p,p∈l→Q7 p.toNat) (i:=(l,(l.length:Int),(0:Int))) ⟨rfl,λj p hj=>by omega⟩ (by omega) (by
  rintro k _ hk ⟨rfl,hj⟩;obtain⟨e,he,_⟩:=Zl hk;unfold Xj;dsimp only;rw[if_pos (Yk hk),Zu he,ya,ZAI,ya,Zr (by omega)];by_cases hp:Q7 e.toNat
  ·rw[decide_eq_true hp];left;refine⟨_,rfl,rfl,λj p h3 h4=> ?_⟩;by_cases h5:j < k
   ·exact hj j p h5 h4
   ·have:j=k:=by omega
    subst this;rw[he] at h4;cases h4;exact hp
  ·rw[decide_eq_false hp];right;exact⟨_,rfl,.inl ⟨k,rfl⟩⟩) (by
  rintro _ ⟨rfl,hj⟩;unfold Xj;dsimp only;rw[if_neg (by rw[Z2];decide)];refine⟨_,rfl,.inr ⟨rfl,λp hp=> ?_⟩⟩;obtain⟨j,hj1,hj2⟩:=ycw hp;exact hj j p hj1 (by rw[yac hj1,hj2]))
 rw[h1,ya];rcases h2 with⟨k,rfl⟩|⟨rfl,h2⟩
 ·dsimp only;rw[ya];refine⟨_,rfl,λh=> ?_⟩;exact absurd (of_decide_eq_false h) (by omega)
 ·exact⟨_,rfl,λ_=>h2⟩
def Zxa(l:Lock):Prop:=l.length≤9223372036854775807∧∀b,b∈l→b.1.length≤9223372036854775807
theorem Zqx(z:Int):∃b,VC fuel z=some b∧(b=true→0≤z∧z≤1048576):=by
 unfold VC;by_cases h:z ≥ 0
 ·rw[if_pos (decide_eq_true h)];exact⟨_,rfl,λh2=>⟨h,of_decide_eq_true h2⟩⟩
 ·rw[if_neg (by rw[decide_eq_true_iff];exact h)];exact⟨_,rfl,λh2=>by cases h2⟩
theorem Zk5{l:Lock}(hl:Zxa l):∃b,Y6 fuel l=some b∧(b=true↔LockOk l∧LockPt l):=by
 have key:∃b,Y6 fuel l=some b∧(b=true→LockOk l∧LockPt l):=by
  unfold Y6;obtain⟨h0,h1⟩:=hl
  obtain⟨x,hx,hp⟩:=Z8 (step:=Wm fuel) l.length (λk s=>s=(l,(l.length:Int),(k:Int),l)∧∀j b,j < k→l[j]? =some b→ZDq b∧ZDr b)
   (λx=>x=.inl (false,l)∨(x=.inr l∧∀b,b∈l→ZDq b∧ZDr b)) (i:=(l,(l.length:Int),(0:Int),l)) ⟨rfl,λj b hj=>by omega⟩ (by omega) (by
   rintro k _ hk ⟨rfl,hj⟩;obtain⟨e,he,hm⟩:=Zl hk
   have hnext:(ZDq e∧ZDr e)→∀j b,j < k+1→l[j]? =some b→ZDq b∧ZDr b:=by
    intro hE j b h2 h3;by_cases h4:j < k
    ·exact hj j b h4 h3
    ·have:j=k:=by omega
     subst this;rw[he] at h3;cases h3;exact hE
   unfold Wm;dsimp only;rw[if_pos (Yk hk),Zu he,ya];by_cases k1:(e.1.length:Int) > 12
   ·right;rw[if_pos (decide_eq_true k1)];exact⟨_,rfl,.inl rfl⟩
   rw[if_neg (by rw[decide_eq_true_iff];exact k1)];obtain⟨b,hb,hbp⟩:=ZDw (h1 e hm);rw[hb,ya]
   cases b with
   |true=>right;exact⟨_,rfl,.inl rfl⟩
   |false=>
    obtain⟨c,hc,hc2⟩:=Zqx e.2.1;obtain⟨d,hd,hd2⟩:=Zqx e.2.2.1;rw[if_neg (by decide),hc,ya,hd,ya]
    cases c with
    |false=>right;exact⟨_,rfl,.inl rfl⟩
    |true=>
     cases d with
     |false=>right;exact⟨_,rfl,.inl rfl⟩
     |true=>
      have hn:=λhz:e.2.2.2≠0→Q7 e.2.2.2.toNat=>hnext ⟨⟨by omega,(hc2 rfl).1,(hc2 rfl).2,(hd2 rfl).1,(hd2 rfl).2⟩,hbp rfl,hz⟩;rw[if_neg (by decide),if_neg (by decide),Zr (by omega)];by_cases hz:e.2.2.2=0
      ·rw[if_neg (by rw[hz];decide)];left;exact⟨_,rfl,rfl,hn λh=>absurd hz h⟩
      ·rw[if_pos (by simp[hz]),ZAI,ya];by_cases hpt:Q7 e.2.2.2.toNat
       ·rw[decide_eq_true hpt];left;exact⟨_,rfl,rfl,hn λ_=>hpt⟩
       ·rw[decide_eq_false hpt];right;exact⟨_,rfl,.inl rfl⟩) (by
   rintro _ ⟨rfl,hj⟩;unfold Wm;dsimp only;rw[if_neg (by rw[Z2];decide)];refine⟨_,rfl,.inr ⟨rfl,λb hb=> ?_⟩⟩;obtain⟨j,hj1,hj2⟩:=ycw hb;exact hj j b hj1 (by rw[yac hj1,hj2]))
  rw[hx,ya];rcases hp with rfl|⟨rfl,hp⟩
  ·exact⟨_,rfl,λh=>by cases h⟩
  ·dsimp only;by_cases h2:(l.length:Int) > 0
   ·rw[if_pos (decide_eq_true h2)];refine⟨_,rfl,λh3=>⟨⟨by omega, ?_,λb hb=>(hp b hb).1⟩,λb hb=>(hp b hb).2⟩⟩;have:=of_decide_eq_true h3;omega
   ·rw[if_neg (by rw[decide_eq_true_iff];exact h2)];exact⟨_,rfl,λh=>by cases h⟩
 obtain⟨b,h1,h2⟩:=key;refine⟨b,h1,h2,λh=> ?_⟩;rw[ZcD h.1 h.2] at h1;exact(Option.some.inj h1).symm
theorem ZCc{α:Type}{l:List α}{k:Nat}{e:α}(h:l[k]? =some e):l.drop k=e::l.drop (k+1):=by
 obtain⟨h1,h2⟩:=yr.1 h;rw[List.drop_eq_getElem_cons h1,h2]
theorem Zy9{α:Type}{f:α→List UInt8}{l:List α}{k:Nat}{e:α}(h:l[k]? =some e):cat f (l.drop k)=f e++cat f (l.drop (k+1)):=by
 rw[ZCc h,ZyX]
theorem Zi5{α:Type}{f:α→List UInt8}{c n:Nat}{l:List α}(h:∀x,x∈l→(f x).length≤c)(hn:l.length≤n)(k:Nat):(cat f (l.drop k)).length≤n*c:=by
 refine Nat.le_trans (Zw7 λx hx=>h x (List.mem_of_mem_drop hx)) (ybx c ?_);rw[List.length_drop];omega
theorem ZDx{a b:List UInt8}(h:a.length≤2000000):∃r,Yz fuel a b=some r:=by
 unfold Yz;by_cases hl:a.length=b.length
 ·rw[if_neg (by simp[hl])]
  obtain⟨x,h1,_⟩:=Z8 (step:=Z0 fuel) a.length (λk s=>s=(a,b,(a.length:Int),(k:Int))) (λ_=>True) (i:=(a,b,(a.length:Int),(0:Int))) rfl (by omega) (by
   rintro k _ hk rfl;obtain⟨e,he,_⟩:=Zl hk;obtain⟨f,hf,_⟩:=Zl (l:=b) (k:=k) (by omega);unfold Z0;dsimp only;rw[if_pos (Yk hk),Zu he,ya,Zu hf,ya,Zr (by omega)];split
   ·right;exact⟨_,rfl,ytt⟩
   ·left;exact⟨_,rfl,rfl⟩) (by
   rintro _ rfl;unfold Z0;dsimp only;rw[if_neg (by rw[Z2];decide)];exact⟨_,rfl,ytt⟩)
  rw[h1,ya]
  cases x with
  |inl y=>exact⟨_,rfl⟩
  |inr y=>exact⟨_,rfl⟩
 ·rw[if_pos (by simp;omega)];exact⟨_,rfl⟩
theorem ZAN{a:List UInt8}(h:a.length≤2000000):Yz fuel a a=some true:=by
 unfold Yz;rw[if_neg (by simp),show(a,a,(a.length:Int),(0:Int))=(λk:Nat=>(a,a,(a.length:Int),(k:Int))) 0 from rfl,Z4 (x:=.inr ()) a.length (λk:Nat=>(a,a,(a.length:Int),(k:Int))) ?_ ?_ (by omega),ya]
 ·intro k hk;obtain⟨e,he,_⟩:=Zl hk;unfold Z0;dsimp only;rw[if_pos (Yk hk),Zu he,ya,ya,Zr (by omega),if_neg (by simp)]
 ·unfold Z0;dsimp only;rw[if_neg (by rw[Z2];decide)]
theorem ZDy{b:List UInt8}{n i:Int}{l:Lock}{rest:List UInt8}{acc:List ZM}{i1 i2:Int}{u:UInt64}{ks:List UInt64}(hk:ks.length≤12)(hr:rest.length≤100000):
 Zc (XN fuel) fuel (b,n,i,(ks.length:Int),(0:Int),l,(cat Ztt ks++rest,false),acc,i1,i2,u,([]:List UInt64))=some (b,n,i,l,(rest,false),acc,i1,i2,u,ks):=by
 refine Z4 ks.length (λk:Nat=>(b,n,i,(ks.length:Int),(k:Int),l,(cat Ztt (ks.drop k)++rest,false),acc,i1,i2,u,ks.take k)) ?_ ?_ (by omega)
 ·intro k hk2;obtain⟨e,he,_⟩:=Zl hk2;have hl:=Zi5 (f:=Ztt) (c:=8) (λx _=>Nat.le_of_eq (Zae _)) hk k;unfold XN;dsimp only;rw[if_pos (Yk hk2),Zrj (by dsimp only;rw[yp];omega),ya,Zy9 he,yaj];unfold Ztt;rw[ZB9,if_pos (Yj (by rw[yai];omega) (by rw[yai];omega)),Zr (by omega),ZeW he]
 ·unfold XN;dsimp only;rw[if_neg (by rw[Z2];decide),List.drop_length,ybl];rfl
theorem ZDz{l:Lock}(h:LockOk l)(hp:LockPt l):lock_ReadM fuel (WY l)=some (l,true):=by
 have hlen:=Za1 h;unfold lock_ReadM;rw[ZCb (by omega),ya,Zi4 (by dsimp only;omega),ya];have h0:=h.2.1
 have e0:ZlW (WY l,false)=((l.length:Int),(cat brF l,false)):=by
  have:=Zrk (z:=(l.length:Int)) (by omega) (by omega) (cat brF l);rw[ybq] at this;exact this
 have hbl:∀k,(cat brF (l.drop k)).length≤4*131:=Zi5 (λx hx=>Zw8 (h.2.2 x hx)) h0;rw[e0];dsimp only;generalize hb:WY l=b at hlen
 rw[show(b,(l.length:Int),(0:Int),([]:Lock),(cat brF l,false),([]:List ZM))=(λk:Nat=>(b,(l.length:Int),(k:Int),([]:Lock),(cat brF (l.drop k),false),l.take k)) 0 from rfl,
  Z4 (x:=(b,([]:Lock),(([]:List UInt8),false),l)) l.length (λk:Nat=>(b,(l.length:Int),(k:Int),([]:Lock),(cat brF (l.drop k),false),l.take k)) ?_ ?_ (by omega),ya]
 ·dsimp only;rw[ZcD h hp,ya,if_neg (by decide),ZcE h hp,ya,hb,ZAN (by omega),ya];rfl
 ·intro k hk;obtain⟨e,he,hm⟩:=Zl hk;obtain⟨e1,e2,e3,e4,e5⟩:=h.2.2 e hm;have hl:=hbl k;have hl2:=hbl (k+1);have r2:=YL (n:=e.2.1.toNat) (by omega);have r3:=YL (n:=e.2.2.1.toNat) (by omega);have r4:=Zae e.2.2.2.toNat
  have hks:=Zi5 (f:=Ztt) (c:=8) (l:=e.1) (λx _=>Nat.le_of_eq (Zae _)) e1 0;rw[List.drop_zero] at hks;unfold W5;dsimp only;rw[if_pos (Yk hk),Zi4 (by dsimp only;omega),ya,if_neg (by rw[beq_iff_eq];omega),Zy9 he];unfold brF;simp only[yaj];have q1:=Zrk (z:=(e.1.length:Int)) (by omega) (by omega) (cat Ztt e.1++(WX e.2.1.toNat++(WX e.2.2.1.toNat++(Zpw e.2.2.2.toNat++cat brF (l.drop (k+1))))));rw[ybq] at q1;unfold brF at q1 hl2;rw[q1];dsimp only;rw[if_neg (ynd (by omega)),ZDy e1 (by simp only[yp];omega),ya];dsimp only;rw[Zi4 (by simp only[yp];omega),ya,Zrk e2 (by omega)];dsimp only;rw[Zi4 (by simp only[yp];omega),ya,Zrk e4 (by omega)];dsimp only;rw[Zrj (by simp only[yp];omega),ya,ZB9,if_pos (Yj (by rw[yai];omega) (by rw[yai];omega)),Zr (by omega),ZeW he]
 ·unfold W5;dsimp only;rw[if_neg (by rw[Z2];decide),List.drop_length,ybl];rfl
def amt(l:List Out)(p:Nat):Int:=((l[p]?).map (·.1)).getD 0
theorem ZCd{l:List Out}{p:Nat}{e:Out}(h:l[p]? =some e):amt l p=e.1:=by
 unfold amt;rw[h];rfl
theorem ZCe{l:List Out}{j p:Nat}{x:Out}(h:j < l.length):amt (l.set j x) p=if p=j then x.1 else amt l p:=by
 unfold amt;by_cases hp:p=j
 ·subst hp;rw[ycr h,if_pos rfl];rfl
 ·rw[List.getElem?_set_ne (Ne.symm hp),if_neg hp]
def ZCf(l:List Out):Prop:=∀o,o∈l→0≤o.1∧o.1≤1152921504606846976
theorem ZHJ{a b:Out}(ha:0≤a.1∧a.1≤1152921504606846976)(hb:0≤b.1∧b.1≤1152921504606846976):∃z,Zaq fuel a b=some z∧(z < 0→a.1≤b.1)∧(¬z < 0→b.1≤a.1):=by
 unfold Zaq;rw[ZD (by omega) (by omega)];exact⟨_,rfl,λ_=>by omega,λ_=>by omega⟩
def But(l:List Out)(i j:Nat):Prop:=∀p q,p < q→q≤i→q≠j→amt l p≤amt l q
theorem ZCg(n:Int)(i:Nat):∀(j f:Nat)(u:List Unit)(l:List Out),j < f→j≤i→i < l.length→l.length≤20→ZCf l→But l i j→
 ∃r,Zc (X0 fuel) f ((0:Int),n,(i:Int),(j:Int),u,l)=some ((0:Int),n,(i:Int),u,r)∧r.Perm l∧∀p q,p < q→q≤i→amt r p≤amt r q
 |0,f,u,l,hf,hj,hi,hl,hA,hb=>by
  obtain⟨f,rfl⟩:=Nat.exists_eq_succ_of_ne_zero (n:=f) (by omega)
  have e:X0 fuel ((0:Int),n,(i:Int),((0:Nat):Int),u,l)=some (.inr ((0:Int),n,(i:Int),u,l)):=by
   unfold X0;dsimp only;rw[if_neg (ynd (by omega))]
  unfold Zc;rw[e,ya]
  exact⟨_,rfl,List.Perm.refl _,λp q h1 h2=>hb p q h1 h2 (by omega)⟩
 |j+1,f,u,l,hf,hj,hi,hl,hA,hb=>by
  obtain⟨f,rfl⟩:=Nat.exists_eq_succ_of_ne_zero (n:=f) (by omega);obtain⟨x,hx,xm⟩:=Zl (l:=l) (k:=j+1) (by omega);obtain⟨y,hy,ym⟩:=Zl (l:=l) (k:=j) (by omega);obtain⟨z,hz,z1,z2⟩:=ZHJ (hA x xm) (hA y ym);have ax:=ZCd hx;have ay:=ZCd hy;have e1:wi (((j+1:Nat):Int) - 1)=(j:Int):=by rw[ZD (by omega) (by omega)];omega
  have hset:(l.set (j+1) y).length=l.length:=List.length_set;obtain⟨w,hw,_⟩:=Zl (l:=l.set (j+1) y) (k:=j) (by omega)
  have hstep:X0 fuel ((0:Int),n,(i:Int),((j+1:Nat):Int),u,l)=if z < 0 then some (.inl ((0:Int),n,(i:Int),(j:Int),u,(l.set (j+1) y).set j x)) else some (.inr ((0:Int),n,(i:Int),u,l)):=by
   unfold X0;dsimp only;rw[if_pos (decide_eq_true (by omega)),e1,if_pos (Xf (by omega) (by omega)),ybq,ybq,hx,ya,if_pos (Xf (by omega) (by omega)),hy,ya,hz,ya];by_cases h0:z < 0
   ·rw[if_pos (decide_eq_true h0),if_pos (Xf (by omega) (by omega)),ya,if_pos (Xf (by omega) (by omega)),ya,if_pos (Xf (by omega) (by omega)),ya,if_pos (Xf (by omega) (by omega)),hw,ya,if_pos h0]
   ·rw[if_neg (by rw[decide_eq_true_iff];exact h0),if_neg h0]
  unfold Zc;rw[hstep];by_cases h0:z < 0
  ·rw[if_pos h0,ya]
   have hp:((l.set (j+1) y).set j x).Perm l:=by
    have h:=@List.set_set_perm _ l (j+1) j (by omega) (by omega);rw[(yr.1 hx).2,(yr.1 hy).2] at h;exact h
   have ha:∀p,amt ((l.set (j+1) y).set j x) p=if p=j then x.1 else if p=j+1 then y.1 else amt l p:=by
    intro p;rw[ZCe (by omega),ZCe (by omega)]
   obtain⟨r,r1,r2,r3⟩:=ZCg n i j f u ((l.set (j+1) y).set j x) (by omega) (by omega) (by simp;omega) (by simp;omega) (λo ho=>hA o (hp.mem_iff.1 ho)) (by
    intro p q h1 h2 h3;rw[ha,ha,if_neg h3];have hz1:=z1 h0;by_cases k1:q=j+1
    ·subst k1;rw[if_pos rfl];by_cases k2:p=j
     ·rw[if_pos k2];exact hz1
     ·rw[if_neg k2,if_neg (by omega), ←ay];exact hb p j (by omega) (by omega) (by omega)
    ·rw[if_neg k1];by_cases k2:p=j
     ·rw[if_pos k2, ←ax];exact hb (j+1) q (by omega) h2 k1
     ·rw[if_neg k2];by_cases k3:p=j+1
      ·rw[if_pos k3, ←ay];exact hb j q (by omega) h2 k1
      ·rw[if_neg k3];exact hb p q h1 h2 k1)
   exact⟨r,r1,r2.trans hp,r3⟩
  ·rw[if_neg h0,ya];refine⟨_,rfl,List.Perm.refl _, ?_⟩;intro p q h1 h2;by_cases k1:q=j+1
   ·subst k1;have h3:=z2 h0;by_cases k2:p=j
    ·rw[k2,ax,ay];exact h3
    ·have:=hb p j (by omega) (by omega) (by omega);omega
   ·exact hb p q h1 h2 k1
theorem ZGh(u:List Unit)(l:List Out)(hl:l.length≤20)(hA:ZCf l):∃r,VD fuel (0:Int) (l.length:Int) u l=some (u,r)∧r.Perm l∧∀p q,p < q→q < l.length→amt r p≤amt r q:=by
 unfold VD;rw[show wi ((0:Int)+1)=1 from rfl]
 obtain⟨x,g1,r,rfl,g2,g3⟩:=Z8 (step:=X1 fuel) (l.length - 1) (λk s=>∃r,s=((0:Int),(l.length:Int),((k+1:Nat):Int),u,r)∧r.Perm l∧∀p q,p < q→q < k+1→amt r p≤amt r q) (λx=>∃r,x=(u,r)∧r.Perm l∧∀p q,p < q→q < l.length→amt r p≤amt r q)
  (i:=((0:Int),(l.length:Int),(1:Int),u,l)) ⟨_,rfl,List.Perm.refl _,λp q h1 h2=>by omega⟩ (by omega) (by
  rintro k _ hk ⟨r,rfl,hp,hs⟩;left;have hrl:=hp.length_eq;obtain⟨t,t1,t2,t3⟩:=ZCg (l.length:Int) (k+1) (k+1) fuel u r (by rw[ZcL];omega) (by omega) (by omega) (by omega) (λo ho=>hA o (hp.mem_iff.1 ho)) (λp q h1 h2 h3=>hs p q h1 (by omega));unfold X1;dsimp only;rw[if_pos (decide_eq_true (by omega)),t1,ya];dsimp only;rw[Zr (by omega)];exact⟨_,rfl,_,rfl,t2.trans hp,λp q h1 h2=>t3 p q h1 (by omega)⟩) (by
  rintro _ ⟨r,rfl,hp,hs⟩;unfold X1;dsimp only;rw[if_neg (ynd (by omega))];exact⟨_,rfl,_,rfl,hp,λp q h1 h2=>hs p q h1 (by omega)⟩)
 rw[g1,ya];exact⟨_,rfl,g2,g3⟩
theorem ZDA(u:List Unit)(l:List Out){a b:Int}(h:b≤a)(h0:0≤a)(h1:a≤100):VD fuel a b u l=some (u,l):=by
 unfold VD;rw[ZD (z:=a+1) (by omega) (by omega)]
 have e:Zc (X1 fuel) fuel (a,b,a+1,u,l)=some (u,l):=by
  refine Z4 0 (λk:Nat=>(a,b,a+1,u,l)) (λk hk=>by omega) ?_ (by omega);unfold X1;dsimp only;rw[if_neg (ynd (by omega))]
 rw[e,ya]
theorem ZJL(u:List Unit)(l:List Out)(hl:l.length≤20)(hA:ZCf l):∃r,Zn9 fuel u l=some (u,r)∧r.Perm l∧∀p q,p < q→q < l.length→amt r p≤amt r q:=by
 obtain⟨r,r1,r2,r3⟩:=ZGh u l hl hA;have hrl:=r2.length_eq
 have fin:∀(a:Int)(b:Int),Zc (Zar fuel) fuel ((l.length:Int),(20:Int),u,r)=some (u,r):=by
  intro _ _;refine Z4 0 (λk:Nat=>((l.length:Int),(20:Int),u,r)) (λk hk=>by omega) ?_ (by omega);unfold Zar;dsimp only;rw[if_neg (ynd (by omega))]
 unfold Zn9 Ziz;by_cases h20:l.length=20
 ·have e:Zc (X2 fuel) fuel ((l.length:Int),(20:Int),(0:Int),(20:Int),u,l)=some ((l.length:Int),(20:Int),(20:Int),u,r):=by
   refine Z4 1 (λk:Nat=>if k=0 then((l.length:Int),(20:Int),(0:Int),(20:Int),u,l) else((l.length:Int),(20:Int),(20:Int),(40:Int),u,r)) ?_ ?_ (by omega)
   ·intro k hk;have:k=0:=by omega
    subst this;rw[if_pos rfl,if_neg (by omega)];unfold X2;dsimp only;rw[h20] at r1;rw[if_pos (decide_eq_true (by omega))];rw[show((20:Nat):Int)=20 from rfl] at r1
    rw[r1,ya];dsimp only;rw[if_pos (by simp[hrl])];rfl
   ·rw[if_neg (by omega)];unfold X2;dsimp only;rw[if_neg (ynd (by omega))]
  rw[e,ya];dsimp only;rw[ZDA u r (by omega) (by omega) (by omega),ya];dsimp only;rw[fin 0 0,ya,ya];exact⟨r,rfl,r2,r3⟩
 ·have e:Zc (X2 fuel) fuel ((l.length:Int),(20:Int),(0:Int),(20:Int),u,l)=some ((l.length:Int),(20:Int),(0:Int),u,l):=by
   refine Z4 0 (λk:Nat=>((l.length:Int),(20:Int),(0:Int),(20:Int),u,l)) (λk hk=>by omega) ?_ (by omega);unfold X2;dsimp only;rw[if_neg (ynd (by omega))]
  rw[e,ya];dsimp only;rw[r1,ya];dsimp only;rw[fin 0 0,ya,ya];exact⟨r,rfl,r2,r3⟩
theorem Zxb{l:Lock}(h:LockOk l)(hp:LockPt l):W6 fuel l=some l:=by
 unfold W6;rw[ZcE h hp,ya,ZDz h hp,ya]
def Zgk(op h0 h1 fee i:Int):Int:=if i=op then hav i h0 h1 - fee else hav i h0 h1
def lkOf(l0 l1:Lock)(i:Int):Lock:=if i=0 then l0 else l1
def ZoC(op h0 h1 fee:Int)(l0 l1:Lock)(i:Int):List Out:=if Zgk op h0 h1 fee i ≥ 100 then[(Zgk op h0 h1 fee i,lkOf l0 l1 i)] else[]
theorem Zh1(d z:Int):XL fuel (Tm d) z=some (decide (z ≥ 100)):=rfl
theorem Zvp{A:Int}{k0 k1:Kit}{op:Int}{s:State}{h0 h1 fee:Int}{l0 l1:Lock}(i:Int)(hi:i=0∨i=1)(hb0:0≤h0∧h0≤5000000000)(hb1:0≤h1∧h1≤5000000000)(hf:0≤fee∧fee≤5000000000)
 (k0':LockOk l0∧LockPt l0) (k1':LockOk l1∧LockPt l1) (t:Tx) (ins:List In) (note:Int) (u:List Unit) (acc:List Out) (ha:acc.length≤5):
 ∃u',Vr fuel (fee,[h0,h1],i,Z9 A k0 k1 op,s,[l0,l1],t,ins,note,u,acc)=some (.inl (fee,[h0,h1],i+1,Z9 A k0 k1 op,s,[l0,l1],t,ins,note,u',acc++ZoC op h0 h1 fee l0 l1 i)):=by
 have hT:(Z9 A k0 k1 op).2.2.2.1=[Tm 5,Tm 6]:=rfl;have hO:(Z9 A k0 k1 op).2.2.2.2=op:=rfl;have hidx:idx ([h0,h1]:List Int) i=some (hav i h0 h1):=by rcases hi with rfl|rfl <;> rfl
 have hlk:([l0,l1]:List Lock)[i.toNat]? =some (lkOf l0 l1 i):=by rcases hi with rfl|rfl <;> rfl
 have hk:W6 fuel (lkOf l0 l1 i)=some (lkOf l0 l1 i):=by
  rcases hi with rfl|rfl
  ·exact Zxb k0'.1 k0'.2
  ·exact Zxb k1'.1 k1'.2
 have hh:0≤hav i h0 h1∧hav i h0 h1≤5000000000:=by
  unfold hav;split <;> omega
 have hw:wi (i+1)=i+1:=by rcases hi with rfl|rfl <;> rfl
 unfold Vr;dsimp only;rw[if_pos (by rcases hi with rfl|rfl <;> rfl),hidx,ya,hO,hT];unfold ZoC Zgk;generalize hx:hav i h0 h1=x at hh;by_cases he:i=op
 ·rw[if_pos (by rw[he];exact beq_self_eq_true _),ZD (z:=x - fee) (by omega) (by omega)];simp only[yas,yap,ya,Zh1,if_pos he];by_cases hs:x - fee ≥ 100
  ·simp only[decide_eq_true hs,if_true,if_pos (XF hi),hlk,ya,hk,if_pos hs,hw];rw[if_pos (Yj (by omega) (by omega))];exact⟨_,rfl⟩
  ·simp only[decide_eq_false hs,Bool.false_eq_true,if_false,if_neg hs,ybh,hw];exact⟨_,rfl⟩
 ·rw[if_neg (by rw[beq_iff_eq];exact he)];simp only[yas,yap,ya,Zh1,if_neg he];by_cases hs:x ≥ 100
  ·simp only[decide_eq_true hs,if_true,if_pos (XF hi),hlk,ya,hk,if_pos hs,hw];rw[if_pos (Yj (by omega) (by omega))];exact⟨_,rfl⟩
  ·simp only[decide_eq_false hs,Bool.false_eq_true,if_false,if_neg hs,ybh,hw];exact⟨_,rfl⟩
def outs0(op h0 h1 fee:Int)(l0 l1:Lock):List Out:=ZoC op h0 h1 fee l0 l1 0++ZoC op h0 h1 fee l0 l1 1
theorem Ztx(op h0 h1 fee:Int)(l0 l1:Lock)(i:Int):(ZoC op h0 h1 fee l0 l1 i).length≤1:=by
 unfold ZoC;split <;> simp
theorem Zpy(op h0 h1 fee:Int)(l0 l1:Lock):(outs0 op h0 h1 fee l0 l1).length≤2:=by
 unfold outs0;have:=Ztx op h0 h1 fee l0 l1 0;have:=Ztx op h0 h1 fee l0 l1 1;rw[yp];omega
theorem ZGi{A:Int}{k0 k1:Kit}{op:Int}(h:ChOk A k0 k1 op){s:State}{h0 h1:Int}(hs:StIn A s h0 h1)(hc:hav op h0 h1 ≥ cost s.2.2.2 s.2.2.1.length):Zbp fuel (Z9 A k0 k1 op) s=some (decide (s.2.2.1=[])):=by
 unfold Zbp
 cases hl:s.2.2.1 with
 |nil=>
  rw[if_pos (by rfl),ZJJ h hs,ya,decide_eq_true hc]
  rfl
 |cons a b=>
  rw[if_neg (by rw[beq_iff_eq,yag];omega)];rfl
theorem ZCh{A:Int}{k0 k1:Kit}{op:Int}(ho:op=0∨op=1){s:State}{h0 h1:Int}(hv:s.2.1=[h0,h1])(fee:Int):YG fuel (Z9 A k0 k1 op) s op fee=some (decide (52≤fee∧fee≤hav op h0 h1)):=by
 have hO:(Z9 A k0 k1 op).2.2.2.2=op:=rfl;unfold YG;rw[hO,if_neg (by simp),hv,ZeZ ho,if_pos (XF ho)];by_cases h:fee ≥ 52
 ·rw[if_pos (decide_eq_true h),ya];simp[h]
 ·rw[if_neg (by rw[decide_eq_true_iff];exact h),decide_eq_false (by omega)]
theorem ZHK{A:Int}{k0 k1:Kit}{op i:Int}(hi:i≠op)(s:State)(fee:Int):YG fuel (Z9 A k0 k1 op) s i fee=some (fee==0):=by
 have hO:(Z9 A k0 k1 op).2.2.2.2=op:=rfl;unfold YG;rw[hO,if_pos (by simpa using hi)]
structure Mk(op h0 h1 fee:Int)(l0 l1:Lock)(r:List Out):Prop where
 pm:r.Perm (outs0 op h0 h1 fee l0 l1)
 srt:∀p q,p < q→q < r.length→amt r p≤amt r q
theorem ZCi{A:Int}{k0 k1:Kit}{op:Int}(h:ChOk A k0 k1 op){s:State}{h0 h1 fee:Int}{l0 l1:Lock}(hs:StIn A s h0 h1)(hc:hav op h0 h1 ≥ cost s.2.2.2 s.2.2.1.length)(hn:s.2.2.1=[])
 (g0:LockOk l0∧LockPt l0) (g1:LockOk l1∧LockPt l1) (f0:52≤fee) (f1:fee≤hav op h0 h1):
 ∃r,closing_MakeM fuel (Z9 A k0 k1 op) s [l0,l1] fee=some (([((z32,0),(0,[],0))],r,2097154),0)∧Mk op h0 h1 fee l0 l1 r:=by
 have hA:=h.hi;have ht:=hs.tot;rw[hn] at ht;have h0n:amtC ([]:List Cond)=0:=rfl;have p0:=hs.p0;have p1:=hs.p1
 have hh:hav op h0 h1≤4300000000:=by
  unfold hav;split <;> omega
 have hO:(Z9 A k0 k1 op).2.2.2.2=op:=rfl;unfold closing_MakeM;rw[ZGi h hs hc,ya,if_neg (by rw[hn];decide),yas,ya,ZcD g0.1 g0.2,ya,if_neg (by decide)];rw[yap,yas,ya,ZcD g1.1 g1.2,ya,if_neg (by decide),hO,ZCh h.o hs.hv,ya,if_neg (by simp[f0,f1]),hs.hv];obtain⟨u1,e1⟩:=Zvp (A:=A) (k0:=k0) (k1:=k1) (op:=op) (s:=s) (h0:=h0) (h1:=h1) (fee:=fee) (l0:=l0) (l1:=l1) 0 (.inl rfl) (by omega) (by omega) (by omega) g0 g1 (([]:List In),([]:List Out),(0:Int)) ([((Z9 A k0 k1 op).1,(0,[],0))]:List In) 2097154 [] [] (by simp);obtain⟨u2,e2⟩:=Zvp (A:=A) (k0:=k0) (k1:=k1) (op:=op) (s:=s) (h0:=h0) (h1:=h1) (fee:=fee) (l0:=l0) (l1:=l1) 1 (.inr rfl) (by omega) (by omega) (by omega) g0 g1 (([]:List In),([]:List Out),(0:Int)) ([((Z9 A k0 k1 op).1,(0,[],0))]:List In) 2097154 u1 ([]++ZoC op h0 h1 fee l0 l1 0) (by have:=Ztx op h0 h1 fee l0 l1 0;simp;omega)
 rw[show(fee,[h0,h1],(0:Int),Z9 A k0 k1 op,s,[l0,l1],(([]:List In),([]:List Out),(0:Int)),([((Z9 A k0 k1 op).1,(0,[],0))]:List In),(2097154:Int),([]:List Unit),([]:List Out))=(λk:Nat=>(fee,[h0,h1],(k:Int),Z9 A k0 k1 op,s,[l0,l1],(([]:List In),([]:List Out),(0:Int)),([((Z9 A k0 k1 op).1,(0,[],0))]:List In),(2097154:Int),(if k=0 then[] else if k=1 then u1 else u2),(if k=0 then[] else if k=1 then ZoC op h0 h1 fee l0 l1 0 else outs0 op h0 h1 fee l0 l1))) 0 from rfl,
  Z4 (x:=(Z9 A k0 k1 op,s,[l0,l1],(([]:List In),([]:List Out),(0:Int)),([((Z9 A k0 k1 op).1,(0,[],0))]:List In),(2097154:Int),u2,outs0 op h0 h1 fee l0 l1)) 2 (λk:Nat=>(fee,[h0,h1],(k:Int),Z9 A k0 k1 op,s,[l0,l1],(([]:List In),([]:List Out),(0:Int)),([((Z9 A k0 k1 op).1,(0,[],0))]:List In),(2097154:Int),(if k=0 then[] else if k=1 then u1 else u2),(if k=0 then[] else if k=1 then ZoC op h0 h1 fee l0 l1 0 else outs0 op h0 h1 fee l0 l1))) ?_ ?_ (by omega),ya]
 ·dsimp only
  have hAm:ZCf (outs0 op h0 h1 fee l0 l1):=by
   intro o ho;unfold outs0 ZoC at ho
   have hp:∀i,Zgk op h0 h1 fee i≤5000000000:=by
    intro i;unfold Zgk hav;split <;> split <;> omega
   have hp0:=hp 0;have hp1:=hp 1;rw[ych] at ho;rcases ho with ho|ho
   all_goals
    split at ho
    ·rw[yaq] at ho;subst ho;dsimp only;omega
    ·simp at ho
  have hlen:=Zpy op h0 h1 fee l0 l1;obtain⟨r,r1,r2,r3⟩:=ZJL u2 (outs0 op h0 h1 fee l0 l1) (by omega) hAm;rw[r1,ya];dsimp only;have hrl:=r2.length_eq;rw[if_pos (by simp[hrl])];exact⟨r,rfl,r2,λp q hp hq=>r3 p q hp (by omega)⟩
 ·intro k hk;rcases (show k=0∨k=1 by omega) with rfl|rfl
  ·exact e1
  ·exact e2
 ·unfold Vr;rfl
end Go.Proofs.YtmkgbalfkhaflaaGreat
end
section
set_option maxRecDepth 100000
namespace Go.Proofs.YtmkgbalfkhaflaaGreat
open Go Go.Ev
noncomputable section
def his:FuncId→HI
 |7=>{ eqs:=true,own:=[],still:=[0,42,66,70,79,82,94,97,102,105,110,113,121,124,129,132,141,142,147,148,153,158,173,174,177,182,183,186,191,192,195,232,233,253],row:=[],deep:=[],frz:=[],ghost:=[],gst:=[]}
 |15=>{ eqs:=true,own:=[],still:=[7,8,20,45,48,49,50,55,56,57],row:=[],deep:=[],frz:=[],ghost:=[],gst:=[]}
 |50=>{ eqs:=true,own:=[],still:=[6],row:=[],deep:=[],frz:=[],ghost:=[],gst:=[]}
 |10=>{ eqs:=true,own:=[],still:=[12,13,23,28,37,38,42,43,44,45,58],row:=[],deep:=[],frz:=[],ghost:=[(55,[([6],Zi,84),([7],Zi,84)])],gst:=[]}
 |14=>{ eqs:=true,own:=[],still:=[2,30,33,35],row:=[],deep:=[],frz:=[],ghost:=[],gst:=[]}
 |16=>{ eqs:=true,own:=[72,134],still:=[4,5,20,30,38,40,58,62,63,65,72,73,95,97,101,102,103,105,107,122,123,124,125,127,134,135],row:=[],deep:=[],frz:=[],ghost:=[],gst:=[]}
 |13=>{ eqs:=true,own:=[3,15,17],still:=[2,15,16],row:=[],deep:=[],frz:=[],ghost:=[],gst:=[]}
 |48=>{ eqs:=true,own:=[8],still:=[8,9],row:=[],deep:=[],frz:=[],ghost:=[],gst:=[]}
 |47=>{ eqs:=true,own:=[0,16,28],still:=[4,8,10,20],row:=[],deep:=[],frz:=[],ghost:=[],gst:=[]}
 |43=>{ eqs:=true,own:=[],still:=[5,7,8],row:=[],deep:=[],frz:=[],ghost:=[],gst:=[]}
 |12=>{ eqs:=true,own:=[],still:=[3,12,19,37,38,41,43,45],row:=[],deep:=[],frz:=[],ghost:=[],gst:=[]}
 |44=>{ eqs:=true,own:=[],still:=[9,13,17,21],row:=[],deep:=[],frz:=[],ghost:=[],gst:=[]}
 |100=>{ eqs:=true,own:=[],still:=[3],row:=[],deep:=[],frz:=[],ghost:=[],gst:=[]}
 |99=>{ eqs:=true,own:=[],still:=[4,15],row:=[],deep:=[],frz:=[],ghost:=[],gst:=[]}
 |9=>{ eqs:=true,own:=[],still:=[2],row:=[],deep:=[],frz:=[],ghost:=[],gst:=[]}
 |103=>{ eqs:=true,own:=[5,7],still:=[2],row:=[],deep:=[],frz:=[],ghost:=[],gst:=[]}
 |_=>{}
def ghs:FuncId→List (Nat×GOp)
 |15=>[(8,.melt 13),(14,.nn 17)]
 |10=>[(10,.any 14 4 (.arr 2 Zo))]
 |_=>[]
def ZJM:List (Fs yc):=[QJ 18446744073709551616,ZdR 18446744073709551616,ZfA 18446744073709551616,ZdU 18446744073709551616,ZdW 18446744073709551616,ZkM 18446744073709551616,Zg1 18446744073709551616,Zg7 18446744073709551616,Zix 18446744073709551616,ZfV 18446744073709551616,ZfO 18446744073709551616,ZfT 18446744073709551616,Zf7 18446744073709551616,Zs7 18446744073709551616,Zm4 18446744073709551616,ZiX 18446744073709551616,WD 18446744073709551616,WC 18446744073709551616,ZfU 18446744073709551616,ZbF 18446744073709551616,ZcB 18446744073709551616,Zf8 18446744073709551616,ZdN 18446744073709551616]
def specs:=ZJM.map Fs.fo
def ZKO:List (yb×String×FuncId):=[]
theorem ZGj:AllOk specs:=ZyA ⟨okN QJ ZdG,okN ZdR Zao,okN ZfA ZfB,okN ZdU ZdV,okN ZdW Zas,okN ZkM ZkN,okN Zg1 VY,okN Zg7 Q8,okN Zix Ziy,okN ZfV ZkL,okN ZfO ZkG,okN ZfT Ztc,okN Zf7 ZbO,okN Zs7 ZkC,okN Zm4 ZAD,okN ZiX Zw2,okN WD QV,okN WC QT,okN ZfU ZkK,okN ZbF ZgS,okN ZcB ZcC,okN Zf8 ZkX,okN ZdN Zak,ytt⟩
theorem ZHL:MtOk yc ZKO:=trivial
theorem ran:ZI6 yc his specs ZKO 100 7 ghs=some true:=by decide+kernel
def ZJN(F:Nat):Fs yc:=⟨7,[],[],[],[⟨.ret,[(0,.v .bool)],[],[.bool]⟩],λ_=>some true⟩
def ZIb:Fs yc:=ZJN fuel
theorem ZJO:ZIb.Ok:=ZI7 ZGj ZHL ran
end
end Go.Proofs.YtmkgbalfkhaflaaGreat
end
section
set_option maxRecDepth 4000
namespace Go.Proofs.YtmkgbalfkhaflaaGreat
open Go Go.Ev
noncomputable section
def Xs(F:Nat)(s0_0:ZH)(s0_1:Kit)(s0_2:Int)(s0_3:Int)(s0_4:(List Int))(s0_5:Int)(s0_6:(List Lock))(s0_7:Int)(s0_8:Sig)(s1:(List Cond))(s2:(List Msg))(s3:(List Msg)):Option ((Tx×ZH×Kit×Int×Int×(List Int)×Int×(List Lock)×Int×Sig×(List Cond)×(List Msg)×(List Msg))):=
 (closing_MakeM F s0_0 (s0_3,s0_4,s1,s0_5) s0_6 s0_7).bind λo1053=>
 some (o1053.1,s0_0,s0_1,s0_2,s0_3,s0_4,s0_5,s0_6,s0_7,s0_8,s1,s2,s3)
def Zk6:Fs yc:=⟨44,[.ref 0 []],[.var (.agg [.v Zh,.v Yh,.v yI,.agg [.v yI,.v (.arr 2 yI),.own 1 Zq,.v yI],.v (.arr 2 Zo),.v yI,.own 2 Zi,.own 3 Zi,.v Z1]) true,.log Zq 82,.log Zi 84,.log Zi 84],[Zh,Yh,yI,yI,(.arr 2 yI),yI,(.arr 2 Zo),yI,Z1,(.sl Zq),(.sl Zi),(.sl Zi)],[⟨.ret,[(0,.v yTx)],[.var (.agg [.v Zh,.v Yh,.v yI,.agg [.v yI,.v (.arr 2 yI),.own 1 Zq,.v yI],.v (.arr 2 Zo),.v yI,.own 2 Zi,.own 3 Zi,.v Z1]) true,.log Zq 82,.log Zi 84,.log Zi 84],[yTx,Zh,Yh,yI,yI,(.arr 2 yI),yI,(.arr 2 Zo),yI,Z1,(.sl Zq),(.sl Zi),(.sl Zi)]⟩],λx=>Xs fuel x.1 x.2.1 x.2.2.1 x.2.2.2.1 x.2.2.2.2.1 x.2.2.2.2.2.1 x.2.2.2.2.2.2.1 x.2.2.2.2.2.2.2.1 x.2.2.2.2.2.2.2.2.1 x.2.2.2.2.2.2.2.2.2.1 x.2.2.2.2.2.2.2.2.2.2.1 x.2.2.2.2.2.2.2.2.2.2.2⟩
theorem ZjM:Zk6.Ok:=fnO { still:=[9,13,17,21]} [] [Zbw] ⟨Zas,ytt⟩
def ZV(F:Nat)(x0:ZH)(x1:Kit)(x2:Int)(x3:Int)(x4:(List Int))(x5:Int)(x6:(List Lock))(x7:Int)(x8:Sig)(x9:(List Cond))(x10:(List Msg))(x11:(List Msg)):Option (Tx):=(Xs F x0 x1 x2 x3 x4 x5 x6 x7 x8 x9 x10 x11).map λo=>o.1
def ZdJ:Rs yc:=⟨44,[.ref 0 []],[.var (.agg [.v Zh,.v Yh,.v yI,.agg [.v yI,.v (.arr 2 yI),.own 1 Zq,.v yI],.v (.arr 2 Zo),.v yI,.own 2 Zi,.own 3 Zi,.v Z1]) true,.log Zq 82,.log Zi 84,.log Zi 84],[Zh,Yh,yI,yI,(.arr 2 yI),yI,(.arr 2 Zo),yI,Z1,(.sl Zq),(.sl Zi),(.sl Zi)],.v yTx,[yTx],λx=>ZV fuel x.1 x.2.1 x.2.2.1 x.2.2.2.1 x.2.2.2.2.1 x.2.2.2.2.2.1 x.2.2.2.2.2.2.1 x.2.2.2.2.2.2.2.1 x.2.2.2.2.2.2.2.2.1 x.2.2.2.2.2.2.2.2.2.1 x.2.2.2.2.2.2.2.2.2.2.1 x.2.2.2.2.2.2.2.2.2.2.2⟩
theorem Zh2:ZdJ.Ok:=by
 rintro⟨x0,x1,x2,x3,x4,x5,x6,x7,x8,x9,x10,x11⟩ o h;obtain⟨y,h1,h2⟩:=Zb (show(Xs fuel x0 x1 x2 x3 x4 x5 x6 x7 x8 x9 x10 x11).map (λo=>o.1)=some o from h)
 have hk:y=(y.1,x0,x1,x2,x3,x4,x5,x6,x7,x8,x9,x10,x11):=by
  unfold Xs at h1;obtain⟨z,g1,g2⟩:=yf.1 h1;cases g2;rfl
 obtain⟨args,R,H,q1,q2,q3⟩:=ZjM (x0,x1,x2,x3,x4,x5,x6,x7,x8,x9,x10,x11) y h1;refine⟨args,R,H,q1,q2,λq hq=> ?_⟩;subst h2;obtain⟨r,e1,e2⟩:=q3 _ _ ([q.1],H) ⟨rfl,rfl⟩ (by rw[hk];cases q1;cases q2;cases hq;rfl);cases e1;exact e2
def QS(F:Nat)(a1:Msg)(s0:(List Msg)):Option ((List Msg)):=
 (VV F s0 a1.1).bind λo1069=>
 if o1069.2=true then
  some s0
 else
 (X8 F a1.2.2.2.2.2.2.2.2.2.2.2.2.2).bind λo1070=>
 if(apB s0.length 1 328)=true then
  let y1071:(List Msg):=s0++([(a1.1,0,0,(0,0,0,0,0),0,[],a1.2.2.2.2.2.2.1,a1.2.2.2.2.2.2.2.1,yzz,0,([],[],0),(0,0,0,0,0),(0,0,0,0,0,0),o1070)]:List Msg)
  some y1071
 else
 none
def ZgU:Fs yc:=⟨47,[.own 0 Zi,.v Zi],[.log Zi 84],[Zi,(.sl Zi)],[⟨.ret,[(0,.own 0 Zi)],[.log Zi 84],[(.sl Zi)]⟩],λx=>QS fuel x.1 x.2⟩
def ZLA:HI:={ own:=[0,4,15,16,28],still:=[8,10,20]}
theorem Zm7:ZgU.Ok:=fnO ZLA [] [Zbj,Zd3] ⟨Zak,ZcC,ytt⟩
abbrev ZKP:Type:=(Int×Int×ZH×Kit×Int×Int×(List Int)×Int×(List Lock)×Int×Sig×(List Cond)×(List Msg)×(List Msg)×(List Msg))
abbrev ZLB:Type:=(ZH×Kit×Int×Int×(List Int)×Int×(List Lock)×Int×Sig×(List Cond)×(List Msg)×(List Msg)×(List Msg))
def Wv(F:Nat)(s:ZKP):Option (ZKP⊕ZLB):=
 if(decide (s.2.1 < s.1))=true then
  (idx s.2.2.2.2.2.2.2.2.2.2.2.2.1 s.2.1).bind λe1068=>
  (QS F e1068 s.2.2.2.2.2.2.2.2.2.2.2.2.2.2).bind λo1072=>
  some (.inl (s.1,wi (s.2.1+1),s.2.2.1,s.2.2.2.1,s.2.2.2.2.1,s.2.2.2.2.2.1,s.2.2.2.2.2.2.1,s.2.2.2.2.2.2.2.1,s.2.2.2.2.2.2.2.2.1,s.2.2.2.2.2.2.2.2.2.1,s.2.2.2.2.2.2.2.2.2.2.1,s.2.2.2.2.2.2.2.2.2.2.2.1,s.2.2.2.2.2.2.2.2.2.2.2.2.1,s.2.2.2.2.2.2.2.2.2.2.2.2.2.1,o1072))
 else
 some (.inr (s.2.2.1,s.2.2.2.1,s.2.2.2.2.1,s.2.2.2.2.2.1,s.2.2.2.2.2.2.1,s.2.2.2.2.2.2.2.1,s.2.2.2.2.2.2.2.2.1,s.2.2.2.2.2.2.2.2.2.1,s.2.2.2.2.2.2.2.2.2.2.1,s.2.2.2.2.2.2.2.2.2.2.2.1,s.2.2.2.2.2.2.2.2.2.2.2.2.1,s.2.2.2.2.2.2.2.2.2.2.2.2.2.1,s.2.2.2.2.2.2.2.2.2.2.2.2.2.2))
def ZKQ:List ESh:=[.var (.agg [.v Zh,.v Yh,.v yI,.agg [.v yI,.v (.arr 2 yI),.own 1 Zq,.v yI],.v (.arr 2 Zo),.v yI,.own 2 Zi,.own 3 Zi,.v Z1]) true,.log Zq 82,.log Zi 84,.log Zi 84,.log Zi 84]
abbrev ZLC:List Ty:=[Zh,Yh,yI,yI,(.arr 2 yI),yI,(.arr 2 Zo),yI,Z1,(.sl Zq),(.sl Zi),(.sl Zi),(.sl Zi)]
abbrev ZLD:List Ty:=[yI,yI,Zh,Yh,yI,yI,(.arr 2 yI),yI,(.arr 2 Zo),yI,Z1,(.sl Zq),(.sl Zi),(.sl Zi),(.sl Zi)]
def ZdK:Lp:=⟨[(3,.own 4 Zi),(9,.own 2 Zi),(10,.v yI),(11,.v yI)],ZKQ,ZLD,[⟨.exit 0,[(3,.own 4 Zi)],ZKQ,ZLC⟩],Zc (Wv fuel) fuel⟩
def ZKR:HI:={ own:=[3,15,17],still:=[2,15,16]}
theorem Zh3:ZdK.okA yc 13 0:=ZC ZKR [] [ZgU] ⟨Zm7,ytt⟩
def Zv(F:Nat)(s0_0:ZH)(s0_1:Kit)(s0_2:Int)(s0_3:Int)(s0_4:(List Int))(s0_5:Int)(s0_6:(List Lock))(s0_7:Int)(s0_8:Sig)(s1:(List Cond))(s2:(List Msg))(s3:(List Msg)):Option (((List Msg)×ZH×Kit×Int×Int×(List Int)×Int×(List Lock)×Int×Sig×(List Cond)×(List Msg)×(List Msg))):=
 (Zc (Wv F) F ((s2.length:Int),0,s0_0,s0_1,s0_2,s0_3,s0_4,s0_5,s0_6,s0_7,s0_8,s1,s2,s3,[])).bind λo1073=>
 some (o1073.2.2.2.2.2.2.2.2.2.2.2.2,o1073.1,o1073.2.1,o1073.2.2.1,o1073.2.2.2.1,o1073.2.2.2.2.1,o1073.2.2.2.2.2.1,o1073.2.2.2.2.2.2.1,o1073.2.2.2.2.2.2.2.1,o1073.2.2.2.2.2.2.2.2.1,o1073.2.2.2.2.2.2.2.2.2.1,o1073.2.2.2.2.2.2.2.2.2.2.1,o1073.2.2.2.2.2.2.2.2.2.2.2.1)
def Xt:Fs yc:=⟨13,[.ref 0 []],[.var (.agg [.v Zh,.v Yh,.v yI,.agg [.v yI,.v (.arr 2 yI),.own 1 Zq,.v yI],.v (.arr 2 Zo),.v yI,.own 2 Zi,.own 3 Zi,.v Z1]) true,.log Zq 82,.log Zi 84,.log Zi 84],[Zh,Yh,yI,yI,(.arr 2 yI),yI,(.arr 2 Zo),yI,Z1,(.sl Zq),(.sl Zi),(.sl Zi)],[⟨.ret,[(0,.v (.sl Zi))],[.var (.agg [.v Zh,.v Yh,.v yI,.agg [.v yI,.v (.arr 2 yI),.own 1 Zq,.v yI],.v (.arr 2 Zo),.v yI,.own 2 Zi,.own 3 Zi,.v Z1]) true,.log Zq 82,.log Zi 84,.log Zi 84],[(.sl Zi),Zh,Yh,yI,yI,(.arr 2 yI),yI,(.arr 2 Zo),yI,Z1,(.sl Zq),(.sl Zi),(.sl Zi)]⟩],λx=>Zv fuel x.1 x.2.1 x.2.2.1 x.2.2.2.1 x.2.2.2.2.1 x.2.2.2.2.2.1 x.2.2.2.2.2.2.1 x.2.2.2.2.2.2.2.1 x.2.2.2.2.2.2.2.2.1 x.2.2.2.2.2.2.2.2.2.1 x.2.2.2.2.2.2.2.2.2.2.1 x.2.2.2.2.2.2.2.2.2.2.2⟩
theorem XS:Xt.Ok:=fnO ZKR [(0,ZdK)] [] trivial ⟨Zh3,ytt⟩
def YK(F:Nat)(a1:Msg)(s0:(List Msg)):Option ((List Msg)):=
 (VV F s0 a1.1).bind λo1077=>
 if o1077.2=true then
  some s0
 else
 (X8 F a1.2.2.2.2.2.2.2.2.2.2.2.2.2).bind λo1078=>
 if(apB s0.length 1 328)=true then
  let y1079:(List Msg):=s0++([(a1.1,0,0,(0,0,0,0,0),0,[],a1.2.2.2.2.2.2.1,a1.2.2.2.2.2.2.2.1,yzz,0,([],[],0),(0,0,0,0,0),(0,0,0,0,0,0),o1078)]:List Msg)
  some y1079
 else
 none
def ZbQ:Fs yc:=⟨47,[.own 0 Zi,.v Zi],[.log Zi 84],[Zi,(.sl Zi)],[⟨.ret,[(0,.own 0 Zi)],[.log Zi 84],[(.sl Zi)]⟩],λx=>YK fuel x.1 x.2⟩
theorem Zgb:ZbQ.Ok:=fnO ZLk [] [Zbj,Zd3] ⟨Zak,ZcC,ytt⟩
def Ys(F:Nat)(a1:Msg)(s0_0:ZH)(s0_1:Kit)(s0_2:Int)(s0_3:Int)(s0_4:(List Int))(s0_5:Int)(s0_6:(List Lock))(s0_7:Int)(s0_8:Sig)(s1:(List Cond))(s2:(List Msg))(s3:(List Msg)):Option ((ZH×Kit×Int×Int×(List Int)×Int×(List Lock)×Int×Sig×(List Cond)×(List Msg)×(List Msg))):=
 (YK F a1 s2).bind λo1080=>
 some (s0_0,s0_1,s0_2,s0_3,s0_4,s0_5,s0_6,s0_7,s0_8,s1,o1080,s3)
def ZbR:Fs yc:=⟨48,[.ref 0 [],.v Zi],[.var (.agg [.v Zh,.v Yh,.v yI,.agg [.v yI,.v (.arr 2 yI),.own 1 Zq,.v yI],.v (.arr 2 Zo),.v yI,.own 2 Zi,.own 3 Zi,.v Z1]) true,.log Zq 82,.log Zi 84,.log Zi 84],[Zi,Zh,Yh,yI,yI,(.arr 2 yI),yI,(.arr 2 Zo),yI,Z1,(.sl Zq),(.sl Zi),(.sl Zi)],[⟨.ret,[(0,.tup [])],[.var (.agg [.v Zh,.v Yh,.v yI,.agg [.v yI,.v (.arr 2 yI),.own 1 Zq,.v yI],.v (.arr 2 Zo),.v yI,.own 2 Zi,.own 3 Zi,.v Z1]) true,.log Zq 82,.log Zi 84,.log Zi 84],[Zh,Yh,yI,yI,(.arr 2 yI),yI,(.arr 2 Zo),yI,Z1,(.sl Zq),(.sl Zi),(.sl Zi)]⟩],λx=>Ys fuel x.1 x.2.1 x.2.2.1 x.2.2.2.1 x.2.2.2.2.1 x.2.2.2.2.2.1 x.2.2.2.2.2.2.1 x.2.2.2.2.2.2.2.1 x.2.2.2.2.2.2.2.2.1 x.2.2.2.2.2.2.2.2.2.1 x.2.2.2.2.2.2.2.2.2.2.1 x.2.2.2.2.2.2.2.2.2.2.2.1 x.2.2.2.2.2.2.2.2.2.2.2.2⟩
theorem Zgc:ZbR.Ok:=fnO { own:=[8],still:=[8,9]} [] [ZbQ] ⟨Zgb,ytt⟩
def ZS(F:Nat)(s0_0:ZH)(s0_1:Kit)(s0_2:Int)(s0_3:Int)(s0_4:(List Int))(s0_5:Int)(s0_6:(List Lock))(s0_7:Int)(s0_8:Sig)(s1:(List Cond))(s2:(List Msg))(s3:(List Msg)):Option (((List Msg)×ZH×Kit×Int×Int×(List Int)×Int×(List Lock)×Int×Sig×(List Cond)×(List Msg)×(List Msg))):=
 if(s0_2==s0_0.2.2.2.2)=true then
  if(inB s0_2 2)=true then
   (s0_6[s0_2.toNat]?).bind λe1075=>
   (Vu F e1075).bind λo1076=>
   (Ys F (12,0,0,(0,0,0,0,0),0,[],s0_7,(0,0),yzz,0,([],[],0),(0,0,0,0,0),(0,0,0,0,0,0),o1076) s0_0 s0_1 s0_2 s0_3 s0_4 s0_5 s0_6 s0_7 s0_8 s1 s2 s3).bind λo1081=>
   (Zv F o1081.1 o1081.2.1 o1081.2.2.1 o1081.2.2.2.1 o1081.2.2.2.2.1 o1081.2.2.2.2.2.1 o1081.2.2.2.2.2.2.1 o1081.2.2.2.2.2.2.2.1 o1081.2.2.2.2.2.2.2.2.1 o1081.2.2.2.2.2.2.2.2.2.1 o1081.2.2.2.2.2.2.2.2.2.2.1 o1081.2.2.2.2.2.2.2.2.2.2.2).bind λo1082=>
   some (o1082.1,o1082.2.1,o1082.2.2.1,o1082.2.2.2.1,o1082.2.2.2.2.1,o1082.2.2.2.2.2.1,o1082.2.2.2.2.2.2.1,o1082.2.2.2.2.2.2.2.1,o1082.2.2.2.2.2.2.2.2.1,o1082.2.2.2.2.2.2.2.2.2.1,o1082.2.2.2.2.2.2.2.2.2.2.1,o1082.2.2.2.2.2.2.2.2.2.2.2.1,o1082.2.2.2.2.2.2.2.2.2.2.2.2)
  else
  none
 else
 if(inB s0_2 2)=true then
  (s0_6[s0_2.toNat]?).bind λe1083=>
  (Vu F e1083).bind λo1084=>
  (Ys F (12,0,0,(0,0,0,0,0),0,[],0,(0,0),yzz,0,([],[],0),(0,0,0,0,0),(0,0,0,0,0,0),o1084) s0_0 s0_1 s0_2 s0_3 s0_4 s0_5 s0_6 s0_7 s0_8 s1 s2 s3).bind λo1085=>
  (Zv F o1085.1 o1085.2.1 o1085.2.2.1 o1085.2.2.2.1 o1085.2.2.2.2.1 o1085.2.2.2.2.2.1 o1085.2.2.2.2.2.2.1 o1085.2.2.2.2.2.2.2.1 o1085.2.2.2.2.2.2.2.2.1 o1085.2.2.2.2.2.2.2.2.2.1 o1085.2.2.2.2.2.2.2.2.2.2.1 o1085.2.2.2.2.2.2.2.2.2.2.2).bind λo1086=>
  some (o1086.1,o1086.2.1,o1086.2.2.1,o1086.2.2.2.1,o1086.2.2.2.2.1,o1086.2.2.2.2.2.1,o1086.2.2.2.2.2.2.1,o1086.2.2.2.2.2.2.2.1,o1086.2.2.2.2.2.2.2.2.1,o1086.2.2.2.2.2.2.2.2.2.1,o1086.2.2.2.2.2.2.2.2.2.2.1,o1086.2.2.2.2.2.2.2.2.2.2.2.1,o1086.2.2.2.2.2.2.2.2.2.2.2.2)
 else
 none
def Vk:Fs yc:=⟨14,[.ref 0 []],[.var (.agg [.v Zh,.v Yh,.v yI,.agg [.v yI,.v (.arr 2 yI),.own 1 Zq,.v yI],.v (.arr 2 Zo),.v yI,.own 2 Zi,.own 3 Zi,.v Z1]) true,.log Zq 82,.log Zi 84,.log Zi 84],[Zh,Yh,yI,yI,(.arr 2 yI),yI,(.arr 2 Zo),yI,Z1,(.sl Zq),(.sl Zi),(.sl Zi)],[⟨.ret,[(0,.v (.sl Zi))],[.var (.agg [.v Zh,.v Yh,.v yI,.agg [.v yI,.v (.arr 2 yI),.own 1 Zq,.v yI],.v (.arr 2 Zo),.v yI,.own 2 Zi,.own 3 Zi,.v Z1]) true,.log Zq 82,.log Zi 84,.log Zi 84],[(.sl Zi),Zh,Yh,yI,yI,(.arr 2 yI),yI,(.arr 2 Zo),yI,Z1,(.sl Zq),(.sl Zi),(.sl Zi)]⟩],λx=>ZS fuel x.1 x.2.1 x.2.2.1 x.2.2.2.1 x.2.2.2.2.1 x.2.2.2.2.2.1 x.2.2.2.2.2.2.1 x.2.2.2.2.2.2.2.1 x.2.2.2.2.2.2.2.2.1 x.2.2.2.2.2.2.2.2.2.1 x.2.2.2.2.2.2.2.2.2.2.1 x.2.2.2.2.2.2.2.2.2.2.2⟩
theorem QK:Vk.Ok:=fnO { still:=[2,30,33,35]} [] [Zbt,ZbR,Xt] ⟨Q8,Zgc,XS,ytt⟩
def Zs(F:Nat)(a1:Msg)(s0_0:ZH)(s0_1:Kit)(s0_2:Int)(s0_3:Int)(s0_4:(List Int))(s0_5:Int)(s0_6:(List Lock))(s0_7:Int)(s0_8:Sig)(s1:(List Cond))(s2:(List Msg))(s3:(List Msg)):Option (((List Msg)×Int×ZH×Kit×Int×Int×(List Int)×Int×(List Lock)×Int×Sig×(List Cond)×(List Msg)×(List Msg))):=
 (VV F s3 12).bind λo1097=>
 if(a1.1==12)=true then
  (lock_ReadM F a1.2.2.2.2.2.2.2.2.2.2.2.2.2).bind λo1098=>
  if o1097.2=true then
   (ZeX F o1097.1.2.2.2.2.2.2.2.2.2.2.2.2.2 a1.2.2.2.2.2.2.2.2.2.2.2.2.2).bind λo1099=>
   if(!o1099)=true then
    some ([],4,s0_0,s0_1,s0_2,s0_3,s0_4,s0_5,s0_6,s0_7,s0_8,s1,s2,s3)
   else
   if(o1097.1.2.2.2.2.2.2.1 !=a1.2.2.2.2.2.2.1)=true then
    some ([],4,s0_0,s0_1,s0_2,s0_3,s0_4,s0_5,s0_6,s0_7,s0_8,s1,s2,s3)
   else
   if(!o1098.2)=true then
    some ([],2,s0_0,s0_1,s0_2,s0_3,s0_4,s0_5,s0_6,s0_7,s0_8,s1,s2,s3)
   else
   (YG F s0_0 (s0_3,s0_4,s1,s0_5) (wi (1 - s0_2)) a1.2.2.2.2.2.2.1).bind λo1100=>
   if(!o1100)=true then
    some ([],13,s0_0,s0_1,s0_2,s0_3,s0_4,s0_5,s0_6,s0_7,s0_8,s1,s2,s3)
   else
   (YK F a1 s3).bind λo1101=>
   if(inB (wi (1 - s0_2)) 2)=true then
    (s0_6[(wi (1 - s0_2)).toNat]?).bind λe1102=>
    if((wi (1 - s0_2))==s0_0.2.2.2.2)=true then
     (ZS F s0_0 s0_1 s0_2 s0_3 s0_4 s0_5 (s0_6.set ((wi (1 - s0_2)).toNat) o1098.1) a1.2.2.2.2.2.2.1 s0_8 s1 s2 o1101).bind λ(_,A,B,C,D,E,G,H,I,J,K,L,M)=>
     (ZV F A B C D E G H I J K L M).bind λo1104=>
     (YY F B o1104).bind λo1105=>
     (Ys F (13,0,0,(0,0,0,0,0),0,[],0,o1105,yzz,0,([],[],0),(0,0,0,0,0),(0,0,0,0,0,0),[]) A B C D E G H I J K L M).bind λ(n,o,p,q,r,t,u,v,w,x,y,z)=>
     (Zv F n o p q r t u v w x y z).bind λ(a,b,c,d,e,f,g,h,i,j,k,l,m)=>
     some (a,0,b,c,d,e,f,g,h,i,j,k,l,m)
    else
    (ZS F s0_0 s0_1 s0_2 s0_3 s0_4 s0_5 (s0_6.set ((wi (1 - s0_2)).toNat) o1098.1) s0_7 s0_8 s1 s2 o1101).bind λ(_,A,B,C,D,E,G,H,I,J,K,L,M)=>
    (ZV F A B C D E G H I J K L M).bind λo1109=>
    (YY F B o1109).bind λo1110=>
    (Ys F (13,0,0,(0,0,0,0,0),0,[],0,o1110,yzz,0,([],[],0),(0,0,0,0,0),(0,0,0,0,0,0),[]) A B C D E G H I J K L M).bind λ(n,o,p,q,r,t,u,v,w,x,y,z)=>
    (Zv F n o p q r t u v w x y z).bind λ(a,b,c,d,e,f,g,h,i,j,k,l,m)=>
    some (a,0,b,c,d,e,f,g,h,i,j,k,l,m)
   else
   none
  else
  if(!o1098.2)=true then
   some ([],2,s0_0,s0_1,s0_2,s0_3,s0_4,s0_5,s0_6,s0_7,s0_8,s1,s2,s3)
  else
  (YG F s0_0 (s0_3,s0_4,s1,s0_5) (wi (1 - s0_2)) a1.2.2.2.2.2.2.1).bind λo1113=>
  if(!o1113)=true then
   some ([],13,s0_0,s0_1,s0_2,s0_3,s0_4,s0_5,s0_6,s0_7,s0_8,s1,s2,s3)
  else
  (YK F a1 s3).bind λo1114=>
  if(inB (wi (1 - s0_2)) 2)=true then
   (s0_6[(wi (1 - s0_2)).toNat]?).bind λe1115=>
   if((wi (1 - s0_2))==s0_0.2.2.2.2)=true then
    (ZS F s0_0 s0_1 s0_2 s0_3 s0_4 s0_5 (s0_6.set ((wi (1 - s0_2)).toNat) o1098.1) a1.2.2.2.2.2.2.1 s0_8 s1 s2 o1114).bind λ(_,A,B,C,D,E,G,H,I,J,K,L,M)=>
    (ZV F A B C D E G H I J K L M).bind λo1117=>
    (YY F B o1117).bind λo1118=>
    (Ys F (13,0,0,(0,0,0,0,0),0,[],0,o1118,yzz,0,([],[],0),(0,0,0,0,0),(0,0,0,0,0,0),[]) A B C D E G H I J K L M).bind λ(n,o,p,q,r,t,u,v,w,x,y,z)=>
    (Zv F n o p q r t u v w x y z).bind λ(a,b,c,d,e,f,g,h,i,j,k,l,m)=>
    some (a,0,b,c,d,e,f,g,h,i,j,k,l,m)
   else
   (ZS F s0_0 s0_1 s0_2 s0_3 s0_4 s0_5 (s0_6.set ((wi (1 - s0_2)).toNat) o1098.1) s0_7 s0_8 s1 s2 o1114).bind λ(_,A,B,C,D,E,G,H,I,J,K,L,M)=>
   (ZV F A B C D E G H I J K L M).bind λo1122=>
   (YY F B o1122).bind λo1123=>
   (Ys F (13,0,0,(0,0,0,0,0),0,[],0,o1123,yzz,0,([],[],0),(0,0,0,0,0),(0,0,0,0,0,0),[]) A B C D E G H I J K L M).bind λ(n,o,p,q,r,t,u,v,w,x,y,z)=>
   (Zv F n o p q r t u v w x y z).bind λ(a,b,c,d,e,f,g,h,i,j,k,l,m)=>
   some (a,0,b,c,d,e,f,g,h,i,j,k,l,m)
  else
  none
 else
 if(a1.1==13)=true then
  if(!o1097.2)=true then
   some ([],14,s0_0,s0_1,s0_2,s0_3,s0_4,s0_5,s0_6,s0_7,s0_8,s1,s2,s3)
  else
  if(inB (wi (1 - s0_2)) 2)=true then
   (s0_0.2.2.1[(wi (1 - s0_2)).toNat]?).bind λe1126=>
   (ZV F s0_0 s0_1 s0_2 s0_3 s0_4 s0_5 s0_6 s0_7 s0_8 s1 s2 s3).bind λo1127=>
   (Zd0 F o1127).bind λo1128=>
   (sign_VerifyM F e1126.1 o1128 a1.2.2.2.2.2.2.2.1).bind λo1129=>
   if(!o1129)=true then
    some ([],7,s0_0,s0_1,s0_2,s0_3,s0_4,s0_5,s0_6,s0_7,s0_8,s1,s2,s3)
   else
   (YK F a1 s3).bind λo1130=>
   some ([],0,s0_0,s0_1,s0_2,s0_3,s0_4,s0_5,s0_6,s0_7,a1.2.2.2.2.2.2.2.1,s1,s2,o1130)
  else
  none
 else
 some ([],1,s0_0,s0_1,s0_2,s0_3,s0_4,s0_5,s0_6,s0_7,s0_8,s1,s2,s3)
def ZaK:Fs yc:=⟨16,[.ref 0 [],.v Zi],[.var (.agg [.v Zh,.v Yh,.v yI,.agg [.v yI,.v (.arr 2 yI),.own 1 Zq,.v yI],.v (.arr 2 Zo),.v yI,.own 2 Zi,.own 3 Zi,.v Z1]) true,.log Zq 82,.log Zi 84,.log Zi 84],[Zi,Zh,Yh,yI,yI,(.arr 2 yI),yI,(.arr 2 Zo),yI,Z1,(.sl Zq),(.sl Zi),(.sl Zi)],[⟨.ret,[(0,.tup [.v (.sl Zi),.v yI])],[.var (.agg [.v Zh,.v Yh,.v yI,.agg [.v yI,.v (.arr 2 yI),.own 1 Zq,.v yI],.v (.arr 2 Zo),.v yI,.own 2 Zi,.own 3 Zi,.v Z1]) true,.log Zq 82,.log Zi 84,.log Zi 84],[(.sl Zi),yI,Zh,Yh,yI,yI,(.arr 2 yI),yI,(.arr 2 Zo),yI,Z1,(.sl Zq),(.sl Zi),(.sl Zi)]⟩],λx=>Zs fuel x.1 x.2.1 x.2.2.1 x.2.2.2.1 x.2.2.2.2.1 x.2.2.2.2.2.1 x.2.2.2.2.2.2.1 x.2.2.2.2.2.2.2.1 x.2.2.2.2.2.2.2.2.1 x.2.2.2.2.2.2.2.2.2.1 x.2.2.2.2.2.2.2.2.2.2.1 x.2.2.2.2.2.2.2.2.2.2.2.1 x.2.2.2.2.2.2.2.2.2.2.2.2⟩
def ZLE:HI:={ own:=[72,134],still:=[4,5,20,30,38,40,58,62,63,65,72,73,95,97,101,102,103,105,107,122,123,124,125,127,134,135]}
theorem Zeq:ZaK.Ok:=ZuX (fi:={ hi:=ZLE}) (specs:={ l:=[ZbQ,Zbj,Zkn,Zms,Zbq,Vk,Zmn,ZbR,Xt,Zoj,ZcZ],mt:=[],ro:=[ZdJ]}) (okR ⟨Zgb,Zak,Ziy,ZkX,Zao,QK,ZkG,Zgc,XS,ZkC,ZbO,ytt⟩ trivial ⟨Zh2,ytt⟩)
end
end Go.Proofs.YtmkgbalfkhaflaaGreat
end
section
set_option maxRecDepth 4000
namespace Go.Proofs.YtmkgbalfkhaflaaGreat
open Go Go.Ev
theorem ZDB{l r:List Out}(h:l.Perm r):amts l=amts r:=by
 unfold amts
 induction h with
 |nil=>rfl
 |cons x _ ih=>rw[yaf,yaf,List.sum_cons,List.sum_cons,ih]
 |swap x y l=>rw[yaf,yaf,yaf,yaf,List.sum_cons,List.sum_cons,List.sum_cons,List.sum_cons];omega
 |trans _ _ ih1 ih2=>rw[ih1,ih2]
def shn(n:Int):Int:=if n ≥ 100 then n else 0
theorem ZGk(op h0 h1 fee:Int)(l0 l1:Lock):amts (outs0 op h0 h1 fee l0 l1)=shn (Zgk op h0 h1 fee 0)+shn (Zgk op h0 h1 fee 1):=by
 unfold outs0 ZoC shn amts;split <;> split <;> simp
theorem ZHM{op h0 h1 fee:Int}{l0 l1:Lock}{o:Out}(h:o∈outs0 op h0 h1 fee l0 l1):o.1 ≥ 100∧∃i:Int,(i=0∨i=1)∧o=(Zgk op h0 h1 fee i,lkOf l0 l1 i):=by
 unfold outs0 ZoC at h;rw[ych] at h;rcases h with h|h
 all_goals
  split at h
  ·rw[yaq] at h;subst h;exact⟨by assumption,_,by simp,rfl⟩
  ·simp at h
theorem Zxc{op h0 h1 fee:Int}(p0:0≤h0)(p1:0≤h1)(hA:h0+h1≤4300000000)(f0:52≤fee)(f1:fee≤hav op h0 h1)(i:Int):0≤Zgk op h0 h1 fee i∧Zgk op h0 h1 fee i≤4300000000:=by
 unfold Zgk hav at*;by_cases hi:i=op
 ·subst hi;rw[if_pos rfl];split at f1 <;> split <;> omega
 ·rw[if_neg hi];split <;> omega
theorem Mk.outs{op h0 h1 fee:Int}{l0 l1:Lock}{r:List Out}(h:Mk op h0 h1 fee l0 l1 r)(p0:0≤h0)(p1:0≤h1)(hA:h0+h1≤4300000000)(f0:52≤fee)(f1:fee≤hav op h0 h1)(g0:LockOk l0∧LockPt l0)(g1:LockOk l1∧LockPt l1):
 r.length≤2∧(∀o,o∈r→o.1 ≥ 100∧o.1≤4300000000∧Zts o)∧amts r=shn (Zgk op h0 h1 fee 0)+shn (Zgk op h0 h1 fee 1)∧TxWf (([((z32,0),(0,[],0))]:List In),r,2097154)∧TxOk (([((z32,0),(0,[],0))]:List In),r,2097154)∧amts r≤1125899906842624:=by
 have hl:=h.pm.length_eq;have hl2:=Zpy op h0 h1 fee l0 l1;have q0:=Zxc p0 p1 hA f0 f1 0;have q1:=Zxc p0 p1 hA f0 f1 1
 have ho:∀o,o∈r→o.1 ≥ 100∧o.1≤4300000000∧Zts o:=by
  intro o ho;obtain⟨h1',i,hi,rfl⟩:=ZHM (h.pm.mem_iff.1 ho);have hp:=Zxc p0 p1 hA f0 f1 i;refine⟨h1',hp.2,by dsimp only;omega,by dsimp only;omega, ?_⟩;rcases hi with rfl|rfl
  ·exact g0
  ·exact g1
 have hs:amts r=shn (Zgk op h0 h1 fee 0)+shn (Zgk op h0 h1 fee 1):=by rw[ZDB h.pm,ZGk]
 have hx:∀x,x∈([((z32,0),(0,[],0))]:List In)→x=((z32,0),(0,[],0)):=λx hx=>yaq.1 hx;refine⟨by omega,ho,hs,⟨λx h=>by rw[hx x h];rfl,by show(2097154:Int)≤_;decide⟩,⟨by simp,by simp,by dsimp only;omega,by show(0:Int)≤2097154;decide,λx h=>by rw[hx x h];refine⟨by decide,by decide,by decide,by decide,by decide⟩,λo h=>(ho o h).2.2⟩, ?_⟩;rw[hs];unfold shn;split <;> split <;> omega
def ZGl:Msg:=((0:Int),(0:Int),(0:Int),((0:Int),(0:Int),(0:Int),(0:UInt64),(0:Int)),(0:UInt64),([]:List UInt8),(0:Int),((0:UInt64),(0:UInt64)),yzz,(0:UInt64),(([]:List In),([]:List Out),(0:Int)),((0:UInt64),(0:UInt64),(0:UInt64),(0:UInt64),(0:UInt64)),((0:Int),(0:Int),(0:Int),(0:Int),(0:Int),(0:Int)),([]:List UInt8))
def fnd(l:List Msg)(k:Int):Option Msg:=l.find? λe=>e.1==k
theorem ZGm{l:List Msg}(hl:l.length≤1000000)(k:Int):(fnd l k=none∧Zj9 fuel l k=some (-1,k))∨∃(j:Nat)(e:Msg),fnd l k=some e∧l[j]? =some e∧Zj9 fuel l k=some ((j:Int),k):=by
 unfold Zj9
 obtain⟨x,g1,g2⟩:=Z8 (step:=Zdc fuel) l.length (λj s=>s=(l,(l.length:Int),(j:Int),k)∧fnd l k=fnd (l.drop j) k) (λx=>(x=.inr k∧fnd l k=none)∨∃(j:Nat)(e:Msg),x=.inl ((j:Int),k)∧fnd l k=some e∧l[j]? =some e) (i:=(l,(l.length:Int),(0:Int),k)) ⟨rfl,rfl⟩ (by omega) (by
  rintro j _ hk ⟨rfl,hj⟩;obtain⟨e,he,hm⟩:=Zl hk;unfold Zdc ZdM;dsimp only;rw[if_pos (Yk hk),Zu he,ya,ya,Zr (by omega)];rw[ZCc he] at hj;unfold fnd at hj ⊢;rw[List.find?_cons] at hj;by_cases h:e.1=k
  ·have hb:(e.1==k)=true:=by rw[h];exact beq_self_eq_true _
   rw[hb] at hj;right;dsimp only;rw[if_pos hb];exact⟨_,rfl,.inr ⟨j,e,rfl,hj,he⟩⟩
  ·have hb:(e.1==k)=false:=by rw[beq_eq_false_iff_ne];exact h
   rw[hb] at hj;left;dsimp only;rw[if_neg (by rw[hb];decide)];exact⟨_,rfl,rfl,hj⟩) (by
  rintro _ ⟨rfl,hj⟩;unfold Zdc;dsimp only;rw[if_neg (by rw[Z2];decide)];rw[List.drop_length] at hj;exact⟨_,rfl,.inl ⟨rfl,hj⟩⟩)
 rw[g1,ya];rcases g2 with⟨rfl,g2⟩|⟨j,e,rfl,g2,g3⟩
 ·exact .inl ⟨g2,rfl⟩
 ·exact .inr ⟨j,e,g2,g3,rfl⟩
theorem Zc1{l:List Msg}(hl:l.length≤1000000)(k:Int):VV fuel l k=some ((fnd l k).getD ZGl,(fnd l k).isSome):=by
 unfold VV;rcases ZGm hl k with⟨h1,h2⟩|⟨j,e,h1,h2,h3⟩
 ·rw[h2,h1,ya];rfl
 ·rw[h3,h1,ya,if_neg (ynd (by omega)),Zu h2];rfl
theorem Zvq{b:List UInt8}(h:b.length≤1000000000):X8 fuel b=some b:=by
 unfold X8;rw[if_pos (Yj (by omega) (by omega))]
def ZJP(m:Msg):Msg:=(m.1,0,0,(0,0,0,0,0),0,[],m.2.2.2.2.2.2.1,m.2.2.2.2.2.2.2.1,yzz,0,([],[],0),(0,0,0,0,0),(0,0,0,0,0,0),m.2.2.2.2.2.2.2.2.2.2.2.2.2)
def byt(m:Msg):List UInt8:=m.2.2.2.2.2.2.2.2.2.2.2.2.2
def YH(l:List Msg)(m:Msg):List Msg:=if(fnd l m.1).isSome=true then l else l++[ZJP m]
theorem ZGn{l:List Msg}{m:Msg}(hl:l.length≤1000000)(hm:(byt m).length≤1000000000):QS fuel m l=some (YH l m):=by
 unfold QS YH;rw[Zc1 hl,ya];dsimp only;split
 ·rfl
 ·have hb:X8 fuel m.2.2.2.2.2.2.2.2.2.2.2.2.2=some m.2.2.2.2.2.2.2.2.2.2.2.2.2:=Zvq hm;rw[hb,ya,if_pos (Yj (by omega) (by omega))];rfl
theorem Zty{l:List Msg}{m:Msg}(hl:l.length≤1000000)(hm:(byt m).length≤1000000000):YK fuel m l=some (YH l m):=by
 unfold YK YH;rw[Zc1 hl,ya];dsimp only;split
 ·rfl
 ·have hb:X8 fuel m.2.2.2.2.2.2.2.2.2.2.2.2.2=some m.2.2.2.2.2.2.2.2.2.2.2.2.2:=Zvq hm;rw[hb,ya,if_pos (Yj (by omega) (by omega))];rfl
def Zd4(l:List Msg):List Msg:=l.foldl YH []
theorem ZlA(l:List Msg)(m:Msg):(YH l m).length≤l.length+1:=by
 unfold YH;split <;> simp
theorem Zza:∀(l acc:List Msg),(l.foldl YH acc).length≤acc.length+l.length
 |[],acc=>by simp
 |m::r,acc=>by
  have h1:=Zza r (YH acc m);have h2:=ZlA acc m;rw[List.foldl_cons,yag];omega
theorem Zh4{l:List Msg}(hl:l.length≤100000)(hm:∀m,m∈l→(byt m).length≤1000000000)(c:ZH)(k:Kit)(me no:Int)(hv:List Int)(r:Int)(lk:List Lock)(fee:Int)(sg:Sig)(cs:List Cond)(hd:List Msg):
 Zv fuel c k me no hv r lk fee sg cs l hd=some (Zd4 l,c,k,me,no,hv,r,lk,fee,sg,cs,l,hd):=by
 unfold Zv
 rw[show((l.length:Int),(0:Int),c,k,me,no,hv,r,lk,fee,sg,cs,l,hd,([]:List Msg))=(λj:Nat=>((l.length:Int),(j:Int),c,k,me,no,hv,r,lk,fee,sg,cs,l,hd,Zd4 (l.take j))) 0 from rfl,
  Z4 (x:=(c,k,me,no,hv,r,lk,fee,sg,cs,l,hd,Zd4 l)) l.length (λj:Nat=>((l.length:Int),(j:Int),c,k,me,no,hv,r,lk,fee,sg,cs,l,hd,Zd4 (l.take j))) ?_ ?_ (by omega),ya]
 ·intro j hj;obtain⟨e,he,hme⟩:=Zl hj;have h1:=Zza (l.take j) [];rw[yai] at h1;unfold Wv;dsimp only;rw[if_pos (Yk hj),Zu he,ya,ZGn (by unfold Zd4;simp at h1 ⊢;omega) (hm e hme),ya,Zr (by omega),ZeW he];unfold Zd4;rw[List.foldl_append];rfl
 ·unfold Wv;dsimp only;rw[if_neg (by rw[Z2];decide),ybl]
theorem ZDC(k:Kit):ZeV fuel k=some (ZJ k):=by
 unfold ZeV;rw[Zc0,ya,Zc0,ya,Zc0,ya,Zc0,ya,Zc0,ya];rfl
def Zxd(k0 k1:Kit)(me:Int):Kit:=if me=1 then k1 else k0
def fitB(op h0 h1 me fee:Int):Bool:=if me=op then decide (52≤fee∧fee≤hav op h0 h1) else fee==0
theorem ZCj{A:Int}{k0 k1:Kit}{op:Int}(ho:op=0∨op=1){s:State}{h0 h1:Int}(hv:s.2.1=[h0,h1])(me fee:Int):YG fuel (Z9 A k0 k1 op) s me fee=some (fitB op h0 h1 me fee):=by
 unfold fitB;by_cases h:me=op
 ·rw[if_pos h,h,ZCh ho hv]
 ·rw[if_neg h,ZHK h]
theorem ZJQ{A:Int}{k0 k1:Kit}{op:Int}(h:ChOk A k0 k1 op){s:State}{h0 h1:Int}(hs:StIn A s h0 h1)(hc:hav op h0 h1 ≥ cost s.2.2.2 s.2.2.1.length){me:Int}(hme:me=0∨me=1){l:Lock}(hl:Zxa l)(fee:Int):
 ∃r,Y6 fuel l=some r∧(r=true↔LockOk l∧LockPt l)∧Yw fuel (Z9 A k0 k1 op) (Zxd k0 k1 me) me s l fee=
  if r=false then some (.inl 1) else if s.2.2.1≠[] then some (.inl 14) else if fitB op h0 h1 me fee=false then some (.inl 13)
  else some (.inr (0,Z9 A k0 k1 op,Zxd k0 k1 me,me,s.1,s.2.1,s.2.2.2,([([]:Lock),([]:Lock)]:List Lock).set me.toNat l,fee,((0:UInt64),(0:UInt64)),([]:List Cond),([]:List Msg),([]:List Msg))):=by
 obtain⟨r,r1,r2⟩:=Zk5 hl;refine⟨r,r1,r2, ?_⟩;have hB:(Z9 A k0 k1 op).2.2.1[me.toNat]? =some (ZJ (Zxd k0 k1 me)):=by rcases hme with rfl|rfl <;> rfl
 unfold Yw;rw[if_neg (ynd (by omega)),if_neg (ynd (by omega)),r1,ya]
 cases r with
 |false=>rw[if_pos (by decide),if_pos rfl]
 |true=>
  rw[if_neg (by decide),if_neg (by decide),ZDC,ya,if_pos (XF hme),hB,ya,if_neg (by simp),ZGi h hs hc,ya];by_cases hn:s.2.2.1=[]
  ·rw[if_neg (by rw[hn];decide),if_neg (by simp[hn]),ZCj h.o hs.hv,ya]
   cases fitB op h0 h1 me fee with
   |false=>rw[if_pos (by decide),if_pos rfl]
   |true=>
    rw[if_neg (by decide),if_neg (by decide),Zxb (r2.1 rfl).1 (r2.1 rfl).2,ya,if_pos (XF hme)];have hz:([([]:Lock),([]:Lock)]:List Lock)[me.toNat]? =some []:=by rcases hme with rfl|rfl <;> rfl
    rw[hz,ya]
  ·rw[if_pos (by simp[hn]),if_pos hn]
def rateOf(op me fee:Int):Int:=if me=op then fee else 0
def YP(rate:Int)(b:List UInt8):Msg:=(12,0,0,(0,0,0,0,0),0,[],rate,(0,0),yzz,0,([],[],0),(0,0,0,0,0),(0,0,0,0,0,0),b)
theorem ZAO{l:List Msg}{m:Msg}(hl:l.length≤1000000)(hm:(byt m).length≤1000000000)(c:ZH)(k:Kit)(me no:Int)(hv:List Int)(r:Int)(lk:List Lock)(fee:Int)(sg:Sig)(cs:List Cond)(hd:List Msg):
 Ys fuel m c k me no hv r lk fee sg cs l hd=some (c,k,me,no,hv,r,lk,fee,sg,cs,YH l m,hd):=by
 unfold Ys;rw[Zty hl hm,ya]
theorem Zzb{A:Int}{k0 k1:Kit}{op:Int}{me:Int}(hme:me=0∨me=1){lk:List Lock}{l:Lock}(hlk:lk[me.toNat]? =some l)(h:LockOk l)(hp:LockPt l){said:List Msg}(hl:said.length≤10000)(hm:∀m,m∈said→(byt m).length≤1000000000)(k:Kit)(no:Int)(hv:List Int)(r:Int)(fee:Int)(sg:Sig)(cs:List Cond)(hd:List Msg):
 ZS fuel (Z9 A k0 k1 op) k me no hv r lk fee sg cs said hd=some (Zd4 (YH said (YP (rateOf op me fee) (WY l))),Z9 A k0 k1 op,k,me,no,hv,r,lk,fee,sg,cs,YH said (YP (rateOf op me fee) (WY l)),hd):=by
 have hO:(Z9 A k0 k1 op).2.2.2.2=op:=rfl;have hlen:=Za1 h
 have ha:∀m:Msg,(byt m).length≤1000000000→(YH said m).length≤100000∧∀x,x∈YH said m→(byt x).length≤1000000000:=by
  intro m hm2;refine⟨by have:=ZlA said m;omega,λx hx=> ?_⟩;unfold YH at hx;split at hx
  ·exact hm x hx
  ·rcases ych.1 hx with hx|hx
   ·exact hm x hx
   ·rw[yaq.1 hx];exact hm2
 have hb:∀rate,(byt (YP rate (WY l))).length≤1000000000:=λrate=>by
  show(WY l).length≤_;omega
 unfold ZS rateOf;unfold YP at hb ⊢;rw[hO];generalize Z9 A k0 k1 op=c;by_cases he:me=op
 ·rw[if_pos (by rw[he];exact beq_self_eq_true _),if_pos (XF hme),hlk,ya,ZcE h hp,ya];rw[ZAO (by omega) (hb fee),ya];dsimp only;rw[Zh4 (ha _ (hb fee)).1 (ha _ (hb fee)).2,ya,if_pos he]
 ·rw[if_neg (by rw[beq_iff_eq];exact he),if_pos (XF hme),hlk,ya,ZcE h hp,ya];rw[ZAO (by omega) (hb 0),ya];dsimp only;rw[Zh4 (ha _ (hb 0)).1 (ha _ (hb 0)).2,ya,if_neg he]
end Go.Proofs.YtmkgbalfkhaflaaGreat
end
section
set_option maxRecDepth 4000
namespace Go.Proofs.YtmkgbalfkhaflaaGreat
open Go Go.Ev
noncomputable section
def Zqy:List ESh:=[.var (.v Zg) true,.var (.agg [.v Zh,.v Yh,.v yI,.agg [.v yI,.v (.arr 2 yI),.own 3 Zq,.v yI],.v (.arr 2 Zo),.v yI,.own 4 Zi,.own 5 Zi,.v Z1]) true,.var (.agg [.v Zh,.v Yh,.v yI,.agg [.v yI,.v (.arr 2 yI),.own 6 Zq,.v yI],.v (.arr 2 Zo),.v yI,.own 7 Zi,.own 8 Zi,.v Z1]) true,.log Zq 82,.log Zi 84,.log Zi 84,.log Zq 82,.log Zi 84,.log Zi 84,.var (.arr 2 1 [.ref 1 [],.ref 2 []]) true,.var (.v Zh) true,.var (.v Zf) true]
abbrev ZP:Ty:=(.st [yI,.u8,.u8,yI,(.sl .u8),yI,Z1])
abbrev Ye:Type:=(Int×UInt8×UInt8×Int×(List UInt8)×Int×Sig)
abbrev Zzc:Type:=((List Ye)×Bool×Int×Int×Int×Corsnedlaw21Play×ZH×Kit×Int×Int×(List Int)×Int×(List Lock)×Int×Sig×ZH×Kit×Int×Int×(List Int)×Int×(List Lock)×Int×Sig×(List Cond)×(List Msg)×(List Msg)×(List Cond)×(List Msg)×(List Msg)×ZH×State)
abbrev ZDD:List Ty:=[(.sl ZP),.bool,yI,yI,yI,Zg,Zh,Yh,yI,yI,(.arr 2 yI),yI,(.arr 2 Zo),yI,Z1,Zh,Yh,yI,yI,(.arr 2 yI),yI,(.arr 2 Zo),yI,Z1,(.sl Zq),(.sl Zi),(.sl Zi),(.sl Zq),(.sl Zi),(.sl Zi),Zh,Zf]
def Zm8:HI:={ still:=[8,30,31,67,72,77,86,88,97,99,105,120,121,125,129,151,152,153,158,182,183,189,190,196,197,224,225]}
abbrev ZKS:Type:=(Bool×Int×Int×Corsnedlaw21Play×ZH×Kit×Int×Int×(List Int)×Int×(List Lock)×Int×Sig×ZH×Kit×Int×Int×(List Int)×Int×(List Lock)×Int×Sig×(List Cond)×(List Msg)×(List Msg)×(List Cond)×(List Msg)×(List Msg)×ZH×State)
abbrev ZKT:List Ty:=[.bool,yI,yI,Zg,Zh,Yh,yI,yI,(.arr 2 yI),yI,(.arr 2 Zo),yI,Z1,Zh,Yh,yI,yI,(.arr 2 yI),yI,(.arr 2 Zo),yI,Z1,(.sl Zq),(.sl Zi),(.sl Zi),(.sl Zq),(.sl Zi),(.sl Zi),Zh,Zf]
def YZ(F:Nat):Zzc→Option Zzc
 |(N,O,P,Q,R,S,T,U,V,W,X,Y,Z,b0,b1,b2,b3,b4,b5,b6,b7,b8,b9,c0,c1,c2,c3,c4,c5,c6,c7,c8)=>
 (idx N R).bind λe1345=>
 if((bits .and .i64 e1345.1 1)==0)=true then
  if(Q==0)=true then
   (ZS F b2 b3 b4 b5 b6 b7 b8 b9 c0 c4 c5 c6).bind λ(_,A,B,C,D,E,G,H,I,J,K,L,M)=>
   (Zv F A B C D E G H I J K L M).bind λ(m,n,o,p,q,r,t,u,v,w,x,y,z)=>
   if(decide ((m.length:Int) > 0))=true then
    if((m.length:Int)!=0)=true then
     let y1348:Int:=yar (e1345.2.2.1.toNat:Int) (m.length:Int)
     (idx m y1348).bind λe1349=>
     (Zs F e1349 T U V W X Y Z b0 b1 c1 c2 c3).bind λ(_,_,a,b,c,d,e,f,g,h,i,j,k,l)=>
     some (N,O,P,0,R,S,a,b,c,d,e,f,g,h,i,n,o,p,q,r,t,u,v,w,j,k,l,x,y,z,c7,c8)
    else
    none
   else
   some (N,O,P,0,R,S,T,U,V,W,X,Y,Z,b0,b1,n,o,p,q,r,t,u,v,w,c1,c2,c3,x,y,z,c7,c8)
  else
  if(Q==1)=true then
   (ZS F T U V W X Y Z b0 b1 c1 c2 c3).bind λ(_,A,B,C,D,E,G,H,I,J,K,L,M)=>
   (Zv F A B C D E G H I J K L M).bind λ(m,n,o,p,q,r,t,u,v,w,x,y,z)=>
   if(decide ((m.length:Int) > 0))=true then
    if((m.length:Int)!=0)=true then
     let y1353:Int:=yar (e1345.2.2.1.toNat:Int) (m.length:Int)
     (idx m y1353).bind λe1354=>
     (Zs F e1354 n o p q r t u v w x y z).bind λ(_,_,a,b,c,d,e,f,g,h,i,j,k,l)=>
     some (N,O,P,1,R,S,a,b,c,d,e,f,g,h,i,b2,b3,b4,b5,b6,b7,b8,b9,c0,j,k,l,c4,c5,c6,c7,c8)
    else
    none
   else
   some (N,O,P,1,R,S,n,o,p,q,r,t,u,v,w,b2,b3,b4,b5,b6,b7,b8,b9,c0,x,y,z,c4,c5,c6,c7,c8)
  else
  none
 else
 (Zs F (e1345.2.2.2.1,0,0,(0,0,0,0,0),0,[],e1345.2.2.2.2.2.1,e1345.2.2.2.2.2.2,yzz,0,([],[],0),(0,0,0,0,0),(0,0,0,0,0,0),e1345.2.2.2.2.1) T U V W X Y Z b0 b1 c1 c2 c3).bind λ(_,_,a,b,c,d,e,f,g,h,i,j,k,l)=>
 some (N,O,P,Q,R,S,a,b,c,d,e,f,g,h,i,b2,b3,b4,b5,b6,b7,b8,b9,c0,j,k,l,c4,c5,c6,c7,c8)
def Qh:Lp:=⟨[(3,.v (.sl ZP)),(9,.v .bool),(10,.ref 9 []),(11,.ref 10 []),(12,.ref 11 []),(13,.v yI),(15,.v yI),(16,.ref 1 []),(17,.v yI)],Zqy,ZDD,[⟨.normal,[(3,.v (.sl ZP)),(9,.v .bool),(10,.ref 9 []),(11,.ref 10 []),(12,.ref 11 []),(13,.v yI),(15,.v yI),(16,.ref 1 []),(17,.v yI)],Zqy,ZDD⟩],YZ fuel⟩
theorem ZcF:Qh.Is yc (W4 yc 4) (Zfq (W2 yc 4 0) 2):=Zst (n:=0) (g:=4) (fi:={ hi:=Zm8,gh:=[(2,.split 15 [0,1])]}) (specs:={ l:=[Vk,Xt,ZaK]}) (okS ⟨QK,XS,Zeq,ytt⟩)
def ZY(F:Nat):Zzc→Option (Zzc⊕ZKS)
 |(J,K,L,M,I,N,O,P,Q,R,S,T,U,V,W,X,Y,Z,b0,b1,b2,b3,b4,b5,b6,b7,b8,b9,c0,c1,c2,c3)=>
 if(decide (I < (J.length:Int)))=true then
  (YZ F (J,K,L,M,I,N,O,P,Q,R,S,T,U,V,W,X,Y,Z,b0,b1,b2,b3,b4,b5,b6,b7,b8,b9,c0,c1,c2,c3)).bind λ(a,b,c,d,e,f,g,h,i,j,k,l,m,n,o,p,q,r,t,u,v,w,x,y,z,A,B,C,D,E,G,H)=>
  some (.inl (a,b,c,d,wi (e+1),f,g,h,i,j,k,l,m,n,o,p,q,r,t,u,v,w,x,y,z,A,B,C,D,E,G,H))
 else
 some (.inr (K,L,M,N,O,P,Q,R,S,T,U,V,W,X,Y,Z,b0,b1,b2,b3,b4,b5,b6,b7,b8,b9,c0,c1,c2,c3))
def Qi:Lp:=⟨[(3,.v (.sl ZP)),(9,.v .bool),(10,.ref 9 []),(11,.ref 10 []),(12,.ref 11 []),(13,.v yI),(15,.v yI),(16,.ref 1 []),(17,.v yI)],Zqy,ZDD,[⟨.exit 0,[(9,.v .bool),(11,.ref 10 []),(12,.ref 11 []),(13,.v yI),(15,.v yI),(16,.ref 1 [])],Zqy,ZKT⟩],Zc (ZY fuel) fuel⟩
theorem ZcG:Qi.okA yc 4 0:=Zlq (fi:={ hi:=Zm8,bk:=[(2,Qh)],gh:=[(5,.split 15 [0,1])]}) (specs:={ l:=[]}) (okS trivial) (hb:=⟨ZcF,ytt⟩)
abbrev ZDE:Type:=(Bool×Int×Int×(List Msg)×Int×Int×Int×Corsnedlaw21Play×ZH×Kit×Int×Int×(List Int)×Int×(List Lock)×Int×Sig×ZH×Kit×Int×Int×(List Int)×Int×(List Lock)×Int×Sig×(List Cond)×(List Msg)×(List Msg)×(List Cond)×(List Msg)×(List Msg)×ZH×State×Lock×Tx)
def ZgV:List ESh:=[.var (.v Zg) true,.var (.agg [.v Zh,.v Yh,.v yI,.agg [.v yI,.v (.arr 2 yI),.own 3 Zq,.v yI],.v (.arr 2 Zo),.v yI,.own 4 Zi,.own 5 Zi,.v Z1]) true,.var (.agg [.v Zh,.v Yh,.v yI,.agg [.v yI,.v (.arr 2 yI),.own 6 Zq,.v yI],.v (.arr 2 Zo),.v yI,.own 7 Zi,.own 8 Zi,.v Z1]) true,.log Zq 82,.log Zi 84,.log Zi 84,.log Zq 82,.log Zi 84,.log Zi 84,.var (.arr 2 1 [.ref 1 [],.ref 2 []]) true,.var (.v Zh) true,.var (.v Zf) true,.var (.v Zo) true,.var (.v yTx) true]
abbrev ZDF:List Ty:=[.bool,yI,yI,(.sl Zi),yI,yI,yI,Zg,Zh,Yh,yI,yI,(.arr 2 yI),yI,(.arr 2 Zo),yI,Z1,Zh,Yh,yI,yI,(.arr 2 yI),yI,(.arr 2 Zo),yI,Z1,(.sl Zq),(.sl Zi),(.sl Zi),(.sl Zq),(.sl Zi),(.sl Zi),Zh,Zf,Zo,yTx]
abbrev ZKU:Type:=(Bool×Corsnedlaw21Play×ZH×Kit×Int×Int×(List Int)×Int×(List Lock)×Int×Sig×ZH×Kit×Int×Int×(List Int)×Int×(List Lock)×Int×Sig×(List Cond)×(List Msg)×(List Msg)×(List Cond)×(List Msg)×(List Msg)×ZH×State×Lock×Tx)
abbrev ZKV:Type:=(Bool×Int×Int×(List Msg)×Int×Int×Corsnedlaw21Play×ZH×Kit×Int×Int×(List Int)×Int×(List Lock)×Int×Sig×ZH×Kit×Int×Int×(List Int)×Int×(List Lock)×Int×Sig×(List Cond)×(List Msg)×(List Msg)×(List Cond)×(List Msg)×(List Msg)×ZH×State×Lock×Tx)
abbrev ZKW:List Ty:=[.bool,Zg,Zh,Yh,yI,yI,(.arr 2 yI),yI,(.arr 2 Zo),yI,Z1,Zh,Yh,yI,yI,(.arr 2 yI),yI,(.arr 2 Zo),yI,Z1,(.sl Zq),(.sl Zi),(.sl Zi),(.sl Zq),(.sl Zi),(.sl Zi),Zh,Zf,Zo,yTx]
abbrev ZKX:List Ty:=[.bool,yI,yI,(.sl Zi),yI,yI,Zg,Zh,Yh,yI,yI,(.arr 2 yI),yI,(.arr 2 Zo),yI,Z1,Zh,Yh,yI,yI,(.arr 2 yI),yI,(.arr 2 Zo),yI,Z1,(.sl Zq),(.sl Zi),(.sl Zi),(.sl Zq),(.sl Zi),(.sl Zi),Zh,Zf,Zo,yTx]
abbrev ZHN:Type:=(Bool×Int×Int×(List Msg)×Int×Int×Bool×Int×Corsnedlaw21Play×ZH×Kit×Int×Int×(List Int)×Int×(List Lock)×Int×Sig×ZH×Kit×Int×Int×(List Int)×Int×(List Lock)×Int×Sig×(List Cond)×(List Msg)×(List Msg)×(List Cond)×(List Msg)×(List Msg)×ZH×State×Lock×Tx)
abbrev ZKY:Type:=(Bool×Int×Int×(List Msg)×Int×Bool×Corsnedlaw21Play×ZH×Kit×Int×Int×(List Int)×Int×(List Lock)×Int×Sig×ZH×Kit×Int×Int×(List Int)×Int×(List Lock)×Int×Sig×(List Cond)×(List Msg)×(List Msg)×(List Cond)×(List Msg)×(List Msg)×ZH×State×Lock×Tx)
abbrev ZKZ:List Ty:=[.bool,yI,yI,(.sl Zi),yI,.bool,Zg,Zh,Yh,yI,yI,(.arr 2 yI),yI,(.arr 2 Zo),yI,Z1,Zh,Yh,yI,yI,(.arr 2 yI),yI,(.arr 2 Zo),yI,Z1,(.sl Zq),(.sl Zi),(.sl Zi),(.sl Zq),(.sl Zi),(.sl Zi),Zh,Zf,Zo,yTx]
abbrev ZK0:List Ty:=[.bool,yI,yI,(.sl Zi),yI,yI,.bool,yI,Zg,Zh,Yh,yI,yI,(.arr 2 yI),yI,(.arr 2 Zo),yI,Z1,Zh,Yh,yI,yI,(.arr 2 yI),yI,(.arr 2 Zo),yI,Z1,(.sl Zq),(.sl Zi),(.sl Zi),(.sl Zq),(.sl Zi),(.sl Zi),Zh,Zf,Zo,yTx]
abbrev Zzd:Type:=(Bool×Int×Int×(List Msg)×Int×Corsnedlaw21Play×ZH×Kit×Int×Int×(List Int)×Int×(List Lock)×Int×Sig×ZH×Kit×Int×Int×(List Int)×Int×(List Lock)×Int×Sig×(List Cond)×(List Msg)×(List Msg)×(List Cond)×(List Msg)×(List Msg)×ZH×State×Lock)
abbrev ZDG:Type:=(Bool×Corsnedlaw21Play×ZH×Kit×Int×Int×(List Int)×Int×(List Lock)×Int×Sig×ZH×Kit×Int×Int×(List Int)×Int×(List Lock)×Int×Sig×(List Cond)×(List Msg)×(List Msg)×(List Cond)×(List Msg)×(List Msg)×ZH×State×Lock)
def Zju:List ESh:=[.var (.v Zg) true,.var (.agg [.v Zh,.v Yh,.v yI,.agg [.v yI,.v (.arr 2 yI),.own 3 Zq,.v yI],.v (.arr 2 Zo),.v yI,.own 4 Zi,.own 5 Zi,.v Z1]) true,.var (.agg [.v Zh,.v Yh,.v yI,.agg [.v yI,.v (.arr 2 yI),.own 6 Zq,.v yI],.v (.arr 2 Zo),.v yI,.own 7 Zi,.own 8 Zi,.v Z1]) true,.log Zq 82,.log Zi 84,.log Zi 84,.log Zq 82,.log Zi 84,.log Zi 84,.var (.arr 2 1 [.ref 1 [],.ref 2 []]) true,.var (.v Zh) true,.var (.v Zf) true,.var (.v Zo) true]
abbrev ZDH:List Ty:=[.bool,yI,yI,(.sl Zi),yI,Zg,Zh,Yh,yI,yI,(.arr 2 yI),yI,(.arr 2 Zo),yI,Z1,Zh,Yh,yI,yI,(.arr 2 yI),yI,(.arr 2 Zo),yI,Z1,(.sl Zq),(.sl Zi),(.sl Zi),(.sl Zq),(.sl Zi),(.sl Zi),Zh,Zf,Zo]
abbrev ZDI:List Ty:=[.bool,Zg,Zh,Yh,yI,yI,(.arr 2 yI),yI,(.arr 2 Zo),yI,Z1,Zh,Yh,yI,yI,(.arr 2 yI),yI,(.arr 2 Zo),yI,Z1,(.sl Zq),(.sl Zi),(.sl Zi),(.sl Zq),(.sl Zi),(.sl Zi),Zh,Zf,Zo]
def Yp(F:Nat):ZDE→Option ZDE
 |(a,b,c,d,e,f,g,h,i,j,k,l,m,n,o,p,q,r,t,u,v,w,x,y,z,A,B,C,D,E,G,H,I,J,K,L)=>
 if(c==I.2.2.2.2)=true then
  some (a,b,c,d,e,f,wi (g - b),h,i,j,k,l,m,n,o,p,q,r,t,u,v,w,x,y,z,A,B,C,D,E,G,H,I,J,K,L)
 else
 some (a,b,c,d,e,f,g,h,i,j,k,l,m,n,o,p,q,r,t,u,v,w,x,y,z,A,B,C,D,E,G,H,I,J,K,L)
def WZ:Lp:=⟨[(9,.v .bool),(11,.ref 10 []),(12,.ref 11 []),(13,.v yI),(15,.v yI),(16,.ref 1 []),(20,.v (.sl Zi)),(21,.ref 12 []),(22,.v yI),(23,.ref 13 []),(24,.v yI),(25,.v yI)],ZgV,ZDF,[⟨.normal,[(9,.v .bool),(11,.ref 10 []),(12,.ref 11 []),(13,.v yI),(15,.v yI),(16,.ref 1 []),(20,.v (.sl Zi)),(21,.ref 12 []),(22,.v yI),(23,.ref 13 []),(24,.v yI),(25,.v yI)],ZgV,ZDF⟩],Yp fuel⟩
theorem Zaf:WZ.Is yc (W4 yc 4) (Zfq (Zfq (W2 yc 4 1) 2) 4):=ZHl 0 4 Zm8 [] [] trivial
def Yq(F:Nat):ZDE→Option (ZKU⊕ZKV)
 |(a,b,c,d,e,f,g,h,i,j,k,l,m,n,o,p,q,r,t,u,v,w,x,y,z,A,B,C,D,E,G,H,I,J,K,L)=>
 if(f !=0)=true then
  some (.inl (false,h,i,j,k,l,m,n,o,p,q,r,t,u,v,w,x,y,z,A,B,C,D,E,G,H,I,J,K,L))
 else
 if(inB c 2)=true then
  (I.2.2.1[c.toNat]?).bind λe1404=>
  (Zd0 F L).bind λo1405=>
  (idx d e).bind λe1406=>
  (sign_VerifyM F e1404.1 o1405 e1406.2.2.2.2.2.2.2.1).bind λo1407=>
  if(!o1407)=true then
   some (.inl (false,h,i,j,k,l,m,n,o,p,q,r,t,u,v,w,x,y,z,A,B,C,D,E,G,H,I,J,K,L))
  else
  if(c==I.2.2.2.2)=true then
   if(p !=b)=true then
    some (.inl (false,h,i,j,k,l,m,n,o,p,q,r,t,u,v,w,x,y,z,A,B,C,D,E,G,H,I,J,K,L))
   else
   if(inB c 2)=true then
    (o[c.toNat]?).bind λe1408=>
    (VO F e1408 K).bind λo1409=>
    if(!o1409)=true then
     some (.inl (false,h,i,j,k,l,m,n,o,p,q,r,t,u,v,w,x,y,z,A,B,C,D,E,G,H,I,J,K,L))
    else
    some (.inr (a,b,c,d,e,g,h,i,j,k,l,m,n,o,p,q,r,t,u,v,w,x,y,z,A,B,C,D,E,G,H,I,J,K,L))
   else
   none
  else
  if(inB c 2)=true then
   (o[c.toNat]?).bind λe1410=>
   (VO F e1410 K).bind λo1411=>
   if(!o1411)=true then
    some (.inl (false,h,i,j,k,l,m,n,o,p,q,r,t,u,v,w,x,y,z,A,B,C,D,E,G,H,I,J,K,L))
   else
   some (.inr (a,b,c,d,e,g,h,i,j,k,l,m,n,o,p,q,r,t,u,v,w,x,y,z,A,B,C,D,E,G,H,I,J,K,L))
  else
  none
 else
 none
def W0:Lp:=⟨[(9,.v .bool),(11,.ref 10 []),(12,.ref 11 []),(13,.v yI),(15,.v yI),(16,.ref 1 []),(20,.v (.sl Zi)),(21,.ref 12 []),(22,.v yI),(23,.ref 13 []),(24,.v yI),(25,.v yI)],ZgV,ZDF,[⟨.ret,[(8,.v .bool)],ZgV,ZKW⟩,⟨.normal,[(9,.v .bool),(11,.ref 10 []),(12,.ref 11 []),(13,.v yI),(15,.v yI),(16,.ref 1 []),(20,.v (.sl Zi)),(21,.ref 12 []),(22,.v yI),(23,.ref 13 []),(25,.v yI)],ZgV,ZKX⟩],Yq fuel⟩
theorem Zag:W0.Is yc (W4 yc 4) (Zfq (Zfq (W2 yc 4 1) 2) 6):=ZHl 0 4 Zm8 [] [Zoj,ZcZ,ZdI] ⟨ZkC,ZbO,ZeY,ytt⟩
def ZK(F:Nat):ZHN→Option (ZHN⊕ZKY)
 |(d,e,f,g,h,i,c,b,j,k,l,m,n,o,p,q,r,t,u,v,w,x,y,z,A,B,C,D,E,G,H,I,J,K,L,M,a)=>
 let y1422:Int:=(a.2.1.length:Int)
 if(decide (b < y1422))=true then
  if c=true then
   some (.inl (d,e,f,g,h,i,true,wi (b+1),j,k,l,m,n,o,p,q,r,t,u,v,w,x,y,z,A,B,C,D,E,G,H,I,J,K,L,M,a))
  else
  (idx a.2.1 b).bind λe1423=>
  if(e1423.1==i)=true then
   (idx a.2.1 b).bind λe1424=>
   (VO F e1424.2 M).bind λo1425=>
   some (.inl (d,e,f,g,h,i,o1425,wi (b+1),j,k,l,m,n,o,p,q,r,t,u,v,w,x,y,z,A,B,C,D,E,G,H,I,J,K,L,M,a))
  else
  some (.inl (d,e,f,g,h,i,false,wi (b+1),j,k,l,m,n,o,p,q,r,t,u,v,w,x,y,z,A,B,C,D,E,G,H,I,J,K,L,M,a))
 else
 some (.inr (d,e,f,g,h,c,j,k,l,m,n,o,p,q,r,t,u,v,w,x,y,z,A,B,C,D,E,G,H,I,J,K,L,M,a))
def Va:Lp:=⟨[(9,.v .bool),(11,.ref 10 []),(12,.ref 11 []),(13,.v yI),(15,.v yI),(16,.ref 1 []),(20,.v (.sl Zi)),(21,.ref 12 []),(22,.v yI),(23,.ref 13 []),(25,.v yI),(26,.v .bool),(27,.v yI)],ZgV,ZK0,[⟨.exit 4,[(9,.v .bool),(11,.ref 10 []),(12,.ref 11 []),(13,.v yI),(15,.v yI),(16,.ref 1 []),(20,.v (.sl Zi)),(21,.ref 12 []),(22,.v yI),(26,.v .bool)],ZgV,ZKZ⟩],Zc (ZK fuel) fuel⟩
theorem ZaL:Va.okA yc 4 2:=ZC Zm8 [] [ZdI] ⟨ZeY,ytt⟩
def ZW(F:Nat):Zzd→Option (Zzd⊕ZDG)
 |(h5,h6,h7,h8,h9,i0,i1,i2,i3,i4,i5,i6,i7,i8,i9,j0,j1,j2,j3,j4,j5,j6,j7,j8,j9,k0,k1,k2,k3,k4,k5,k6,k7)=>
 (idx h8 h9).bind λe1400=>
 if(e1400.1 !=13)=true then
  some (.inl (h5,h6,h7,h8,h9,i0,i1,i2,i3,i4,i5,i6,i7,i8,i9,j0,j1,j2,j3,j4,j5,j6,j7,j8,j9,k0,k1,k2,k3,k4,k5,k6,k7))
 else
 (closing_MakeM F k5 k6 i7 i8).bind λo1401=>
 if(inB h7 2)=true then
  (k6.2.1[h7.toNat]?).bind λe1402=>
  (Yp F (h5,h6,h7,h8,h9,o1401.2,e1402,i0,i1,i2,i3,i4,i5,i6,i7,i8,i9,j0,j1,j2,j3,j4,j5,j6,j7,j8,j9,k0,k1,k2,k3,k4,k5,k6,k7,o1401.1)).bind λ(c9,d0,d1,d2,d3,d4,d5,d6,d7,d8,d9,f0,f1,f2,f3,f4,f5,f6,f7,f8,f9,g0,g1,g2,g3,g4,g5,g6,g7,g8,g9,h0,h1,h2,h3,h4)=>
  (Yq F (c9,d0,d1,d2,d3,d4,d5,d6,d7,d8,d9,f0,f1,f2,f3,f4,f5,f6,f7,f8,f9,g0,g1,g2,g3,g4,g5,g6,g7,g8,g9,h0,h1,h2,h3,h4)).bind λo1412=>
  match o1412 with
  |.inl (a,b,c,d,e,f,g,h,i,j,k,l,m,n,o,p,q,r,t,u,v,w,x,y,z,A,B,C,D,_)=>
   some (.inr (a,b,c,d,e,f,g,h,i,j,k,l,m,n,o,p,q,r,t,u,v,w,x,y,z,A,B,C,D))
  |.inr (M,N,O,P,Q,L,R,S,T,U,V,W,X,Y,Z,b0,b1,b2,b3,b4,b5,b6,b7,b8,b9,c0,c1,c2,c3,c4,c5,K,c6,c7,c8)=>
   (K.2.2.2.1[0]?).bind λe1415=>
   (XL F e1415 L).bind λo1416=>
   if(!o1416)=true then
    (Zc (ZK F) F (M,N,O,P,Q,L,true,0,R,S,T,U,V,W,X,Y,Z,b0,b1,b2,b3,b4,b5,b6,b7,b8,b9,c0,c1,c2,c3,c4,c5,K,c6,c7,c8)).bind λ(E,G,H,I,J,a,b,c,d,e,f,g,h,i,j,k,l,m,n,o,p,q,r,t,u,v,w,x,y,z,A,B,C,D,_)=>
    if(!a)=true then
     some (.inr (false,b,c,d,e,f,g,h,i,j,k,l,m,n,o,p,q,r,t,u,v,w,x,y,z,A,B,C,D))
    else
    some (.inl (E,G,H,I,J,b,c,d,e,f,g,h,i,j,k,l,m,n,o,p,q,r,t,u,v,w,x,y,z,A,B,C,D))
   else
   (K.2.2.2.1[1]?).bind λe1427=>
   (XL F e1427 L).bind λo1428=>
   (Zc (ZK F) F (M,N,O,P,Q,L, !o1428,0,R,S,T,U,V,W,X,Y,Z,b0,b1,b2,b3,b4,b5,b6,b7,b8,b9,c0,c1,c2,c3,c4,c5,K,c6,c7,c8)).bind λ(E,G,H,I,J,a,b,c,d,e,f,g,h,i,j,k,l,m,n,o,p,q,r,t,u,v,w,x,y,z,A,B,C,D,_)=>
   if(!a)=true then
    some (.inr (false,b,c,d,e,f,g,h,i,j,k,l,m,n,o,p,q,r,t,u,v,w,x,y,z,A,B,C,D))
   else
   some (.inl (E,G,H,I,J,b,c,d,e,f,g,h,i,j,k,l,m,n,o,p,q,r,t,u,v,w,x,y,z,A,B,C,D))
 else
 none
def VT:Lp:=⟨[(9,.v .bool),(11,.ref 10 []),(12,.ref 11 []),(13,.v yI),(15,.v yI),(16,.ref 1 []),(20,.v (.sl Zi)),(21,.ref 12 []),(22,.v yI)],Zju,ZDH,[⟨.normal,[(9,.v .bool),(11,.ref 10 []),(12,.ref 11 []),(13,.v yI),(15,.v yI),(16,.ref 1 []),(20,.v (.sl Zi)),(21,.ref 12 []),(22,.v yI)],Zju,ZDH⟩,⟨.ret,[(8,.v .bool)],Zju,ZDI⟩],ZW fuel⟩
theorem ZbV:VT.Is yc (W4 yc 4) (Zfq (W2 yc 4 1) 2):=Zst (n:=2) (g:=4) (fi:={ hi:=Zm8,lp:=[(2,Va)],bk:=[(4,WZ),(6,W0)]}) (specs:={ l:=[Zbw,ZcM]}) (okS ⟨Zas,Zfs,ytt⟩) ⟨ZaL,ytt⟩ (hb:=⟨Zaf,Zag,ytt⟩)
def Yn(F:Nat):Zzd→Option (Zzd⊕(ZDG⊕ZDG))
 |(L,M,N,K,J,O,P,Q,R,S,T,U,V,W,X,Y,Z,b0,b1,b2,b3,b4,b5,b6,b7,b8,b9,c0,c1,c2,c3,c4,c5)=>
 if(decide (J < (K.length:Int)))=true then
  (ZW F (L,M,N,K,J,O,P,Q,R,S,T,U,V,W,X,Y,Z,b0,b1,b2,b3,b4,b5,b6,b7,b8,b9,c0,c1,c2,c3,c4,c5)).bind λo1430=>
  match o1430 with
  |.inl (a,b,c,d,e,f,g,h,i,j,k,l,m,n,o,p,q,r,t,u,v,w,x,y,z,A,B,C,D,E,G,H,I)=>
   some (.inl (a,b,c,d,wi (e+1),f,g,h,i,j,k,l,m,n,o,p,q,r,t,u,v,w,x,y,z,A,B,C,D,E,G,H,I))
  |.inr (a,b,c,d,e,f,g,h,i,j,k,l,m,n,o,p,q,r,t,u,v,w,x,y,z,A,B,C,D)=>
   some (.inr (.inl (a,b,c,d,e,f,g,h,i,j,k,l,m,n,o,p,q,r,t,u,v,w,x,y,z,A,B,C,D)))
 else
 some (.inr (.inr (L,O,P,Q,R,S,T,U,V,W,X,Y,Z,b0,b1,b2,b3,b4,b5,b6,b7,b8,b9,c0,c1,c2,c3,c4,c5)))
def Qj:Lp:=⟨[(9,.v .bool),(11,.ref 10 []),(12,.ref 11 []),(13,.v yI),(15,.v yI),(16,.ref 1 []),(20,.v (.sl Zi)),(21,.ref 12 []),(22,.v yI)],Zju,ZDH,[⟨.ret,[(8,.v .bool)],Zju,ZDI⟩,⟨.exit 2,[(9,.v .bool)],Zju,ZDI⟩],Zc (Yn fuel) fuel⟩
theorem ZcH:Qj.okA yc 4 1:=Zlq (fi:={ hi:=Zm8,bk:=[(2,VT)]}) (specs:={ l:=[]}) (okS trivial) (hb:=⟨ZbV,ytt⟩)
def Ym(F:Nat):Zzc→Option Zzc
 |(N,O,P,Q,R,S,T,U,V,W,X,Y,Z,b0,b1,b2,b3,b4,b5,b6,b7,b8,b9,c0,c1,c2,c3,c4,c5,c6,c7,c8)=>
 (idx N R).bind λe1450=>
 if((bits .and .i64 e1450.1 1)==0)=true then
  if(Q==0)=true then
   (ZS F b2 b3 b4 b5 b6 b7 b8 b9 c0 c4 c5 c6).bind λ(_,A,B,C,D,E,G,H,I,J,K,L,M)=>
   (Zv F A B C D E G H I J K L M).bind λ(m,n,o,p,q,r,t,u,v,w,x,y,z)=>
   if(decide ((m.length:Int) > 0))=true then
    if((m.length:Int)!=0)=true then
     let y1453:Int:=yar (e1450.2.2.1.toNat:Int) (m.length:Int)
     (idx m y1453).bind λe1454=>
     (Zs F e1454 n o p q r t u v w x y z).bind λ(_,_,a,b,c,d,e,f,g,h,i,j,k,l)=>
     some (N,O,P,0,R,S,T,U,V,W,X,Y,Z,b0,b1,a,b,c,d,e,f,g,h,i,c1,c2,c3,j,k,l,c7,c8)
    else
    none
   else
   some (N,O,P,0,R,S,T,U,V,W,X,Y,Z,b0,b1,n,o,p,q,r,t,u,v,w,c1,c2,c3,x,y,z,c7,c8)
  else
  if(Q==1)=true then
   (ZS F T U V W X Y Z b0 b1 c1 c2 c3).bind λ(_,A,B,C,D,E,G,H,I,J,K,L,M)=>
   (Zv F A B C D E G H I J K L M).bind λ(m,n,o,p,q,r,t,u,v,w,x,y,z)=>
   if(decide ((m.length:Int) > 0))=true then
    if((m.length:Int)!=0)=true then
     let y1458:Int:=yar (e1450.2.2.1.toNat:Int) (m.length:Int)
     (idx m y1458).bind λe1459=>
     (Zs F e1459 b2 b3 b4 b5 b6 b7 b8 b9 c0 c4 c5 c6).bind λ(_,_,a,b,c,d,e,f,g,h,i,j,k,l)=>
     some (N,O,P,1,R,S,n,o,p,q,r,t,u,v,w,a,b,c,d,e,f,g,h,i,x,y,z,j,k,l,c7,c8)
    else
    none
   else
   some (N,O,P,1,R,S,n,o,p,q,r,t,u,v,w,b2,b3,b4,b5,b6,b7,b8,b9,c0,x,y,z,c4,c5,c6,c7,c8)
  else
  none
 else
 (Zs F (e1450.2.2.2.1,0,0,(0,0,0,0,0),0,[],e1450.2.2.2.2.2.1,e1450.2.2.2.2.2.2,yzz,0,([],[],0),(0,0,0,0,0),(0,0,0,0,0,0),e1450.2.2.2.2.1) b2 b3 b4 b5 b6 b7 b8 b9 c0 c4 c5 c6).bind λ(_,_,a,b,c,d,e,f,g,h,i,j,k,l)=>
 some (N,O,P,Q,R,S,T,U,V,W,X,Y,Z,b0,b1,a,b,c,d,e,f,g,h,i,c1,c2,c3,j,k,l,c7,c8)
def Wy:Lp:=⟨[(3,.v (.sl ZP)),(9,.v .bool),(10,.ref 9 []),(11,.ref 10 []),(12,.ref 11 []),(13,.v yI),(15,.v yI),(16,.ref 2 []),(17,.v yI)],Zqy,ZDD,[⟨.normal,[(3,.v (.sl ZP)),(9,.v .bool),(10,.ref 9 []),(11,.ref 10 []),(12,.ref 11 []),(13,.v yI),(15,.v yI),(16,.ref 2 []),(17,.v yI)],Zqy,ZDD⟩],Ym fuel⟩
theorem Q4:Wy.Is yc (W4 yc 4) (Zfq (W2 yc 4 0) 2):=Zst (n:=0) (g:=4) (fi:={ hi:=Zm8,gh:=[(2,.split 15 [0,1])]}) (specs:={ l:=[Vk,Xt,ZaK]}) (okS ⟨QK,XS,Zeq,ytt⟩)
def ZT(F:Nat):Zzc→Option (Zzc⊕ZKS)
 |(J,K,L,M,I,N,O,P,Q,R,S,T,U,V,W,X,Y,Z,b0,b1,b2,b3,b4,b5,b6,b7,b8,b9,c0,c1,c2,c3)=>
 if(decide (I < (J.length:Int)))=true then
  (Ym F (J,K,L,M,I,N,O,P,Q,R,S,T,U,V,W,X,Y,Z,b0,b1,b2,b3,b4,b5,b6,b7,b8,b9,c0,c1,c2,c3)).bind λ(a,b,c,d,e,f,g,h,i,j,k,l,m,n,o,p,q,r,t,u,v,w,x,y,z,A,B,C,D,E,G,H)=>
  some (.inl (a,b,c,d,wi (e+1),f,g,h,i,j,k,l,m,n,o,p,q,r,t,u,v,w,x,y,z,A,B,C,D,E,G,H))
 else
 some (.inr (K,L,M,N,O,P,Q,R,S,T,U,V,W,X,Y,Z,b0,b1,b2,b3,b4,b5,b6,b7,b8,b9,c0,c1,c2,c3))
def Vx:Lp:=⟨[(3,.v (.sl ZP)),(9,.v .bool),(10,.ref 9 []),(11,.ref 10 []),(12,.ref 11 []),(13,.v yI),(15,.v yI),(16,.ref 2 []),(17,.v yI)],Zqy,ZDD,[⟨.exit 0,[(9,.v .bool),(11,.ref 10 []),(12,.ref 11 []),(13,.v yI),(15,.v yI),(16,.ref 2 [])],Zqy,ZKT⟩],Zc (ZT fuel) fuel⟩
theorem ZbS:Vx.okA yc 4 0:=Zlq (fi:={ hi:=Zm8,bk:=[(2,Wy)],gh:=[(5,.split 15 [0,1])]}) (specs:={ l:=[]}) (okS trivial) (hb:=⟨Q4,ytt⟩)
def Z5(F:Nat):ZDE→Option ZDE
 |(a,b,c,d,e,f,g,h,i,j,k,l,m,n,o,p,q,r,t,u,v,w,x,y,z,A,B,C,D,E,G,H,I,J,K,L)=>
 if(c==I.2.2.2.2)=true then
  some (a,b,c,d,e,f,wi (g - b),h,i,j,k,l,m,n,o,p,q,r,t,u,v,w,x,y,z,A,B,C,D,E,G,H,I,J,K,L)
 else
 some (a,b,c,d,e,f,g,h,i,j,k,l,m,n,o,p,q,r,t,u,v,w,x,y,z,A,B,C,D,E,G,H,I,J,K,L)
def XW:Lp:=⟨[(9,.v .bool),(11,.ref 10 []),(12,.ref 11 []),(13,.v yI),(15,.v yI),(16,.ref 2 []),(20,.v (.sl Zi)),(21,.ref 12 []),(22,.v yI),(23,.ref 13 []),(24,.v yI),(25,.v yI)],ZgV,ZDF,[⟨.normal,[(9,.v .bool),(11,.ref 10 []),(12,.ref 11 []),(13,.v yI),(15,.v yI),(16,.ref 2 []),(20,.v (.sl Zi)),(21,.ref 12 []),(22,.v yI),(23,.ref 13 []),(24,.v yI),(25,.v yI)],ZgV,ZDF⟩],Z5 fuel⟩
theorem V0:XW.Is yc (W4 yc 4) (Zfq (Zfq (W2 yc 4 1) 2) 4):=ZHl 0 4 Zm8 [] [] trivial
def Z6(F:Nat):ZDE→Option (ZKU⊕ZKV)
 |(a,b,c,d,e,f,g,h,i,j,k,l,m,n,o,p,q,r,t,u,v,w,x,y,z,A,B,C,D,E,G,H,I,J,K,L)=>
 if(f !=0)=true then
  some (.inl (false,h,i,j,k,l,m,n,o,p,q,r,t,u,v,w,x,y,z,A,B,C,D,E,G,H,I,J,K,L))
 else
 if(inB c 2)=true then
  (I.2.2.1[c.toNat]?).bind λe1509=>
  (Zd0 F L).bind λo1510=>
  (idx d e).bind λe1511=>
  (sign_VerifyM F e1509.1 o1510 e1511.2.2.2.2.2.2.2.1).bind λo1512=>
  if(!o1512)=true then
   some (.inl (false,h,i,j,k,l,m,n,o,p,q,r,t,u,v,w,x,y,z,A,B,C,D,E,G,H,I,J,K,L))
  else
  if(c==I.2.2.2.2)=true then
   if(z !=b)=true then
    some (.inl (false,h,i,j,k,l,m,n,o,p,q,r,t,u,v,w,x,y,z,A,B,C,D,E,G,H,I,J,K,L))
   else
   if(inB c 2)=true then
    (y[c.toNat]?).bind λe1513=>
    (VO F e1513 K).bind λo1514=>
    if(!o1514)=true then
     some (.inl (false,h,i,j,k,l,m,n,o,p,q,r,t,u,v,w,x,y,z,A,B,C,D,E,G,H,I,J,K,L))
    else
    some (.inr (a,b,c,d,e,g,h,i,j,k,l,m,n,o,p,q,r,t,u,v,w,x,y,z,A,B,C,D,E,G,H,I,J,K,L))
   else
   none
  else
  if(inB c 2)=true then
   (y[c.toNat]?).bind λe1515=>
   (VO F e1515 K).bind λo1516=>
   if(!o1516)=true then
    some (.inl (false,h,i,j,k,l,m,n,o,p,q,r,t,u,v,w,x,y,z,A,B,C,D,E,G,H,I,J,K,L))
   else
   some (.inr (a,b,c,d,e,g,h,i,j,k,l,m,n,o,p,q,r,t,u,v,w,x,y,z,A,B,C,D,E,G,H,I,J,K,L))
  else
  none
 else
 none
def XX:Lp:=⟨[(9,.v .bool),(11,.ref 10 []),(12,.ref 11 []),(13,.v yI),(15,.v yI),(16,.ref 2 []),(20,.v (.sl Zi)),(21,.ref 12 []),(22,.v yI),(23,.ref 13 []),(24,.v yI),(25,.v yI)],ZgV,ZDF,[⟨.ret,[(8,.v .bool)],ZgV,ZKW⟩,⟨.normal,[(9,.v .bool),(11,.ref 10 []),(12,.ref 11 []),(13,.v yI),(15,.v yI),(16,.ref 2 []),(20,.v (.sl Zi)),(21,.ref 12 []),(22,.v yI),(23,.ref 13 []),(25,.v yI)],ZgV,ZKX⟩],Z6 fuel⟩
theorem V1:XX.Is yc (W4 yc 4) (Zfq (Zfq (W2 yc 4 1) 2) 6):=ZHl 0 4 Zm8 [] [Zoj,ZcZ,ZdI] ⟨ZkC,ZbO,ZeY,ytt⟩
def ZA(F:Nat):ZHN→Option (ZHN⊕ZKY)
 |(d,e,f,g,h,i,c,b,j,k,l,m,n,o,p,q,r,t,u,v,w,x,y,z,A,B,C,D,E,G,H,I,J,K,L,M,a)=>
 let y1527:Int:=(a.2.1.length:Int)
 if(decide (b < y1527))=true then
  if c=true then
   some (.inl (d,e,f,g,h,i,true,wi (b+1),j,k,l,m,n,o,p,q,r,t,u,v,w,x,y,z,A,B,C,D,E,G,H,I,J,K,L,M,a))
  else
  (idx a.2.1 b).bind λe1528=>
  if(e1528.1==i)=true then
   (idx a.2.1 b).bind λe1529=>
   (VO F e1529.2 M).bind λo1530=>
   some (.inl (d,e,f,g,h,i,o1530,wi (b+1),j,k,l,m,n,o,p,q,r,t,u,v,w,x,y,z,A,B,C,D,E,G,H,I,J,K,L,M,a))
  else
  some (.inl (d,e,f,g,h,i,false,wi (b+1),j,k,l,m,n,o,p,q,r,t,u,v,w,x,y,z,A,B,C,D,E,G,H,I,J,K,L,M,a))
 else
 some (.inr (d,e,f,g,h,c,j,k,l,m,n,o,p,q,r,t,u,v,w,x,y,z,A,B,C,D,E,G,H,I,J,K,L,M,a))
def X6:Lp:=⟨[(9,.v .bool),(11,.ref 10 []),(12,.ref 11 []),(13,.v yI),(15,.v yI),(16,.ref 2 []),(20,.v (.sl Zi)),(21,.ref 12 []),(22,.v yI),(23,.ref 13 []),(25,.v yI),(26,.v .bool),(27,.v yI)],ZgV,ZK0,[⟨.exit 4,[(9,.v .bool),(11,.ref 10 []),(12,.ref 11 []),(13,.v yI),(15,.v yI),(16,.ref 2 []),(20,.v (.sl Zi)),(21,.ref 12 []),(22,.v yI),(26,.v .bool)],ZgV,ZKZ⟩],Zc (ZA fuel) fuel⟩
theorem Qk:X6.okA yc 4 2:=ZC Zm8 [] [ZdI] ⟨ZeY,ytt⟩
def ZF(F:Nat):Zzd→Option (Zzd⊕ZDG)
 |(h5,h6,h7,h8,h9,i0,i1,i2,i3,i4,i5,i6,i7,i8,i9,j0,j1,j2,j3,j4,j5,j6,j7,j8,j9,k0,k1,k2,k3,k4,k5,k6,k7)=>
 (idx h8 h9).bind λe1505=>
 if(e1505.1 !=13)=true then
  some (.inl (h5,h6,h7,h8,h9,i0,i1,i2,i3,i4,i5,i6,i7,i8,i9,j0,j1,j2,j3,j4,j5,j6,j7,j8,j9,k0,k1,k2,k3,k4,k5,k6,k7))
 else
 (closing_MakeM F k5 k6 j6 j7).bind λo1506=>
 if(inB h7 2)=true then
  (k6.2.1[h7.toNat]?).bind λe1507=>
  (Z5 F (h5,h6,h7,h8,h9,o1506.2,e1507,i0,i1,i2,i3,i4,i5,i6,i7,i8,i9,j0,j1,j2,j3,j4,j5,j6,j7,j8,j9,k0,k1,k2,k3,k4,k5,k6,k7,o1506.1)).bind λ(c9,d0,d1,d2,d3,d4,d5,d6,d7,d8,d9,f0,f1,f2,f3,f4,f5,f6,f7,f8,f9,g0,g1,g2,g3,g4,g5,g6,g7,g8,g9,h0,h1,h2,h3,h4)=>
  (Z6 F (c9,d0,d1,d2,d3,d4,d5,d6,d7,d8,d9,f0,f1,f2,f3,f4,f5,f6,f7,f8,f9,g0,g1,g2,g3,g4,g5,g6,g7,g8,g9,h0,h1,h2,h3,h4)).bind λo1517=>
  match o1517 with
  |.inl (a,b,c,d,e,f,g,h,i,j,k,l,m,n,o,p,q,r,t,u,v,w,x,y,z,A,B,C,D,_)=>
   some (.inr (a,b,c,d,e,f,g,h,i,j,k,l,m,n,o,p,q,r,t,u,v,w,x,y,z,A,B,C,D))
  |.inr (M,N,O,P,Q,L,R,S,T,U,V,W,X,Y,Z,b0,b1,b2,b3,b4,b5,b6,b7,b8,b9,c0,c1,c2,c3,c4,c5,K,c6,c7,c8)=>
   (K.2.2.2.1[0]?).bind λe1520=>
   (XL F e1520 L).bind λo1521=>
   if(!o1521)=true then
    (Zc (ZA F) F (M,N,O,P,Q,L,true,0,R,S,T,U,V,W,X,Y,Z,b0,b1,b2,b3,b4,b5,b6,b7,b8,b9,c0,c1,c2,c3,c4,c5,K,c6,c7,c8)).bind λ(E,G,H,I,J,a,b,c,d,e,f,g,h,i,j,k,l,m,n,o,p,q,r,t,u,v,w,x,y,z,A,B,C,D,_)=>
    if(!a)=true then
     some (.inr (false,b,c,d,e,f,g,h,i,j,k,l,m,n,o,p,q,r,t,u,v,w,x,y,z,A,B,C,D))
    else
    some (.inl (E,G,H,I,J,b,c,d,e,f,g,h,i,j,k,l,m,n,o,p,q,r,t,u,v,w,x,y,z,A,B,C,D))
   else
   (K.2.2.2.1[1]?).bind λe1532=>
   (XL F e1532 L).bind λo1533=>
   (Zc (ZA F) F (M,N,O,P,Q,L, !o1533,0,R,S,T,U,V,W,X,Y,Z,b0,b1,b2,b3,b4,b5,b6,b7,b8,b9,c0,c1,c2,c3,c4,c5,K,c6,c7,c8)).bind λ(E,G,H,I,J,a,b,c,d,e,f,g,h,i,j,k,l,m,n,o,p,q,r,t,u,v,w,x,y,z,A,B,C,D,_)=>
   if(!a)=true then
    some (.inr (false,b,c,d,e,f,g,h,i,j,k,l,m,n,o,p,q,r,t,u,v,w,x,y,z,A,B,C,D))
   else
   some (.inl (E,G,H,I,J,b,c,d,e,f,g,h,i,j,k,l,m,n,o,p,q,r,t,u,v,w,x,y,z,A,B,C,D))
 else
 none
def Wz:Lp:=⟨[(9,.v .bool),(11,.ref 10 []),(12,.ref 11 []),(13,.v yI),(15,.v yI),(16,.ref 2 []),(20,.v (.sl Zi)),(21,.ref 12 []),(22,.v yI)],Zju,ZDH,[⟨.normal,[(9,.v .bool),(11,.ref 10 []),(12,.ref 11 []),(13,.v yI),(15,.v yI),(16,.ref 2 []),(20,.v (.sl Zi)),(21,.ref 12 []),(22,.v yI)],Zju,ZDH⟩,⟨.ret,[(8,.v .bool)],Zju,ZDI⟩],ZF fuel⟩
theorem Q5:Wz.Is yc (W4 yc 4) (Zfq (W2 yc 4 1) 2):=Zst (n:=2) (g:=4) (fi:={ hi:=Zm8,lp:=[(2,X6)],bk:=[(4,XW),(6,XX)]}) (specs:={ l:=[Zbw,ZcM]}) (okS ⟨Zas,Zfs,ytt⟩) ⟨Qk,ytt⟩ (hb:=⟨V0,V1,ytt⟩)
def Yf(F:Nat):Zzd→Option (Zzd⊕(ZDG⊕ZDG))
 |(L,M,N,K,J,O,P,Q,R,S,T,U,V,W,X,Y,Z,b0,b1,b2,b3,b4,b5,b6,b7,b8,b9,c0,c1,c2,c3,c4,c5)=>
 if(decide (J < (K.length:Int)))=true then
  (ZF F (L,M,N,K,J,O,P,Q,R,S,T,U,V,W,X,Y,Z,b0,b1,b2,b3,b4,b5,b6,b7,b8,b9,c0,c1,c2,c3,c4,c5)).bind λo1535=>
  match o1535 with
  |.inl (a,b,c,d,e,f,g,h,i,j,k,l,m,n,o,p,q,r,t,u,v,w,x,y,z,A,B,C,D,E,G,H,I)=>
   some (.inl (a,b,c,d,wi (e+1),f,g,h,i,j,k,l,m,n,o,p,q,r,t,u,v,w,x,y,z,A,B,C,D,E,G,H,I))
  |.inr (a,b,c,d,e,f,g,h,i,j,k,l,m,n,o,p,q,r,t,u,v,w,x,y,z,A,B,C,D)=>
   some (.inr (.inl (a,b,c,d,e,f,g,h,i,j,k,l,m,n,o,p,q,r,t,u,v,w,x,y,z,A,B,C,D)))
 else
 some (.inr (.inr (L,O,P,Q,R,S,T,U,V,W,X,Y,Z,b0,b1,b2,b3,b4,b5,b6,b7,b8,b9,c0,c1,c2,c3,c4,c5)))
def Vy:Lp:=⟨[(9,.v .bool),(11,.ref 10 []),(12,.ref 11 []),(13,.v yI),(15,.v yI),(16,.ref 2 []),(20,.v (.sl Zi)),(21,.ref 12 []),(22,.v yI)],Zju,ZDH,[⟨.ret,[(8,.v .bool)],Zju,ZDI⟩,⟨.exit 2,[(9,.v .bool)],Zju,ZDI⟩],Zc (Yf fuel) fuel⟩
theorem ZbT:Vy.okA yc 4 1:=Zlq (fi:={ hi:=Zm8,bk:=[(2,Wz)]}) (specs:={ l:=[]}) (okS trivial) (hb:=⟨Q5,ytt⟩)
def YM(F:Nat)(a0:Corsnedlaw21Play)(a1:UInt8)(a2:Int)(a3:(List Ye)):Option (Bool):=
 ((some true)).bind λo1329=>
 (VN F a0 a2).bind λ(d0,d1,V,U,W,X,Y,Z,b0,b1,b2,b3,b4,b5,b6,b7,b8,b9,c0,c1,c2,c3,c4,c5,c6,c7,c8,c9)=>
 if(decide ((a3.length:Int) > 20))=true then
  some o1329
 else
 if(!U)=true then
  some false
 else
 if(((a1 % 2).toNat:Int)==0)=true then
  (Zc (ZY F) F (a3,o1329,V,0,0,a0,W,X,Y,Z,b0,b1,b2,b3,b4,b5,b6,b7,b8,b9,c0,c1,c2,c3,c4,c5,c6,c7,c8,c9,d0,d1)).bind λ(D,E,B,G,o,p,q,r,t,u,v,w,x,H,I,J,K,L,M,N,O,P,y,z,A,Q,R,S,C,T)=>
  (Zv F o p q r t u v w x y z A).bind λ(b,c,d,e,f,g,h,i,j,k,l,m,n)=>
  if(inB B 2)=true then
   (C.2.2.1[B.toNat]?).bind λe1360=>
   (XJ F e1360.2.1).bind λo1361=>
   (Zc (Yn F) F (D,E,B,b,0,G,c,d,e,f,g,h,i,j,k,H,I,J,K,L,M,N,O,P,l,m,n,Q,R,S,C,T,o1361)).bind λo1433=>
   match o1433 with
   |.inl (a,_,_,_,_,_,_,_,_,_,_,_,_,_,_,_,_,_,_,_,_,_,_,_,_,_,_,_,_)=>
    some a
   |.inr (a,_,_,_,_,_,_,_,_,_,_,_,_,_,_,_,_,_,_,_,_,_,_,_,_,_,_,_,_)=>
    some a
  else
  none
 else
 if(((a1 % 2).toNat:Int)==1)=true then
  (Zc (ZT F) F (a3,o1329,V,1,0,a0,W,X,Y,Z,b0,b1,b2,b3,b4,b5,b6,b7,b8,b9,c0,c1,c2,c3,c4,c5,c6,c7,c8,c9,d0,d1)).bind λ(D,E,B,G,H,I,J,K,L,M,N,O,P,o,p,q,r,t,u,v,w,x,Q,R,S,y,z,A,C,T)=>
  (Zv F o p q r t u v w x y z A).bind λ(b,c,d,e,f,g,h,i,j,k,l,m,n)=>
  if(inB B 2)=true then
   (C.2.2.1[B.toNat]?).bind λe1465=>
   (XJ F e1465.2.1).bind λo1466=>
   (Zc (Yf F) F (D,E,B,b,0,G,H,I,J,K,L,M,N,O,P,c,d,e,f,g,h,i,j,k,Q,R,S,l,m,n,C,T,o1466)).bind λo1538=>
   match o1538 with
   |.inl (a,_,_,_,_,_,_,_,_,_,_,_,_,_,_,_,_,_,_,_,_,_,_,_,_,_,_,_,_)=>
    some a
   |.inr (a,_,_,_,_,_,_,_,_,_,_,_,_,_,_,_,_,_,_,_,_,_,_,_,_,_,_,_,_)=>
    some a
  else
  none
 else
 none
def Zgd:Fs yc:=⟨4,[.v Zg,.v .u8,.v (.int .u16),.v (.sl ZP)],[],[Zg,.u8,(.int .u16),(.sl ZP)],[⟨.ret,[(0,.v .bool)],[],[.bool]⟩],λx=>YM fuel x.1 x.2.1 x.2.2.1 x.2.2.2⟩
theorem Ze0:Zgd.Ok:=ZuX (fi:={ hi:=Zm8,lp:=[(0,Qi),(0,Vx),(1,Qj),(1,Vy)],gh:=[(10,.split 15 [0,1])]}) (specs:={ l:=[ZIb,Zeo,Xt,Zm2]}) (okS ⟨ZJO,ZkW,XS,ZkN,ytt⟩) ⟨ZcG,ZbS,ZcH,ZbT,ytt⟩
end
end Go.Proofs.YtmkgbalfkhaflaaGreat
end
section
set_option maxRecDepth 4000
namespace Go.Proofs.YtmkgbalfkhaflaaGreat
open Go Go.Ev
theorem Zm9(p:UInt64):∃o,ZaW fuel p=some o∧o.length=8:=by
 unfold ZaW
 obtain⟨x,h1,h2⟩:=Z8 (step:=QB fuel) 8 (λk s=>∃c,s=(p,(8:Int),(k:Int),c)∧c.length=8) (λx=>x.length=8) (i:=(p,(8:Int),(0:Int),([0,0,0,0,0,0,0,0]:List UInt8))) ⟨_,rfl,rfl⟩ (by omega) (by
  rintro k _ hk ⟨c,rfl,hc⟩;left;obtain⟨e,he,_⟩:=Zl (l:=c) (k:=k) (by omega);unfold QB;dsimp only;rw[if_pos (decide_eq_true (by omega)),ZD (z:=8*(k:Int)) (by omega) (by omega),ZD (z:=56 - 8*(k:Int)) (by omega) (by omega),if_pos (decide_eq_true (by omega)),if_pos (Xf (by omega) (by omega)),ybq,Nat.zero_add,he,ya,Zr (by omega)];exact⟨_,rfl,_,rfl,by rw[List.length_set];exact hc⟩) (by
  rintro _ ⟨c,rfl,hc⟩;unfold QB;dsimp only;rw[if_neg (ynd (by omega))];exact⟨_,rfl,hc⟩)
 rw[h1,ya];exact⟨_,rfl,by simp[h2]⟩
theorem Zze(r p:UInt64){m:List UInt8}(hm:m.length=32):∃k,VS fuel r p m=some k:=by
 unfold VS;obtain⟨a,a1,a2⟩:=Zm9 r;obtain⟨b,b1,b2⟩:=Zm9 p
 obtain⟨c,c1,c2⟩:=Zw5 (s:=ZH7) (ls:=[a,b,m]) (by decide) (by simp) (by
  intro l hl;simp only[ybg,yct,or_false] at hl;rcases hl with rfl|rfl|rfl <;> omega)
 obtain⟨k,k1,k2⟩:=ZBY c2;rw[a1,ya,b1,ya,c1,ya,k1,ya];exact⟨_,rfl⟩
theorem tk1:tk 1=1:=Zu9 ZAu
theorem ZJR(n:Nat):sc 1 n=1:=by
 rw[←ycf,Zw3,tk1,show(1:UInt64).toNat=1 from rfl,Nat.one_pow]
 rfl
theorem ZJS(p:UInt64)(h:Q7 p.toNat):ad p 1=p:=by
 rw[←ycf,ZJB,Zu9 h,tk1];show p.toNat*1 % mdl=_;rw[Nat.mul_one,yah h.2.1]
instance(k:UInt64):Decidable (Key k):=by unfold Key;infer_instance
theorem ZHO(k:UInt64):Zlx fuel k=some (decide (Key k)):=by
 unfold Zlx;rw[Zpv,ya];by_cases h:k.toNat < ord
 ·rw[if_pos (decide_eq_true h)];congr 1;by_cases h0:k=0
  ·subst h0;rw[decide_eq_false (by unfold Key;exact λh=>absurd h.1 (by decide))];rfl
  ·have:0 < k.toNat:=by
    rcases Nat.eq_zero_or_pos k.toNat with h1|h1
    ·exact absurd (ycf.1 h1) h0
    ·exact h1
   rw[decide_eq_true (p:=Key k) ⟨this,h⟩];exact bne_iff_ne.2 h0
 ·rw[if_neg (by rw[decide_eq_true_iff];exact h),decide_eq_false (λhk=>h hk.2)]
theorem Zxe{k:UInt64}(hk:Key k){m:List UInt8}(hm:m.length=32):∃s,sign_SignM fuel k m=some s∧sign_VerifyM fuel (B k.toNat) m s=some true:=by
 obtain⟨a,a1,a2⟩:=Zm9 k
 obtain⟨c,c1,c2⟩:=Zw5 (s:=ZH8) (ls:=[a,m]) (by decide) (by simp) (by
  intro l hl;simp only[ybg,yct,or_false] at hl;rcases hl with rfl|rfl <;> omega)
 obtain⟨n,n1,n2⟩:=ZBY c2;obtain⟨x,x1⟩:=Zze (B n.toNat) (B k.toNat) hm;refine⟨(B n.toNat,yad ((n.toNat+(yad (x.toNat*k.toNat % ord)).toNat) % ord)), ?_, ?_⟩
 ·unfold sign_SignM;rw[ZHO,ya,decide_eq_true hk,if_neg (by decide),a1,ya,c1,ya,n1,ya];unfold ZiI;rw[Zc0,ya,ZJC,ZJS _ (Zud _),ya,Zc0,ya,x1,ya,ZHC,ya,ZHB,ya];rfl
 ·unfold sign_VerifyM ZbN
  have hr:QQ fuel (yad ((n.toNat+(yad (x.toNat*k.toNat % ord)).toNat) % ord))=some true:=by
   rw[Zpv,Zw4,decide_eq_true Ztq]
  dsimp only;rw[if_neg (by rw[beq_iff_eq];exact ZB2 hk),Zad,decide_eq_true (Zud _),ya,if_neg (by decide),Zad,decide_eq_true (show Q7 (1:UInt64).toNat from ZAu),ya,if_neg (by decide),Zad,decide_eq_true (Zud _),ya,if_neg (by decide),hr,ya,if_neg (by decide),x1,ya,Ztp,ya,ZFZ,ya,ZAG (by simp),ya,Zc0,ya,ya]
  refine congrArg some ?_;rw[beq_iff_eq,ZKE,Zw4,ZLt, ←ycf,Zqw]
  have e1:(tk (sc 1 (ord - 1))).toNat=1:=by
   rw[ZJR,tk1];rfl
  unfold ZlV ZlV ZlV ZlV;rw[Ztl (Zly _),Zu9 (Zud _),Zu9 (Zud _),e1,Nat.one_mul,Nat.mul_one,Zqw,Zqw,Nat.mod_mod,Nat.mod_mod, ←Nat.mul_mod, ←Nat.pow_add];rw[ybi k.toNat, ←Zqw, ←Zqw, ←ZFX,Nat.add_mod_mod,ZFX]
theorem ite_some{α:Type}{c:Prop}[Decidable c]{a b:Option α}(h1:∃x,a=some x)(h2:∃x,b=some x):∃x,(if c then a else b)=some x:=by
 split
 ·exact h1
 ·exact h2
theorem ZAP(p:UInt64){m:List UInt8}(hm:m.length=32)(s:Sig):∃b,sign_VerifyM fuel p m s=some b:=by
 obtain⟨x,x1⟩:=Zze s.1 p hm
 have h:∃b,ZbN fuel p m 1 s=some b:=by
  unfold ZbN;rw[Zad,Zad,Zad,Zpv,ya,ya,ya,ya,x1,ya,Ztp,ya,ZFZ,ya,ZAG (by simp),ya,Zc0,ya];exact ite_some ⟨_,rfl⟩ (ite_some ⟨_,rfl⟩ (ite_some ⟨_,rfl⟩ (ite_some ⟨_,rfl⟩ (ite_some ⟨_,rfl⟩ ⟨_,rfl⟩))))
 obtain⟨b,hb⟩:=h;unfold sign_VerifyM;rw[hb,ya];exact⟨_,rfl⟩
theorem ZHP{l:Lock}(h0:0 < l.length)(h1:l.length≤4)(h:∀b,b∈l→ZDq b∧ZDr b):LockOk l∧LockPt l:=⟨⟨h0,h1,λb hb=>(h b hb).1⟩,λb hb=>(h b hb).2⟩
theorem nox:(0:UInt64)≠0→Q7 (0:UInt64).toNat:=λh=>absurd rfl h
theorem set_same{α:Type}{l:List α}{k:Nat}{e:α}(h:l[k]? =some e):l.set k e=l:=by
 apply List.ext_getElem?;intro j;by_cases hj:j=k
 ·subst hj;rw[ycr (yr.1 h).1,h]
 ·rw[List.getElem?_set_ne (Ne.symm hj)]
def rat(m:Msg):Int:=m.2.2.2.2.2.2.1
def ZHQ(m:Msg):Sig:=m.2.2.2.2.2.2.2.1
def byM(g:Sig):Msg:=(13,0,0,(0,0,0,0,0),0,[],0,g,yzz,0,([],[],0),(0,0,0,0,0),(0,0,0,0,0,0),[])
def lkp(me:Int)(own l:Lock):List Lock:=if me=0 then[own,l] else[l,own]
theorem Zxf{me:Int}(h:me=0∨me=1)(own l:Lock):(lkp me own l)[me.toNat]? =some own:=by rcases h with rfl|rfl <;> rfl
theorem Zxg{me:Int}(h:me=0∨me=1)(own l l':Lock):(lkp me own l).set (wi (1 - me)).toNat l'=lkp me own l'∧(lkp me own l)[(wi (1 - me)).toNat]? =some l∧inB (wi (1 - me)) 2=true∧wi (1 - me)=1 - me:=by
 rcases h with rfl|rfl <;> exact⟨rfl,rfl,rfl,rfl⟩
theorem ZDJ(a b:List UInt8):((bytesOf a).data.toList==(bytesOf b).data.toList)=decide (a=b):=by
 have:∀l:List UInt8,(bytesOf l).data.toList=l:=λl=>by simp[bytesOf]
 rw[this,this];by_cases h:a=b
 ·subst h;simp
 ·rw[decide_eq_false h,beq_eq_false_iff_ne];exact h
theorem Zpz(a b:List UInt8):ZeX fuel a b=some (decide (a=b)):=by
 unfold ZeX;rw[ZDJ]
theorem Zzf{l:List Msg}(hl:l.length≤1000)(hm:∀m,m∈l→(byt m).length≤1000000000):∀m:Msg,(byt m).length≤1000000000→(YH l m).length≤1001∧∀x,x∈YH l m→(byt x).length≤1000000000:=by
 intro m hm2;refine⟨by have:=ZlA l m;omega,λx hx=> ?_⟩;unfold YH at hx;split at hx
 ·exact hm x hx
 ·rcases ych.1 hx with hx|hx
  ·exact hm x hx
  ·rw[yaq.1 hx];exact hm2
def Zjv(op me fee:Int)(own:Lock)(g:Sig)(said:List Msg):List Msg:=YH (YH said (YP (rateOf op me fee) (WY own))) (byM g)
theorem ZDK{A:Int}{k0 k1:Kit}{op:Int}{s:State}{me:Int}(hme:me=0∨me=1)(hn:s.2.2.1=[]){k:Kit}{own l:Lock}(g0:LockOk own)(g1:LockPt own){said hd:List Msg}(h1:said.length≤100)(h2:∀m,m∈said→(byt m).length≤1000000000){fee:Int}{t:Tx}{g:Sig}(sg:Sig)
 (hmk:closing_MakeM fuel (Z9 A k0 k1 op) s (lkp me own l) fee=some (t,0)) (hsg:YY fuel k t=some g):
 ((ZS fuel (Z9 A k0 k1 op) k me s.1 s.2.1 s.2.2.2 (lkp me own l) fee sg [] said hd).bind λx=>
   (ZV fuel x.2.1 x.2.2.1 x.2.2.2.1 x.2.2.2.2.1 x.2.2.2.2.2.1 x.2.2.2.2.2.2.1 x.2.2.2.2.2.2.2.1 x.2.2.2.2.2.2.2.2.1 x.2.2.2.2.2.2.2.2.2.1 x.2.2.2.2.2.2.2.2.2.2.1 x.2.2.2.2.2.2.2.2.2.2.2.1 x.2.2.2.2.2.2.2.2.2.2.2.2).bind λt=>
   (YY fuel x.2.2.1 t).bind λg=>
   (Ys fuel (byM g) x.2.1 x.2.2.1 x.2.2.2.1 x.2.2.2.2.1 x.2.2.2.2.2.1 x.2.2.2.2.2.2.1 x.2.2.2.2.2.2.2.1 x.2.2.2.2.2.2.2.2.1 x.2.2.2.2.2.2.2.2.2.1 x.2.2.2.2.2.2.2.2.2.2.1 x.2.2.2.2.2.2.2.2.2.2.2.1 x.2.2.2.2.2.2.2.2.2.2.2.2).bind λy=>
   (Zv fuel y.1 y.2.1 y.2.2.1 y.2.2.2.1 y.2.2.2.2.1 y.2.2.2.2.2.1 y.2.2.2.2.2.2.1 y.2.2.2.2.2.2.2.1 y.2.2.2.2.2.2.2.2.1 y.2.2.2.2.2.2.2.2.2.1 y.2.2.2.2.2.2.2.2.2.2.1 y.2.2.2.2.2.2.2.2.2.2.2).bind λz=>
   some (z.1,(0:Int),z.2))=
 some (Zd4 (Zjv op me fee own g said),(0:Int),Z9 A k0 k1 op,k,me,s.1,s.2.1,s.2.2.2,lkp me own l,fee,sg,([]:List Cond),Zjv op me fee own g said,hd):=by
 have hb:(byt (YP (rateOf op me fee) (WY own))).length≤1000000000:=by
  have:=Za1 g0;show(WY own).length≤_;omega
 have hb2:(byt (byM g)).length≤1000000000:=by show(0:Nat)≤_;omega
 obtain⟨a1,a2⟩:=Zzf (by omega) h2 _ hb
 obtain⟨b1,b2⟩:(Zjv op me fee own g said).length≤100000∧∀x,x∈Zjv op me fee own g said→(byt x).length≤1000000000:=by
  unfold Zjv;have:=ZlA said (YP (rateOf op me fee) (WY own));obtain⟨q1,q2⟩:=Zzf (by omega) a2 _ hb2;exact⟨by omega,q2⟩
 rw[Zzb hme (Zxf hme own l) g0 g1 (by omega) h2,ya]
 have hc:ZV fuel (Z9 A k0 k1 op) k me s.1 s.2.1 s.2.2.2 (lkp me own l) fee sg [] (YH said (YP (rateOf op me fee) (WY own))) hd=some t:=by
  unfold ZV Xs;rw[show(s.1,s.2.1,([]:List Cond),s.2.2.2)=s by rw[←hn],hmk,ya];rfl
 dsimp only;rw[hc,ya,hsg,ya,ZAO (by omega) hb2,ya];dsimp only;rw[show YH (YH said (YP (rateOf op me fee) (WY own))) (byM g)=Zjv op me fee own g said from rfl,Zh4 b1 b2,ya]
theorem Zxh{A:Int}{k0 k1:Kit}{op:Int}(ho:op=0∨op=1){s:State}{h0 h1:Int}(hv:s.2.1=[h0,h1])(hn:s.2.2.1=[])(me fee:Int):YG fuel (Z9 A k0 k1 op) (s.1,s.2.1,([]:List Cond),s.2.2.2) me fee=some (fitB op h0 h1 me fee):=by
 rw[show(s.1,s.2.1,([]:List Cond),s.2.2.2)=s by rw[←hn],ZCj ho hv]
theorem ZGo{A:Int}{k0 k1:Kit}{op:Int}(ho:op=0∨op=1){s:State}{h0 h1:Int}(hv:s.2.1=[h0,h1])(hn:s.2.2.1=[]){me:Int}(hme:me=0∨me=1){k:Kit}{own l l':Lock}(g0:LockOk own)(g1:LockPt own){m:Msg}(hm:m.1=12)(hmb:(byt m).length≤1000000000)
 (hr:lock_ReadM fuel (byt m)=some (l,true)) (hfit:fitB op h0 h1 (1 - me) (rat m)=true) {said hd:List Msg} (hf:fnd hd 12=none∨∃o,fnd hd 12=some o∧byt o=byt m∧rat o=rat m)
 (h1':said.length≤100) (h2:∀m,m∈said→(byt m).length≤1000000000) (h3:hd.length≤100) {fee fee':Int} (hfe:fee'=if 1 - me=op then rat m else fee) {t:Tx} {g:Sig} (sg:Sig)
 (hmk:closing_MakeM fuel (Z9 A k0 k1 op) s (lkp me own l) fee'=some (t,0)) (hsg:YY fuel k t=some g):
 Zs fuel m (Z9 A k0 k1 op) k me s.1 s.2.1 s.2.2.2 (lkp me own l') fee sg [] said hd=
  some (Zd4 (Zjv op me fee' own g said),(0:Int),Z9 A k0 k1 op,k,me,s.1,s.2.1,s.2.2.2,lkp me own l,fee',sg,([]:List Cond),Zjv op me fee' own g said,YH hd m):=by
 obtain⟨e1,e2,e3,e4⟩:=Zxg hme own l' l;have hO:(Z9 A k0 k1 op).2.2.2.2=op:=rfl;have hon:YK fuel m hd=some (YH hd m):=Zty (by omega) hmb;have hr:lock_ReadM fuel m.2.2.2.2.2.2.2.2.2.2.2.2.2=some (l,true):=hr;have tl:=ZDK (A:=A) (k0:=k0) (k1:=k1) (op:=op) (hd:=YH hd m) hme hn g0 g1 h1' h2 sg hmk hsg;unfold Zs;rw[Zc1 (by omega),ya,if_pos (by rw[hm];rfl),hr,ya];rw[e1,e2,e3,e4,hO];rcases hf with hf|⟨o,hf,hb,hra⟩
 ·rw[hf,if_neg (by simp),if_neg (by simp),Zxh ho hv hn];rw[show m.2.2.2.2.2.2.1=rat m from rfl,hfit,ya,if_neg (by decide),hon,ya,if_pos rfl,ya]
  by_cases hp:1 - me=op
  ·rw[if_pos hp] at hfe;subst hfe;rw[if_pos (by rw[hp];exact beq_self_eq_true _)];exact tl
  ·rw[if_neg hp] at hfe;subst hfe;rw[if_neg (by rw[beq_iff_eq];exact hp)];exact tl
 ·rw[hf,if_pos (by rfl)];rw[show(Option.getD (some o) ZGl,Option.isSome (some o)).1.2.2.2.2.2.2.2.2.2.2.2.2.2=byt m from hb,show m.2.2.2.2.2.2.2.2.2.2.2.2.2=byt m from rfl,Zpz,decide_eq_true rfl,ya,if_neg (by decide)]
  rw[show(Option.getD (some o) ZGl,Option.isSome (some o)).1.2.2.2.2.2.2.1=rat m from hra,show m.2.2.2.2.2.2.1=rat m from rfl,if_neg (by simp),if_neg (by simp),Zxh ho hv hn]
  rw[hfit,ya,if_neg (by decide),hon,ya,if_pos rfl,ya];by_cases hp:1 - me=op
  ·rw[if_pos hp] at hfe;subst hfe;rw[if_pos (by rw[hp];exact beq_self_eq_true _)];exact tl
  ·rw[if_neg hp] at hfe;subst hfe;rw[if_neg (by rw[beq_iff_eq];exact hp)];exact tl
theorem ZJT{A:Int}{k0 k1:Kit}{op:Int}{s:State}(hn:s.2.2.1=[]){me:Int}(hme:me=0∨me=1){k:Kit}{lk:List Lock}{m:Msg}(hm:m.1=13)(hmb:(byt m).length≤1000000000)
 {said hd:List Msg} {o:Msg} (hf:fnd hd 12=some o) (h3:hd.length≤100) {fee:Int} {t:Tx} {id:List UInt8} (sg:Sig)
 (hmk:closing_MakeM fuel (Z9 A k0 k1 op) s lk fee=some (t,0)) (hid:Zd0 fuel t=some id) {v:Bool} (hve:sign_VerifyM fuel (B (Zxd k0 k1 (1 - me)).1.toNat) id (ZHQ m)=some v):
 ∃r e,Zs fuel m (Z9 A k0 k1 op) k me s.1 s.2.1 s.2.2.2 lk fee sg [] said hd=
  some (r,e,Z9 A k0 k1 op,k,me,s.1,s.2.1,s.2.2.2,lk,fee,(if v=true then ZHQ m else sg),([]:List Cond),said,(if v=true then YH hd m else hd)):=by
 have hon:YK fuel m hd=some (YH hd m):=Zty (by omega) hmb
 have hc:ZV fuel (Z9 A k0 k1 op) k me s.1 s.2.1 s.2.2.2 lk fee sg [] said hd=some t:=by
  unfold ZV Xs;rw[show(s.1,s.2.1,([]:List Cond),s.2.2.2)=s by rw[←hn],hmk,ya];rfl
 obtain⟨e1,e2,e3,e4⟩:=Zxg hme ([]:Lock) [] [];have hB:(Z9 A k0 k1 op).2.2.1[(1 - me).toNat]? =some (ZJ (Zxd k0 k1 (1 - me))):=by rcases hme with rfl|rfl <;> rfl
 unfold Zs;rw[Zc1 (by omega),ya,if_neg (by rw[hm];decide),if_pos (by rw[hm];rfl),hf,if_neg (by simp),e3,e4,hB,if_pos rfl,ya,hc,ya,hid,ya];rw[show(ZJ (Zxd k0 k1 (1 - me))).1=B (Zxd k0 k1 (1 - me)).1.toNat from rfl,show m.2.2.2.2.2.2.2.1=ZHQ m from rfl,hve,ya]
 cases v with
 |false=>rw[if_pos (by decide)];exact⟨_,_,rfl⟩
 |true=>rw[if_neg (by decide),hon,ya];exact⟨_,_,rfl⟩
theorem ZDL{c:ZH}{k:Kit}{me no:Int}{hv:List Int}{r:Int}{lk:List Lock}{fee:Int}{sg:Sig}{cs:List Cond}{m:Msg}(hm:m.1=13){said hd:List Msg}(hf:fnd hd 12=none)(h3:hd.length≤100):
 Zs fuel m c k me no hv r lk fee sg cs said hd=some (([]:List Msg),(14:Int),c,k,me,no,hv,r,lk,fee,sg,cs,said,hd):=by
 unfold Zs;rw[Zc1 (by omega),ya,if_neg (by rw[hm];decide),if_pos (by rw[hm];rfl),hf,if_pos (by decide)]
structure Cx where
 A:Int
 k0:Kit
 k1:Kit
 op:Int
 s:State
 h0:Int
 h1:Int
 n:Int
 r:List Out
 g0:Sig
 g1:Sig
namespace Cx
noncomputable section
variable(x:Cx)
def ch:ZH:=Z9 x.A x.k0 x.k1 x.op
def kt(i:Int):Kit:=Zxd x.k0 x.k1 i
def own(i:Int):Lock:=[([B (x.kt i).2.1.toNat],0,0,0)]
def cl(i:Int):Msg:=YP (rateOf x.op i x.n) (WY (x.own i))
def g(i:Int):Sig:=if i=0 then x.g0 else x.g1
def sy(i:Int):Msg:=byM (x.g i)
def T:Tx:=([((z32,0),(0,[],0))],x.r,2097154)
def nm:List UInt8:=named (plainF x.T)
structure Ok(x:Cx):Prop where
 c:ChOk x.A x.k0 x.k1 x.op
 s:StIn x.A x.s x.h0 x.h1
 w:hav x.op x.h0 x.h1 ≥ cost x.s.2.2.2 x.s.2.2.1.length
 e:x.s.2.2.1=[]
 f0:52≤x.n
 f1:x.n≤hav x.op x.h0 x.h1
 mkk:Mk x.op x.h0 x.h1 x.n (x.own 0) (x.own 1) x.r
 mm:closing_MakeM fuel x.ch x.s [x.own 0,x.own 1] x.n=some (x.T,0)
 wf:TxWf x.T
 ok:TxOk x.T
 am:amts x.r≤1125899906842624
 sg:∀i,i=0∨i=1→sign_SignM fuel (x.kt i).1 x.nm=some (x.g i)
 ve:∀i,i=0∨i=1→sign_VerifyM fuel (B (x.kt i).1.toNat) x.nm (x.g i)=some true
theorem own_ok(i:Int):LockOk (x.own i)∧LockPt (x.own i):=by
 refine ZHP (by simp[own]) (by simp[own]) ?_;intro b hb;rw[yaq.1 hb];refine⟨⟨by simp,show(0:Int)≤0 by decide,show(0:Int)≤1048576 by decide,show(0:Int)≤0 by decide,show(0:Int)≤1048576 by decide⟩,λr hr=> ?_,nox⟩;rw[yaq.1 hr];exact Zud _
theorem ZpA(p:UInt64):XJ fuel p=some [([p],0,0,0)]:=by
 unfold XJ Zpo Wo;rw[if_pos (Yj (by simp) (by simp)),ya,ya]
theorem ex{A:Int}{k0 k1:Kit}{op:Int}(c:ChOk A k0 k1 op){s:State}{h0 h1:Int}(hs:StIn A s h0 h1)(w:hav op h0 h1 ≥ cost s.2.2.2 s.2.2.1.length)(e:s.2.2.1=[]){n:Int}(f0:52≤n)(f1:n≤hav op h0 h1):∃r g0 g1,Cx.Ok ⟨A,k0,k1,op,s,h0,h1,n,r,g0,g1⟩:=by
 have o0:=own_ok ⟨A,k0,k1,op,s,h0,h1,n,[],(0,0),(0,0)⟩ 0;have o1:=own_ok ⟨A,k0,k1,op,s,h0,h1,n,[],(0,0),(0,0)⟩ 1;obtain⟨r,m1,m2⟩:=ZCi c hs w e o0 o1 f0 f1;have hA:=c.hi;have ht:=hs.tot;rw[e,show amtC ([]:List Cond)=0 from rfl] at ht
 obtain⟨q1,q2,q3,q4,q5,q6⟩:=m2.outs hs.p0 hs.p1 (by omega) f0 f1 o0 o1;obtain⟨i1,i2⟩:=Zve q4 q5 q6;obtain⟨a,a1,a2⟩:=Zxe c.k0.1 i2;obtain⟨b,b1,b2⟩:=Zxe c.k1.1 i2;refine⟨r,a,b,c,hs,w,e,f0,f1,m2,m1,q4,q5,q6,λi hi=> ?_,λi hi=> ?_⟩
 ·rcases hi with rfl|rfl
  ·exact a1
  ·exact b1
 ·rcases hi with rfl|rfl
  ·exact a2
  ·exact b2
def lk(me:Int)(a:Nat):List Lock:=lkp me (x.own me) (if a < 2 then[] else x.own (1 - me))
def fe(me:Int)(a:Nat):Int:=if a < 2 then rateOf x.op me x.n else x.n
def sn(me:Int)(a:Nat):Sig:=if a < 3 then(0,0) else x.g (1 - me)
def sa(me:Int):Nat→List Msg
 |0=>[]
 |1=>[x.cl me]
 |_=>[x.cl me,x.sy me]
def hd(me:Int):Nat→List Msg
 |0=>[]
 |1=>[]
 |2=>[x.cl (1 - me)]
 |_=>[x.cl (1 - me),x.sy (1 - me)]
abbrev en(me:Int)(a:Nat):ZH×Kit×Int×Int×List Int×Int×List Lock×Int×Sig×List Cond×List Msg×List Msg:=
 (x.ch,x.kt me,me,x.s.1,x.s.2.1,x.s.2.2.2,x.lk me a,x.fe me a,x.sn me a,[],x.sa me a,x.hd me a)
def st(a:Nat):Nat:=if a=0 then 1 else a
theorem byt_cl(i:Int):(byt (x.cl i)).length≤1000000000:=by
 have:=Za1 (x.own_ok i).1;show(WY (x.own i)).length≤_;omega
theorem byt_sy(i:Int):(byt (x.sy i)).length≤1000000000:=by show(0:Nat)≤_;omega
theorem sa_of{me:Int}{a:Nat}{m:Msg}(h:m∈x.sa me a):m=x.cl me∨m=x.sy me:=by
 unfold sa at h;split at h <;> simp at h
 ·exact .inl h
 ·exact h
theorem sa_len(me:Int)(a:Nat):(x.sa me a).length≤2:=by unfold sa;split <;> simp
theorem sa_byt{me:Int}{a:Nat}:∀m,m∈x.sa me a→(byt m).length≤1000000000:=by
 intro m h;rcases x.sa_of h with rfl|rfl
 ·exact x.byt_cl _
 ·exact x.byt_sy _
theorem sa_again(me:Int)(a:Nat):Zd4 (x.sa me a)=x.sa me a:=by unfold sa;split <;> rfl
theorem again_e(me:Int)(a:Nat):Zv fuel x.ch (x.kt me) me x.s.1 x.s.2.1 x.s.2.2.2 (x.lk me a) (x.fe me a) (x.sn me a) [] (x.sa me a) (x.hd me a)=some (x.sa me a,x.en me a):=by
 rw[Zh4 (by have:=x.sa_len me a;omega) x.sa_byt,sa_again]
theorem start_e{me:Int}(hme:me=0∨me=1){a:Nat}(ha:a≤3):ZS fuel x.ch (x.kt me) me x.s.1 x.s.2.1 x.s.2.2.2 (x.lk me a) (x.fe me a) (x.sn me a) [] (x.sa me a) (x.hd me a)=some (x.sa me (st a),x.en me (st a)):=by
 have o:=x.own_ok me
 have hr:rateOf x.op me (x.fe me a)=rateOf x.op me x.n:=by
  unfold fe rateOf;by_cases hm:me=x.op <;> simp[hm]
 have e1:YH (x.sa me a) (x.cl me)=x.sa me (st a):=by
  match a,ha with
  |0,_=>rfl
  |1,_=>rfl
  |2,_=>rfl
  |3,_=>rfl
 have e2:x.lk me (st a)=x.lk me a∧x.fe me (st a)=x.fe me a∧x.sn me (st a)=x.sn me a∧x.hd me (st a)=x.hd me a:=by
  match a,ha with
  |0,_=>exact⟨rfl,rfl,rfl,rfl⟩
  |1,_=>exact⟨rfl,rfl,rfl,rfl⟩
  |2,_=>exact⟨rfl,rfl,rfl,rfl⟩
  |3,_=>exact⟨rfl,rfl,rfl,rfl⟩
 unfold ch;have hlk:(x.lk me a)[me.toNat]? =some (x.own me):=Zxf hme _ _;rw[Zzb hme hlk o.1 o.2 (by have:=x.sa_len me a;omega) x.sa_byt,hr,show YP (rateOf x.op me x.n) (WY (x.own me))=x.cl me from rfl,e1,sa_again, ←e2.1, ←e2.2.1, ←e2.2.2.1, ←e2.2.2.2]
 rfl
theorem ZK1{x:Cx}(h:x.Ok)(i:Int):fitB x.op x.h0 x.h1 i (rateOf x.op i x.n)=true:=by
 unfold fitB rateOf;split
 ·exact decide_eq_true ⟨h.f0,h.f1⟩
 ·rfl
theorem ZIc(r r':Int)(b b':List UInt8)(g g':Sig):YH (YH [] (YP r b)) (byM g)=[YP r b,byM g]∧YH (YH [YP r b] (YP r b)) (byM g)=[YP r b,byM g]∧YH (YH [YP r b,byM g] (YP r b)) (byM g)=[YP r b,byM g]∧
 YH [] (YP r b)=[YP r b]∧YH [YP r b] (YP r' b')=[YP r b]∧YH [YP r b,byM g] (YP r' b')=[YP r b,byM g]∧YH [YP r b] (byM g)=[YP r b,byM g]∧YH [YP r b,byM g] (byM g')=[YP r b,byM g]:=⟨rfl,rfl,rfl,rfl,rfl,rfl,rfl,rfl⟩
end
end Cx
theorem ZGp{b:List UInt8}{n i m:Int}{l:Lock}{r:Zt}{acc:List ZM}{i1 i2:Int}{u:UInt64}(hm:m≤12)(hr:r.1.length≤2000000):
 ∃r' w,Zc (XN fuel) fuel (b,n,i,m,(0:Int),l,r,acc,i1,i2,u,([]:List UInt64))=some (b,n,i,l,r',acc,i1,i2,u,w)∧r'.1.length≤2000000∧w.length≤12:=by
 obtain⟨x,h1,r',w,rfl,h2⟩:=Z8 (step:=XN fuel) m.toNat (λk s=>∃r' w,s=(b,n,i,m,(k:Int),l,r',acc,i1,i2,u,w)∧r'.1.length≤2000000∧w.length=k) (λx=>∃r' w,x=(b,n,i,l,r',acc,i1,i2,u,w)∧r'.1.length≤2000000∧w.length≤12)
  (i:=(b,n,i,m,(0:Int),l,r,acc,i1,i2,u,([]:List UInt64))) ⟨r,[],rfl,hr,rfl⟩ (by omega) (by
  rintro k _ hk ⟨r',w,rfl,h1,h2⟩;left;have hl:=Zy4 r';unfold XN;dsimp only;rw[if_pos (decide_eq_true (by omega)),Zrj h1,ya,if_pos (Yj (by omega) (by omega)),Zr (by omega)];exact⟨_,rfl,_,_,rfl,by omega,by simp[h2]⟩) (by
  rintro _ ⟨r',w,rfl,h1,h2⟩;unfold XN;dsimp only;rw[if_neg (ynd (by omega))];exact⟨_,rfl,_,_,rfl,h1,by omega⟩)
 exact⟨r',w,h1,h2⟩
theorem Zue{b:List UInt8}(hb:b.length≤2000000):∃l ok,lock_ReadM fuel b=some (l,ok)∧(ok=true→LockOk l∧LockPt l):=by
 unfold lock_ReadM;rw[ZCb hb,ya,Zi4 hb,ya];have hnl:=ZoA (b,false);generalize ZlW (b,false)=q at hnl;obtain⟨n,r⟩:=q;dsimp only at hnl ⊢
 obtain⟨x,h1,r',acc,rfl,h2,h3⟩:=Z8 (step:=W5 fuel) (min n.toNat 4) (λk s=>∃r acc,s=(b,n,(k:Int),([]:Lock),r,acc)∧r.1.length≤2000000∧acc.length=k∧∀e,e∈acc→e.1.length≤12) (λx=>∃r acc,x=(b,([]:Lock),r,acc)∧acc.length≤4∧∀e,e∈acc→e.1.length≤12)
  (i:=(b,n,(0:Int),([]:Lock),r,([]:List ZM))) ⟨r,[],rfl,by omega,rfl,λe he=>by cases he⟩ (by omega) (by
  rintro k _ hk ⟨r,acc,rfl,h1,h2,h3⟩;have hl:=ZoA r;unfold W5;dsimp only;rw[if_pos (decide_eq_true (by omega)),Zi4 h1,ya,if_neg (by rw[beq_iff_eq];omega)];by_cases hk12:(ZlW r).1 > 12
  ·right;rw[if_pos (decide_eq_true hk12)];exact⟨_,rfl,_,_,rfl,by omega,h3⟩
  ·left;rw[if_neg (by rw[decide_eq_true_iff];exact hk12)];obtain⟨r2,w,e1,e2,e3⟩:=ZGp (b:=b) (n:=n) (i:=(k:Int)) (m:=(ZlW r).1) (l:=[]) (r:=(ZlW r).2) (acc:=acc) (i1:=0) (i2:=0) (u:=0) (by omega) (by omega);have hl2:=ZoA r2;have hl3:=ZoA (ZlW r2).2;have hl4:=Zy4 (ZlW (ZlW r2).2).2;rw[e1,ya];dsimp only;rw[Zi4 e2,ya,Zi4 (by omega),ya,Zrj (by omega),ya,if_pos (Yj (by omega) (by omega)),Zr (by omega)];refine⟨_,rfl,_,_,rfl,by omega,by simp[h2],λe he=> ?_⟩;rcases ych.1 he with he|he
   ·exact h3 e he
   ·rw[yaq.1 he];exact e3) (by
  rintro _ ⟨r,acc,rfl,h1,h2,h3⟩;unfold W5;dsimp only;by_cases hn:((min n.toNat 4:Nat):Int) < n
  ·rw[if_pos (decide_eq_true hn),Zi4 h1,ya,if_pos (by rw[beq_iff_eq];omega)];exact⟨_,rfl,_,_,rfl,by omega,h3⟩
  ·rw[if_neg (by rw[decide_eq_true_iff];exact hn)];exact⟨_,rfl,_,_,rfl,by omega,h3⟩)
 rw[h1,ya];dsimp only;have hw:Zxa acc:=⟨by omega,λe he=>by have:=h3 e he;omega⟩;obtain⟨k,hk1,hk2⟩:=Zk5 hw;rw[hk1,ya]
 cases k with
 |false=>exact⟨_,_,rfl,λh=>by cases h⟩
 |true=>
  have hk:=hk2.1 rfl;have hlen:=Za1 hk.1;obtain⟨z,hz⟩:=ZDx (a:=WY acc) (b:=b) (by omega);rw[if_neg (by decide),ZcE hk.1 hk.2,ya,hz,ya]
  cases z with
  |false=>exact⟨_,_,rfl,λh=>by cases h⟩
  |true=>exact⟨_,_,rfl,λ_=>hk⟩
theorem ZCk{I α:Type}{step:I→Option (I⊕(Bool⊕Unit))}(st:Nat→I)(a b:List α)(f:α→α→Option Bool)(hl:a.length=b.length)(hn:b.length < 18446744073709551616)
 (hf:∀e g,e∈a→g∈b→∃r,f e g=some r∧(e=g→r=true))
 (hs:∀k e g,k < b.length→a[k]? =some e→b[k]? =some g→step (st k)=(f e g).bind λo=>if(!o)=true then some (.inr (.inl false)) else some (.inl (st (k+1)))) (he:step (st b.length)=some (.inr (.inr ()))):
 ∃x,Zc step fuel (st 0)=some x∧((x=.inl false∧a≠b)∨x=.inr ()):=by
 refine Z8 (step:=step) b.length (λk s=>s=st k) _ rfl hn ?_ ?_
 ·rintro k _ hk rfl;obtain⟨e,hz,hm⟩:=Zl (l:=a) (k:=k) (by omega);obtain⟨g,hg,hm2⟩:=Zl hk;obtain⟨r,hr1,hr2⟩:=hf e g hm hm2;rw[hs k e g hk hz hg,hr1,ya]
  cases r with
  |true=>left;exact⟨_,rfl,rfl⟩
  |false=>
   right;refine⟨_,rfl,.inl ⟨rfl,λh=> ?_⟩⟩;subst h;rw[hz] at hg;cases hg;have:=hr2 rfl;cases this
 ·rintro _ rfl;exact⟨_,he,.inr rfl⟩
theorem ZDM{a b:List UInt64}(h:b.length≤1000000):∃r,Zac fuel a b=some r∧(a=b→r=true):=by
 unfold Zac;by_cases hl:a.length=b.length
 ·rw[if_neg (by simp[hl])]
  obtain⟨x,h1,h2⟩:=ZCk (step:=Vs fuel) (λk:Nat=>(a,b,(a.length:Int),(k:Int))) a b (λe g=>some (e==g)) hl (by omega) (λe g _ _=>⟨_,rfl,λh=>by rw[h];exact beq_self_eq_true _⟩) (by
   intro k e g hk he hg;unfold Vs;dsimp only;rw[if_pos (decide_eq_true (by omega)),Zu he,ya,Zu hg,ya,Zr (by omega),ya];rfl) (by
   unfold Vs;dsimp only;rw[hl,if_neg (by rw[Z2];decide)])
  rw[show((0:Nat):Int)=0 from rfl] at h1
  rw[h1,ya];rcases h2 with⟨rfl,h2⟩|rfl
  ·exact⟨_,rfl,λh=>absurd h h2⟩
  ·exact⟨_,rfl,λ_=>rfl⟩
 ·rw[if_pos (by simp;omega)];exact⟨_,rfl,λh=>by rw[h] at hl;exact absurd rfl hl⟩
theorem ZGq{a b:ZM}(h:b.1.length≤1000000):∃r,ZbP fuel a b=some r∧(a=b→r=true):=by
 unfold ZbP;obtain⟨r,h1,h2⟩:=ZDM (a:=a.1) h;rw[h1,ya];by_cases hab:a=b
 ·subst hab;rw[if_pos (h2 rfl),if_pos (beq_self_eq_true _),if_pos (beq_self_eq_true _)];exact⟨_,rfl,λ_=>beq_self_eq_true _⟩
 ·have key:∀{x:Option Bool},(∃r,x=some r)→∃r,x=some r∧(a=b→r=true):=λ⟨r,hr⟩=>⟨r,hr,λh=>absurd h hab⟩;exact key (ite_some (ite_some (ite_some ⟨_,rfl⟩ ⟨_,rfl⟩) ⟨_,rfl⟩) ⟨_,rfl⟩)
theorem ZDN{a b:List ZM}(h:b.length≤1000000)(hk:∀x,x∈b→x.1.length≤1000000):∃r,Qg fuel a b=some r∧(a=b→r=true):=by
 unfold Qg;by_cases hl:a.length=b.length
 ·rw[if_neg (by simp[hl])]
  obtain⟨x,h1,h2⟩:=ZCk (step:=XR fuel) (λk:Nat=>(b,a,(a.length:Int),(k:Int))) a b (ZbP fuel) hl (by omega) (λe g _ hg=>ZGq (hk g hg)) (by
   intro k e g hk he hg;unfold XR;dsimp only;rw[if_pos (decide_eq_true (by omega)),Zu he,ya,Zu hg,ya,Zr (by omega)]) (by
   unfold XR;dsimp only;rw[hl,if_neg (by rw[Z2];decide)])
  rw[show((0:Nat):Int)=0 from rfl] at h1
  rw[h1,ya];rcases h2 with⟨rfl,h2⟩|rfl
  ·exact⟨_,rfl,λh=>absurd h h2⟩
  ·exact⟨_,rfl,λ_=>rfl⟩
 ·rw[if_pos (by simp;omega)];exact⟨_,rfl,λh=>by rw[h] at hl;exact absurd rfl hl⟩
theorem ZCl{a b:Lock}(h:LockOk b):∃r,VO fuel a b=some r∧(a=b→r=true):=by
 obtain⟨r,h1,h2⟩:=ZDN (a:=a) (b:=b) (by have:=h.2.1;omega) λx hx=>by have:=(h.2.2 x hx).1;omega
 unfold VO;rw[h1,ya];exact⟨r,rfl,h2⟩
end Go.Proofs.YtmkgbalfkhaflaaGreat
end
section
set_option maxRecDepth 4000
namespace Go.Proofs.YtmkgbalfkhaflaaGreat
open Go Go.Ev
namespace Cx
noncomputable section
def T'(r:List Out):Tx:=([((z32,0),(0,[],0))],r,2097154)
structure Hd(x:Cx)(me:Int)(lk:List Lock)(fee:Int)(said hd:List Msg)(l:Lock)(h:Msg)(r:List Out)(g:Sig):Prop where
 ok:LockOk l∧LockPt l
 lks:lk=lkp me (x.own me) l
 rd:lock_ReadM fuel (byt h)=some (l,true)
 ft:fitB x.op x.h0 x.h1 (1 - me) (rat h)=true
 fe:fee=if 1 - me=x.op then rat h else rateOf x.op me x.n
 k1:h.1=12
 hh:hd=[h]∨∃w,w.1=13∧hd=[h,w]
 sd:said=[x.cl me,byM g]
 mm:closing_MakeM fuel x.ch x.s lk fee=some (T' r,0)
 mks:Mk x.op x.h0 x.h1 fee (lkOf (lk.getD 0 []) (lk.getD 1 []) 0) (lkOf (lk.getD 0 []) (lk.getD 1 []) 1) r
 f0:52≤fee
 f1:fee≤hav x.op x.h0 x.h1
 wf:TxWf (T' r)
 tx:TxOk (T' r)
 am:amts r≤1125899906842624
 sg:sign_SignM fuel (x.kt me).1 (named (plainF (T' r)))=some g
 ve:sign_VerifyM fuel (B (x.kt me).1.toNat) (named (plainF (T' r))) g=some true
theorem Hd.k{x:Cx}{me:Int}{lk:List Lock}{fee:Int}{said hd:List Msg}{l:Lock}{h:Msg}{r:List Out}{g:Sig}(H:Hd x me lk fee said hd l h r g):fnd hd 12=some h:=by
 have e:(h.1==12)=true:=by rw[H.k1];rfl
 rcases H.hh with rfl|⟨w,_,rfl⟩
 ·unfold fnd;rw[List.find?_cons,e]
 ·unfold fnd;rw[List.find?_cons,e]
theorem Hd.hl{x:Cx}{me:Int}{lk:List Lock}{fee:Int}{said hd:List Msg}{l:Lock}{h:Msg}{r:List Out}{g:Sig}(H:Hd x me lk fee said hd l h r g):hd.length≤2:=by
 rcases H.hh with rfl|⟨w,_,rfl⟩ <;> simp
def Sv(x:Cx)(me:Int)(lk:List Lock)(fee:Int)(said hd:List Msg):Prop:=
 (∃a,a≤1∧lk=x.lk me a∧fee=x.fe me a∧said=x.sa me a∧hd=[])∨∃l h r g,Hd x me lk fee said hd l h r g
theorem ZK2{x:Cx}(h:x.Ok){me:Int}(hme:me=0∨me=1){a:Nat}(ha:a≤1){m:Msg}(hm:m.1=12)(hmb:(byt m).length≤1048576){l:Lock}(hr:lock_ReadM fuel (byt m)=some (l,true))(ok:LockOk l∧LockPt l)(ft:fitB x.op x.h0 x.h1 (1 - me) (rat m)=true)(sg:Sig):
 ∃q e lk' fee' said' hd' r g,Zs fuel m x.ch (x.kt me) me x.s.1 x.s.2.1 x.s.2.2.2 (x.lk me a) (x.fe me a) sg [] (x.sa me a) []=some (q,e,x.ch,x.kt me,me,x.s.1,x.s.2.1,x.s.2.2.2,lk',fee',sg,[],said',hd')∧Hd x me lk' fee' said' hd' l (ZJP m) r g:=by
 have ho:=h.c.o;have hfa:x.fe me a=rateOf x.op me x.n:=if_pos (by omega)
 have hla:x.lk me a=lkp me (x.own me) []:=by
  unfold lk;rw[if_pos (by omega)]
 have hr0:∀fee,fee=(if 1 - me=x.op then rat m else rateOf x.op me x.n)→52≤fee∧fee≤hav x.op x.h0 x.h1∧rateOf x.op me fee=rateOf x.op me x.n:=by
  intro fee hf;unfold rateOf at hf ⊢;unfold fitB at ft;have f0:=h.f0;have f1:=h.f1;by_cases hp:1 - me=x.op
  ·rw[if_pos hp] at hf ft;have:=of_decide_eq_true ft;have hq:¬me=x.op:=by omega
   rw[if_neg hq,if_neg hq];exact⟨by omega,by omega,rfl⟩
  ·have hq:me=x.op:=by omega
   rw[if_neg hp,if_pos hq] at hf;rw[if_pos hq,if_pos hq];exact⟨by omega,by omega,hf⟩
 obtain⟨f0,f1,fr⟩:=hr0 _ rfl;generalize hfe:(if 1 - me=x.op then rat m else rateOf x.op me x.n)=fee at f0 f1 fr
 have o:=x.own_ok me
 obtain⟨o0,o1,hl⟩:(LockOk ((lkp me (x.own me) l).getD 0 [])∧LockPt ((lkp me (x.own me) l).getD 0 []))∧(LockOk ((lkp me (x.own me) l).getD 1 [])∧LockPt ((lkp me (x.own me) l).getD 1 []))∧lkp me (x.own me) l=[(lkp me (x.own me) l).getD 0 [],(lkp me (x.own me) l).getD 1 []]:=by
  rcases hme with rfl|rfl
  ·exact⟨o,ok,rfl⟩
  ·exact⟨ok,o,rfl⟩
 obtain⟨r,m1,m2⟩:=ZCi h.c h.s h.w h.e o0 o1 f0 f1;rw[←hl] at m1;have hA:=h.c.hi;have ht:=h.s.tot;rw[h.e,show amtC ([]:List Cond)=0 from rfl] at ht
 obtain⟨q1,q2,q3,q4,q5,q6⟩:=m2.outs h.s.p0 h.s.p1 (by omega) f0 f1 o0 o1;obtain⟨i1,i2⟩:=Zve q4 q5 q6
 have hK:Key (x.kt me).1:=by
  rcases hme with rfl|rfl
  ·exact h.c.k0.1
  ·exact h.c.k1.1
 obtain⟨g,g1,g2⟩:=Zxe hK i2
 have hsg:YY fuel (x.kt me) (T' r)=some g:=by
  unfold YY;rw[show Zd0 fuel (T' r)=_ from i1,ya,g1,ya]
 have key:=ZGo (A:=x.A) (k0:=x.k0) (k1:=x.k1) (k:=x.kt me) (own:=x.own me) (l:=l) (l':=[]) (fee:=x.fe me a) (fee':=fee) (said:=x.sa me a) (hd:=[]) ho h.s.hv h.e hme o.1 o.2 hm (by omega) hr ft (.inl rfl) (by have:=x.sa_len me a;omega) x.sa_byt (by simp) (by rw[hfa];exact hfe.symm) sg (t:=T' r) (g:=g) m1 hsg;rw[hla]
 have hsd:Zjv x.op me fee (x.own me) g (x.sa me a)=[x.cl me,byM g]:=by
  unfold Zjv;rw[fr];obtain⟨k1,k2,_⟩:=ZIc (rateOf x.op me x.n) 0 (WY (x.own me)) [] g (0,0)
  match a,ha with
  |0,_=>exact k1
  |1,_=>exact k2
 exact⟨_,_,_,_,_,_,r,g,key,{ ok:=ok,lks:=rfl,rd:=hr,ft:=ft,fe:=hfe.symm,k1:=hm,hh:=.inl rfl,sd:=hsd,mm:=m1,mks:=m2,f0:=f0,f1:=f1,wf:=q4,tx:=q5,am:=q6,sg:=g1,ve:=g2}⟩
theorem ZAQ{c:ZH}{k:Kit}{me no:Int}{hv:List Int}{r:Int}{lk:List Lock}{fee:Int}{sg:Sig}{cs:List Cond}{m:Msg}(h1:m.1≠12)(h2:m.1≠13){said hd:List Msg}(h3:hd.length≤100):
 Zs fuel m c k me no hv r lk fee sg cs said hd=some (([]:List Msg),(1:Int),c,k,me,no,hv,r,lk,fee,sg,cs,said,hd):=by
 unfold Zs;rw[Zc1 (by omega),ya,if_neg (by rw[beq_iff_eq];exact h1),if_neg (by rw[beq_iff_eq];exact h2)]
theorem Zrl{x:Cx}(h:x.Ok){me:Int}(hme:me=0∨me=1){lk:List Lock}{fee:Int}{said hd:List Msg}(hs:x.Sv me lk fee said hd)(sg:Sig){m:Msg}(hmb:(byt m).length≤1048576):
 ∃q e lk' fee' sg' said' hd',Zs fuel m x.ch (x.kt me) me x.s.1 x.s.2.1 x.s.2.2.2 lk fee sg [] said hd=some (q,e,x.ch,x.kt me,me,x.s.1,x.s.2.1,x.s.2.2.2,lk',fee',sg',[],said',hd')∧x.Sv me lk' fee' said' hd':=by
 have ho:=h.c.o
 have hhl:hd.length≤2:=by
  rcases hs with⟨a,_,_,_,_,rfl⟩|⟨l,w,r,g,H⟩
  ·simp
  ·exact H.hl
 by_cases h12:m.1=12
 ·obtain⟨l',ok',hr,hro⟩:=Zue (b:=byt m) (by omega);rcases hs with⟨a,ha,rfl,rfl,rfl,rfl⟩|⟨l,w,r,g,H⟩
  ·have same:x.Sv me (x.lk me a) (x.fe me a) (x.sa me a) []:=.inl ⟨a,ha,rfl,rfl,rfl,rfl⟩
   cases hk:ok' with
   |false=>
    refine⟨[],2,_,_,sg,_,_, ?_,same⟩;unfold Zs
    rw[Zc1 (by simp),ya,if_pos (by rw[h12];rfl),show m.2.2.2.2.2.2.2.2.2.2.2.2.2=byt m from rfl,hr,ya,if_neg (by decide),hk,if_pos (by rfl)]
   |true=>
    subst hk;by_cases ft:fitB x.op x.h0 x.h1 (1 - me) (rat m)=true
    ·obtain⟨q,e,lk',fee',said',hd',r,g,e1,e2⟩:=ZK2 h hme ha h12 hmb hr (hro rfl) ft sg;exact⟨q,e,lk',fee',sg,said',hd',e1,.inr ⟨_,_,_,_,e2⟩⟩
    ·refine⟨[],13,_,_,sg,_,_, ?_,same⟩;have fs:=Zxh (A:=x.A) (k0:=x.k0) (k1:=x.k1) ho h.s.hv h.e (1 - me) (rat m);obtain⟨e1,e2,e3,e4⟩:=Zxg hme ([]:Lock) [] [];unfold Zs;rw[Zc1 (by simp),ya,if_pos (by rw[h12];rfl),show m.2.2.2.2.2.2.2.2.2.2.2.2.2=byt m from rfl,hr,ya,if_neg (by decide),if_neg (by simp),e4,show m.2.2.2.2.2.2.1=rat m from rfl,show YG fuel x.ch _ (1 - me) (rat m)=_ from fs,ya,if_pos (by simpa using ft)]
  ·have same:x.Sv me lk fee said hd:=.inr ⟨l,w,r,g,H⟩;by_cases hb:byt w=byt m
   ·by_cases hq:rat w=rat m
    ·have hr':=H.rd;rw[hb] at hr';have ft:=H.ft;rw[hq] at ft;have o:=x.own_ok me
     have hfr:rateOf x.op me fee=rateOf x.op me x.n:=by
      have:=H.fe;unfold rateOf at this ⊢;by_cases hp:me=x.op
      ·rw[if_neg (by omega),if_pos hp] at this;rw[if_pos hp,if_pos hp,this]
      ·rw[if_neg hp,if_neg hp]
     have hsg:YY fuel (x.kt me) (T' r)=some g:=by
      unfold YY;rw[show Zd0 fuel (T' r)=some (named (plainF (T' r))) from(Zve H.wf H.tx H.am).1,ya,H.sg,ya]
     have hff:fee=if 1 - me=x.op then rat m else fee:=by
      have:=H.fe;rw[hq] at this;split
      ·rename_i hp;rw[if_pos hp] at this;exact this
      ·rfl
     have hsb:∀y,y∈said→(byt y).length≤1000000000:=by
      rw[H.sd];intro y hy;simp only[ybg,yct,or_false] at hy;rcases hy with rfl|rfl
      ·exact x.byt_cl _
      ·show(0:Nat)≤_;omega
     have key:=ZGo (A:=x.A) (k0:=x.k0) (k1:=x.k1) (k:=x.kt me) (own:=x.own me) (l:=l) (l':=l) (fee:=fee) (fee':=fee) (said:=said) (hd:=hd) ho h.s.hv h.e hme o.1 o.2 h12 (by omega) hr' ft (.inr ⟨w,H.k,hb,hq⟩) (by rw[H.sd];simp) hsb (by omega) hff sg (t:=T' r) (g:=g) (by rw[←H.lks];exact H.mm) hsg
     have e1:Zjv x.op me fee (x.own me) g said=said:=by
      unfold Zjv;rw[hfr,H.sd];exact(ZIc (rateOf x.op me x.n) 0 (WY (x.own me)) [] g (0,0)).2.2.1
     have e2:YH hd m=hd:=by
      unfold YH;rw[h12,H.k];rfl
     rw[e1,e2, ←H.lks] at key;exact⟨_,_,_,_,_,_,_,key,same⟩
    ·refine⟨[],4,_,_,sg,_,_, ?_,same⟩;unfold Zs;rw[Zc1 (by omega),ya,if_pos (by rw[h12];rfl),show m.2.2.2.2.2.2.2.2.2.2.2.2.2=byt m from rfl,hr,ya,H.k,if_pos (by rfl),show(Option.getD (some w) ZGl,Option.isSome (some w)).1.2.2.2.2.2.2.2.2.2.2.2.2.2=byt w from rfl,Zpz,decide_eq_true hb,ya,if_neg (by decide),if_pos (by rw[bne_iff_ne];exact hq)]
   ·refine⟨[],4,_,_,sg,_,_, ?_,same⟩;unfold Zs;rw[Zc1 (by omega),ya,if_pos (by rw[h12];rfl),show m.2.2.2.2.2.2.2.2.2.2.2.2.2=byt m from rfl,hr,ya,H.k,if_pos (by rfl),show(Option.getD (some w) ZGl,Option.isSome (some w)).1.2.2.2.2.2.2.2.2.2.2.2.2.2=byt w from rfl,Zpz,decide_eq_false hb,ya,if_pos (by decide)]
 by_cases h13:m.1=13
 ·rcases hs with⟨a,ha,rfl,rfl,rfl,rfl⟩|⟨l,w,r,g,H⟩
  ·exact⟨_,_,_,_,_,_,_,ZDL h13 rfl (by simp),.inl ⟨a,ha,rfl,rfl,rfl,rfl⟩⟩
  ·obtain⟨i1,i2⟩:=Zve H.wf H.tx H.am;obtain⟨v,hv⟩:=ZAP (B (Zxd x.k0 x.k1 (1 - me)).1.toNat) i2 (ZHQ m);obtain⟨q,e,key⟩:=ZJT (A:=x.A) (k0:=x.k0) (k1:=x.k1) (op:=x.op) (k:=x.kt me) h.e hme h13 (by omega) (said:=said) H.k (by omega) sg (lk:=lk) (fee:=fee) (t:=T' r) H.mm i1 hv
   have h2:YH hd m=[w]∨∃y,y.1=13∧YH hd m=[w,y]:=by
    have e1:(w.1==m.1)=false:=by rw[H.k1,h13];rfl
    rcases H.hh with rfl|⟨y,hy,rfl⟩
    ·refine .inr ⟨ZJP m,h13, ?_⟩;unfold YH fnd;rw[List.find?_cons,e1];rfl
    ·refine .inr ⟨y,hy, ?_⟩;unfold YH fnd;rw[List.find?_cons,e1];dsimp only;rw[List.find?_cons,show(y.1==m.1)=true by rw[hy,h13];rfl];rfl
   refine⟨q,e,lk,fee,_,said,_,key,.inr ⟨l,w,r,g, ?_⟩⟩
   cases v with
   |false=>exact H
   |true=>exact{ H with hh:=h2}
 ·exact⟨_,_,_,_,_,_,_,ZAQ h12 h13 (by omega),hs⟩
theorem ZId{x:Cx}(h:x.Ok){me:Int}(hme:me=0∨me=1):Yw fuel x.ch (x.kt me) me x.s (x.own me) (rateOf x.op me x.n)=some (.inr (0,x.ch,x.kt me,me,x.s.1,x.s.2.1,x.s.2.2.2,x.lk me 0,x.fe me 0,(0,0),[],[],[])):=by
 have o:=x.own_ok me;have hw:Zxa (x.own me):=⟨by simp[own],λb hb=>by rw[yaq.1 hb];simp⟩;obtain⟨r,r1,r2,r3⟩:=ZJQ h.c h.s h.w hme hw (rateOf x.op me x.n);have hr:r=true:=r2.2 o;unfold ch kt;rw[r3,if_neg (by rw[hr];decide),if_neg (by simp[h.e]),ZK1 h me,if_neg (by decide)]
 have e1:(([([]:Lock),([]:Lock)]:List Lock).set me.toNat (x.own me))=x.lk me 0∧x.fe me 0=rateOf x.op me x.n:=by
  rcases hme with rfl|rfl <;> exact⟨rfl,rfl⟩
 rw[e1.1,e1.2]
theorem ZHR{p:Corsnedlaw21Play}(hp:PlayOk p){z:Int}(z0:0≤z)(z1:z≤65535):∃x:Cx,x.Ok∧VN fuel p z=some (x.ch,x.s,x.n,true,x.ch,x.kt 0,0,x.s.1,x.s.2.1,x.s.2.2.2,x.lk 0 0,x.fe 0 0,(0,0),x.ch,x.kt 1,1,x.s.1,x.s.2.1,x.s.2.2.2,x.lk 1 0,x.fe 1 0,(0,0),[],[],[],[],[],[]):=by
 have hp2:PlayOk (p.1,p.2.1,p.2.2.1,p.2.2.2.1,p.2.2.2.2.1,([]:List WW),p.2.2.2.2.2.2.1,p.2.2.2.2.2.2.2):=⟨hp.sl,hp.ss,by simp,by simp,hp.n0,hp.n1,hp.per⟩;obtain⟨A,k0,k1,op,s,e1,c,⟨h0,h1,hs,w⟩,ho⟩:=ZLz hp2
 have e:s.2.2.1=[]:=by
  rw[List.eq_nil_iff_forall_not_mem];intro q hq;obtain⟨_,_,o,h,_⟩:=ho q hq;cases h
 have hc:=Zox hs.r0 hs.r1 (n:=s.2.2.1.length) (by rw[e];decide);have hA:=c.hi;have ht:=hs.tot;rw[e,show amtC ([]:List Cond)=0 from rfl] at ht
 have p0:=hs.p0;have p1:=hs.p1
 have hh:660≤hav op h0 h1∧hav op h0 h1≤4300000000:=by
  refine⟨by omega, ?_⟩;unfold hav;split <;> omega
 have hm:=Int.emod_nonneg z (show hav op h0 h1 - 51≠0 by omega);have hm2:=Int.emod_lt_of_pos z (show 0 < hav op h0 h1 - 51 by omega);obtain⟨r,g0,g1,hx⟩:=ex c hs w e (n:=52+z % (hav op h0 h1 - 51)) (by omega) (by omega);refine⟨_,hx, ?_⟩;have n0:=ZId hx (.inl rfl);have n1:=ZId hx (.inr rfl);generalize hq:(⟨A,k0,k1,op,s,h0,h1,52+z % (hav op h0 h1 - 51),r,g0,g1⟩:Cx)=x at*;have q1:x.ch=Z9 A k0 k1 op:=by rw[←hq];rfl
 have q2:x.s=s:=by rw[←hq]
 have q3:x.kt 0=k0∧x.kt 1=k1:=by rw[←hq];exact⟨rfl,rfl⟩
 have q4:x.n=52+z % (hav op h0 h1 - 51):=by rw[←hq]
 have q5:x.own 0=[([B k0.2.1.toNat],0,0,0)]∧x.own 1=[([B k1.2.1.toNat],0,0,0)]:=by rw[←hq];exact⟨rfl,rfl⟩
 have q6:x.op=op:=by rw[←hq]
 rw[q1,q2,q3.1,q5.1,q6] at n0;rw[q1,q2,q3.2,q5.2,q6] at n1;have hO:(Z9 A k0 k1 op).2.2.2.2=op:=rfl;have hB:(Z9 A k0 k1 op).2.2.1=[ZJ k0,ZJ k1]:=rfl
 have hn:wi (52+yar (wi z) (wi (hav op h0 h1 - 51)))=x.n:=by
  rw[ZD (z:=hav op h0 h1 - 51) (by omega) (by omega),ZD (z:=z) (by omega) (by omega),Int.tmod_eq_emod_of_nonneg z0,q4,ZD (by omega) (by omega)]
 have hz:((wi (hav op h0 h1 - 51))!=0)=true:=by
  rw[ZD (by omega) (by omega),bne_iff_ne];omega
 have hw:Vj fuel p=some (Z9 A k0 k1 op,[k0,k1],s):=by
  unfold Vj;rw[e1,ya]
 unfold VN;rw[hw,ya];dsimp only;rw[hO,if_pos (XF c.o),hs.hv,ZeZ c.o,ya,if_pos hz,hn,hB,q1,q2,q3.1,q3.2];have k0':∀k:Kit,(ZJ k).2.1=B k.2.1.toNat:=λ_=>rfl;have r0:rateOf op 0 x.n=if(0:Int)=op then x.n else 0:=rfl
 have r1:rateOf op 1 x.n=if(1:Int)=op then x.n else 0:=rfl
 have hsv:(s.1,[h0,h1],s.2.2.1,s.2.2.2)=s:=by rw[←hs.hv]
 rcases c.o with rfl|rfl
 ·rw[r0,if_pos rfl] at n0;rw[r1,if_neg (by decide)] at n1;rw[if_pos (by rfl),yas,ya,yas,ya,k0',ZpA,ya,n0,ya];dsimp only;rw[if_pos (by rfl),if_neg (by decide),yap,yas,ya,yap,yas,ya,k0',ZpA,ya,n1,ya];dsimp only;rw[if_pos (by rfl)]
 ·rw[r0,if_neg (by decide)] at n0;rw[r1,if_pos rfl] at n1;rw[if_neg (by decide),yas,ya,yas,ya,k0',ZpA,ya,n0,ya];dsimp only;rw[if_pos (by rfl),if_pos (by rfl),yap,yas,ya,yap,yas,ya,k0',ZpA,ya,n1,ya];dsimp only;rw[if_pos (by rfl)]
theorem ZIe{x:Cx}(h:x.Ok):x.r.length≤2∧(∀o,o∈x.r→o.1 ≥ 100∧o.1≤4300000000∧Zts o)∧amts x.r=shn (Zgk x.op x.h0 x.h1 x.n 0)+shn (Zgk x.op x.h0 x.h1 x.n 1)∧x.h0+x.h1=x.A∧x.n≤4300000000:=by
 have hA:=h.c.hi;have ht:=h.s.tot;rw[h.e,show amtC ([]:List Cond)=0 from rfl] at ht
 have p0:=h.s.p0;have p1:=h.s.p1;have f1:=h.f1;obtain⟨q1,q2,q3,_⟩:=h.mkk.outs h.s.p0 h.s.p1 (by omega) h.f0 h.f1 (x.own_ok 0) (x.own_ok 1);refine⟨q1,q2,q3,by omega, ?_⟩;unfold hav at f1;split at f1 <;> omega
def pd(x:Cx)(i:Int):Int:=Zgk x.op x.h0 x.h1 x.n i
theorem bas_get(x:Cx){i:Int}(hi:i=0∨i=1):x.ch.2.2.1[i.toNat]? =some (ZJ (x.kt i)):=by rcases hi with rfl|rfl <;> rfl
theorem cl_len(x:Cx)(i:Int):(byt (x.cl i)).length≤1048576:=by
 have:=Za1 (x.own_ok i).1;show(WY (x.own i)).length≤_;omega
theorem ZK3{a:Nat}(h:a≤1):st a=1:=by
 unfold st;split <;> omega
theorem Hd.mem{x:Cx}(h:x.Ok){me:Int}(hme:me=0∨me=1){lk:List Lock}{fee:Int}{said hd:List Msg}{l:Lock}{w:Msg}{r:List Out}{g:Sig}(H:Hd x me lk fee said hd l w r g):(x.pd me ≥ 100→(x.pd me,x.own me)∈r)∧(me=x.op→fee=x.n)∧r.length≤2∧lk[me.toNat]? =some (x.own me):=by
 have hfe:me=x.op→fee=x.n:=λhm=>by
  have:=H.fe;rw[if_neg (by omega)] at this;unfold rateOf at this;rw[if_pos hm] at this;exact this
 have hlk:lk[me.toNat]? =some (x.own me):=by
  rw[H.lks];exact Zxf hme _ _
 refine⟨λhs=> ?_,hfe, ?_,hlk⟩
 ·have hp:Zgk x.op x.h0 x.h1 fee me=x.pd me:=by
   unfold pd Zgk;by_cases hm:me=x.op
   ·rw[if_pos hm,if_pos hm,hfe hm]
   ·rw[if_neg hm,if_neg hm]
  have ho:lkOf (lk.getD 0 []) (lk.getD 1 []) me=x.own me:=by
   rw[H.lks];rcases hme with rfl|rfl <;> rfl
  refine H.mks.pm.mem_iff.2 ?_;unfold outs0;rw[ych]
  have hq:(x.pd me,x.own me)∈ZoC x.op x.h0 x.h1 fee (lkOf (lk.getD 0 []) (lk.getD 1 []) 0) (lkOf (lk.getD 0 []) (lk.getD 1 []) 1) me:=by
   unfold ZoC;rw[hp,if_pos hs,yaq]
   have:lkOf (lkOf (lk.getD 0 []) (lk.getD 1 []) 0) (lkOf (lk.getD 0 []) (lk.getD 1 []) 1) me=x.own me:=by
    rw[←ho];rcases hme with rfl|rfl <;> rfl
   rw[this]
  rcases hme with rfl|rfl
  ·exact .inl hq
  ·exact .inr hq
 ·have:=H.mks.pm.length_eq;have:=Zpy x.op x.h0 x.h1 fee (lkOf (lk.getD 0 []) (lk.getD 1 []) 0) (lkOf (lk.getD 0 []) (lk.getD 1 []) 1);omega
abbrev e0(x:Cx)(lk:List Lock)(fee:Int)(sg:Sig)(said hd:List Msg)(a:Nat){α:Type}(r:α):ZH×Kit×Int×Int×List Int×Int×List Lock×Int×Sig×ZH×Kit×Int×Int×List Int×Int×List Lock×Int×Sig×List Cond×List Msg×List Msg×List Cond×List Msg×List Msg×ZH×α:=
 (x.ch,x.kt 0,(0:Int),x.s.1,x.s.2.1,x.s.2.2.2,lk,fee,sg,x.ch,x.kt 1,(1:Int),x.s.1,x.s.2.1,x.s.2.2.2,x.lk 1 a,x.fe 1 a,x.sn 1 a,([]:List Cond),said,hd,([]:List Cond),x.sa 1 a,x.hd 1 a,x.ch,r)
abbrev e1(x:Cx)(lk:List Lock)(fee:Int)(sg:Sig)(said hd:List Msg)(a:Nat){α:Type}(r:α):ZH×Kit×Int×Int×List Int×Int×List Lock×Int×Sig×ZH×Kit×Int×Int×List Int×Int×List Lock×Int×Sig×List Cond×List Msg×List Msg×List Cond×List Msg×List Msg×ZH×α:=
 (x.ch,x.kt 0,(0:Int),x.s.1,x.s.2.1,x.s.2.2.2,x.lk 0 a,x.fe 0 a,x.sn 0 a,x.ch,x.kt 1,(1:Int),x.s.1,x.s.2.1,x.s.2.2.2,lk,fee,sg,([]:List Cond),x.sa 0 a,x.hd 0 a,([]:List Cond),said,hd,x.ch,r)
theorem ZK4{x:Cx}(h:x.Ok){steps:List Ye}{k:Nat}{e:Ye}(he:steps[k]? =some e)(hb:e.2.2.2.2.1.length≤1048576){lk:List Lock}{fee:Int}{sg:Sig}{said hd:List Msg}(hs:x.Sv 0 lk fee said hd){a:Nat}(ha:a≤1)(p:Corsnedlaw21Play):
 ∃lk' fee' sg' said' hd' a',x.Sv 0 lk' fee' said' hd'∧a'≤1∧YZ fuel (steps,true,x.n,0,(k:Int),p,x.e0 lk fee sg said hd a x.s)=some (steps,true,x.n,0,(k:Int),p,x.e0 lk' fee' sg' said' hd' a' x.s):=by
 unfold YZ;dsimp only[e0];rw[Zu he,ya];by_cases h0:((bits .and .i64 e.1 1)==0)=true
 ·obtain⟨q,r,lk',fee',sg',said',hd',t1,t2⟩:=Zrl h (.inl rfl) hs sg (m:=x.cl 1) (x.cl_len 1);rw[if_pos h0,if_pos (by rfl),x.start_e (.inr rfl) (a:=a) (by omega),ya];dsimp only[en];rw[x.again_e 1 (st a),ya];dsimp only[en];rw[ZK3 ha,show x.sa 1 1=[x.cl 1] from rfl,if_pos (by rfl),if_pos (by rfl),show(([x.cl 1]:List Msg).length:Int)=1 from rfl,Int.tmod_one,show idx [x.cl 1] 0=some (x.cl 1) from rfl,ya,t1,ya]
  exact⟨lk',fee',sg',said',hd',1,t2,by omega,rfl⟩
 ·obtain⟨q,r,lk',fee',sg',said',hd',t1,t2⟩:=Zrl h (.inl rfl) hs sg (m:=(e.2.2.2.1,0,0,(0,0,0,0,0),0,[],e.2.2.2.2.2.1,e.2.2.2.2.2.2,yzz,0,([],[],0),(0,0,0,0,0),(0,0,0,0,0,0),e.2.2.2.2.1)) hb;rw[if_neg h0,t1,ya];exact⟨lk',fee',sg',said',hd',a,t2,ha,rfl⟩
theorem ZK5{x:Cx}(h:x.Ok){steps:List Ye}(hl:steps.length≤20)(hb:∀e,e∈steps→e.2.2.2.2.1.length≤1048576)(p:Corsnedlaw21Play):
 ∃lk fee sg said hd a,x.Sv 0 lk fee said hd∧a≤1∧Zc (ZY fuel) fuel (steps,true,x.n,0,(0:Int),p,x.e0 (x.lk 0 0) (x.fe 0 0) (0,0) [] [] 0 x.s)=some (true,x.n,0,p,x.e0 lk fee sg said hd a x.s):=by
 obtain⟨q,q1,lk,fee,sg,said,hd,a,hs,ha,rfl⟩:=Z8 (step:=ZY fuel) steps.length (λk s=>∃lk fee sg said hd a,x.Sv 0 lk fee said hd∧a≤1∧s=(steps,true,x.n,0,(k:Int),p,x.e0 lk fee sg said hd a x.s)) (λs=>∃lk fee sg said hd a,x.Sv 0 lk fee said hd∧a≤1∧s=(true,x.n,0,p,x.e0 lk fee sg said hd a x.s)) (i:=(steps,true,x.n,0,(0:Int),p,x.e0 (x.lk 0 0) (x.fe 0 0) (0,0) [] [] 0 x.s)) ⟨_,_,_,_,_,0,.inl ⟨0,by omega,rfl,rfl,rfl,rfl⟩,by omega,rfl⟩ (by omega) (by
  rintro k _ hk ⟨lk,fee,sg,said,hd,a,hs,ha,rfl⟩;obtain⟨e,he,hm⟩:=Zl hk;obtain⟨lk',fee',sg',said',hd',a',t1,t2,t3⟩:=ZK4 h he (hb e hm) (sg:=sg) hs ha p;left;unfold ZY;dsimp only[e0] at t3 ⊢;rw[if_pos (Yk hk),t3,ya];dsimp only;rw[Zr (by omega)];exact⟨_,rfl,lk',fee',sg',said',hd',a',t1,t2,rfl⟩) (by
  rintro _ ⟨lk,fee,sg,said,hd,a,hs,ha,rfl⟩;unfold ZY;dsimp only[e0];rw[if_neg (by rw[Z2];decide)];exact⟨_,rfl,lk,fee,sg,said,hd,a,hs,ha,rfl⟩)
 exact⟨lk,fee,sg,said,hd,a,hs,ha,q1⟩
theorem ZGr{x:Cx}(z2:Int)(sa':List Msg)(k pdv:Int)(b0:Bool)(p:Corsnedlaw21Play)(lk:List Lock)(fee:Int)(sg:Sig)(said hd:List Msg)(a:Nat)(own:Lock)(oo:LockOk own)(r:List Out)(hr:r.length≤2):
 ∃b,(b0=true→b=true)∧((pdv,own)∈r→b=true)∧Zc (ZK fuel) fuel (true,x.n,z2,sa',k,pdv,b0,(0:Int),p,x.e0 lk fee sg said hd a (x.s,own,T' r))=some (true,x.n,z2,sa',k,b,p,x.e0 lk fee sg said hd a (x.s,own,T' r)):=by
 obtain⟨q,q1,b,b1,b2,rfl⟩:=Z8 (step:=ZK fuel) r.length (λj s=>∃b,(b0=true→b=true)∧(∀i:Nat,i < j→r[i]? =some (pdv,own)→b=true)∧s=(true,x.n,z2,sa',k,pdv,b,(j:Int),p,x.e0 lk fee sg said hd a (x.s,own,T' r))) (λs=>∃b,(b0=true→b=true)∧(∀i:Nat,i < r.length→r[i]? =some (pdv,own)→b=true)∧s=(true,x.n,z2,sa',k,b,p,x.e0 lk fee sg said hd a (x.s,own,T' r))) (i:=(true,x.n,z2,sa',k,pdv,b0,(0:Int),p,x.e0 lk fee sg said hd a (x.s,own,T' r))) ⟨b0,id,λi hi=>absurd hi (by omega),rfl⟩ (by omega) (by
  rintro j _ hj ⟨b,b1,b2,rfl⟩;obtain⟨e,he,_⟩:=Zl hj;have he:(T' r).2.1[j]? =some e:=he;left;unfold ZK;dsimp only[e0];rw[if_pos (Yk (show j < (T' r).2.1.length from hj))]
  cases b with
  |true=>
   rw[if_pos rfl,Zr (by omega)]
   exact⟨_,rfl,true,λ_=>rfl,λ_ _ _=>rfl,rfl⟩
  |false=>
   have nxt:∀b':Bool,(e=(pdv,own)→b'=true)→∀i:Nat,i < j+1→r[i]? =some (pdv,own)→b'=true:=by
    intro b' hq i hi hg;by_cases hij:i < j
    ·have:=b2 i hij hg;cases this
    ·have:i=j:=by omega
     subst this;rw[show r[i]? =some e from he] at hg
     cases hg;exact hq rfl
   have hb0:b0=true→False:=λhq=>by have:=b1 hq;cases this
   rw[if_neg (by decide),Zu he,ya];by_cases hv:e.1=pdv
   ·obtain⟨o,r1,r2⟩:=ZCl (a:=e.2) oo;rw[if_pos (by rw[hv];exact beq_self_eq_true _),ya,r1,ya,Zr (by omega)];exact⟨_,rfl,o,λhq=>(hb0 hq).elim,nxt _ (λhq=>r2 (by rw[hq])),rfl⟩
   ·rw[if_neg (by rw[beq_iff_eq];exact hv),Zr (by omega)];exact⟨_,rfl,false,λhq=>(hb0 hq).elim,nxt _ (λhq=>absurd (by rw[hq]) hv),rfl⟩) (by
  rintro _ ⟨b,b1,b2,rfl⟩;unfold ZK;dsimp only[e0];rw[if_neg (by rw[decide_eq_true_iff];show¬((r.length:Int) < (r.length:Int));omega)];exact⟨_,rfl,b,b1,b2,rfl⟩)
 refine⟨b,b1,λhm=> ?_,q1⟩;obtain⟨i,i1,i2⟩:=ycw hm;exact b2 i i1 (by rw[yac i1,i2])
theorem ZLF{x:Cx}(h:x.Ok){lk:List Lock}{fee:Int}{said hd:List Msg}{l:Lock}{w:Msg}{r:List Out}{g:Sig}(H:Hd x 0 lk fee said hd l w r g)(sg:Sig)(a:Nat)(p:Corsnedlaw21Play):
 ZW fuel (true,x.n,0,said,(1:Int),p,x.e0 lk fee sg said hd a (x.s,x.own 0))=some (.inl (true,x.n,0,said,(1:Int),p,x.e0 lk fee sg said hd a (x.s,x.own 0))):=by
 obtain⟨m1,m2,m3,m4⟩:=H.mem h (.inl rfl);obtain⟨i1,i2⟩:=Zve H.wf H.tx H.am;obtain⟨_,_,_,_,q5⟩:=ZIe h;have hhi:=h.c.hi;have f0:=h.f0;have p0:=h.s.p0;have p1:=h.s.p1;have ht:=h.s.tot;rw[h.e,show amtC ([]:List Cond)=0 from rfl] at ht
 have hh:0≤hav 0 x.h0 x.h1∧hav 0 x.h0 x.h1≤4300000000:=by
  unfold hav;split <;> omega
 have hg:x.s.2.1[(0:Int).toNat]? =some (hav 0 x.h0 x.h1):=by
  rw[h.s.hv];rfl
 have hsd:idx said 1=some (byM g):=by
  rw[H.sd];rfl
 have hO:x.ch.2.2.2.2=x.op:=rfl;have hT:x.ch.2.2.2.1=[Tm 5,Tm 6]:=rfl;obtain⟨b,b1,b2⟩:=ZCl (a:=x.own 0) (x.own_ok 0).1;have b2:=b2 rfl;subst b2;have hB:x.ch.2.2.1[(0:Int).toNat]? =some (ZJ (x.kt 0)):=x.bas_get (.inl rfl)
 have hb19:Yp fuel (true,x.n,0,said,(1:Int),(0:Int),hav 0 x.h0 x.h1,p,x.e0 lk fee sg said hd a (x.s,x.own 0,T' r))=some (true,x.n,0,said,(1:Int),(0:Int),x.pd 0,p,x.e0 lk fee sg said hd a (x.s,x.own 0,T' r)):=by
  unfold Yp;dsimp only[e0];unfold pd Zgk;rw[hO];by_cases hm:(0:Int)=x.op
  ·rw[if_pos (by rw[←hm];rfl),if_pos hm,ZD (by omega) (by omega)]
  ·rw[if_neg (by rw[beq_iff_eq];exact hm),if_neg hm]
 have hb20:Yq fuel (true,x.n,0,said,(1:Int),(0:Int),x.pd 0,p,x.e0 lk fee sg said hd a (x.s,x.own 0,T' r))=some (.inr (true,x.n,0,said,(1:Int),x.pd 0,p,x.e0 lk fee sg said hd a (x.s,x.own 0,T' r))):=by
  unfold Yq;dsimp only[e0];rw[if_neg (by decide),if_pos (by rfl),hB,ya,show Zd0 fuel (T' r)=_ from i1,ya,hsd,ya,show(ZJ (x.kt 0)).1=B (x.kt 0).1.toNat from rfl]
  rw[show(byM g).2.2.2.2.2.2.2.1=g from rfl,show sign_VerifyM fuel (B (x.kt 0).1.toNat) (named (plainF ([((z32,0),(0,[],0))],r,2097154))) g=some true from H.ve,ya,if_neg (by decide),hO]
  by_cases hm:(0:Int)=x.op
  ·rw[if_pos (by rw[←hm];rfl),m2 hm,if_neg (by simp),if_pos (by rfl),m4,ya,b1,ya,if_neg (by decide)]
  ·rw[if_neg (by rw[beq_iff_eq];exact hm),if_pos (by rfl),m4,ya,b1,ya,if_neg (by decide)]
 unfold ZW;dsimp only[e0] at hb19 hb20 ⊢;rw[hsd,ya,if_neg (by show¬((13:UInt8)!=13)=true;decide),H.mm,ya,if_pos (by rfl),hg,ya];dsimp only;rw[hb19,ya];dsimp only;rw[hb20,ya];dsimp only;rw[hT,yas,ya,Zh1,ya];by_cases hs:x.pd 0 ≥ 100
 ·obtain⟨c,c1,c2,c3⟩:=ZGr (x:=x) 0 said 1 (x.pd 0) false p lk fee sg said hd a (x.own 0) (x.own_ok 0).1 r m3;have c4:=c2 (m1 hs);subst c4;dsimp only[e0] at c3;rw[decide_eq_true hs,if_neg (by decide),yap,yas,ya,Zh1,ya,decide_eq_true hs,show(!true)=false from rfl,c3,ya]
  dsimp only;rw[if_neg (by decide)]
 ·obtain⟨c,c1,c2,c3⟩:=ZGr (x:=x) 0 said 1 (x.pd 0) true p lk fee sg said hd a (x.own 0) (x.own_ok 0).1 r m3;have c4:=c1 rfl;subst c4;dsimp only[e0] at c3;rw[decide_eq_false hs,if_pos (by decide),c3,ya];dsimp only;rw[if_neg (by decide)]
theorem ZK6{x:Cx}(h:x.Ok){lk:List Lock}{fee:Int}{said hd:List Msg}(hs:x.Sv 0 lk fee said hd)(sg:Sig)(a:Nat)(p:Corsnedlaw21Play):
 Zc (Yn fuel) fuel (true,x.n,0,said,(0:Int),p,x.e0 lk fee sg said hd a (x.s,x.own 0))=some (.inr (true,p,x.e0 lk fee sg said hd a (x.s,x.own 0))):=by
 have skip:∀(k:Nat)(r:Int)(b:List UInt8),said[k]? =some (YP r b)→ZW fuel (true,x.n,0,said,(k:Int),p,x.e0 lk fee sg said hd a (x.s,x.own 0))=some (.inl (true,x.n,0,said,(k:Int),p,x.e0 lk fee sg said hd a (x.s,x.own 0))):=by
  intro k r b hk;unfold ZW;dsimp only[e0];rw[Zu hk,ya,if_pos (by rfl)]
 have all:∀k:Nat,k < said.length→ZW fuel (true,x.n,0,said,(k:Int),p,x.e0 lk fee sg said hd a (x.s,x.own 0))=some (.inl (true,x.n,0,said,(k:Int),p,x.e0 lk fee sg said hd a (x.s,x.own 0))):=by
  intro k hk;rcases hs with⟨b,hb,rfl,rfl,rfl,rfl⟩|⟨l,w,r,g,H⟩
  ·match b,hb with
   |0,_=>exact absurd hk (by simp[sa])
   |1,_=>
    have:k=0:=by
     have hk:k < [x.cl 0].length:=hk;simpa using hk
    subst this;exact skip 0 _ _ rfl
  ·have hl:said.length=2:=by rw[H.sd];rfl
   rcases (show k=0∨k=1 by omega) with rfl|rfl
   ·refine skip 0 (rateOf x.op 0 x.n) (WY (x.own 0)) ?_;rw[H.sd];rfl
   ·exact ZLF h H sg a p
 have hlen:said.length≤2:=by
  rcases hs with⟨b,hb,rfl,rfl,rfl,rfl⟩|⟨l,w,r,g,H⟩
  ·exact x.sa_len _ _
  ·rw[H.sd];simp
 refine Z4 said.length (λk:Nat=>(true,x.n,0,said,(k:Int),p,x.e0 lk fee sg said hd a (x.s,x.own 0))) ?_ ?_ (by omega)
 ·intro k hk;have e:=all k hk;unfold Yn;dsimp only[e0] at e ⊢;rw[if_pos (Yk hk),e,ya];dsimp only;rw[Zr (by omega)]
 ·unfold Yn;dsimp only[e0];rw[if_neg (by rw[Z2];decide)]
theorem ZJU{x:Cx}{lk:List Lock}{fee:Int}{said hd:List Msg}(hs:x.Sv 0 lk fee said hd)(sg:Sig):Zv fuel x.ch (x.kt 0) 0 x.s.1 x.s.2.1 x.s.2.2.2 lk fee sg [] said hd=some (said,x.ch,x.kt 0,0,x.s.1,x.s.2.1,x.s.2.2.2,lk,fee,sg,[],said,hd):=by
 obtain⟨h1,h2,h3⟩:said.length≤2∧(∀m,m∈said→(byt m).length≤1000000000)∧Zd4 said=said:=by
  rcases hs with⟨b,hb,rfl,rfl,rfl,rfl⟩|⟨l,w,r,g,H⟩
  ·exact⟨x.sa_len _ _,x.sa_byt,x.sa_again _ _⟩
  ·rw[H.sd];refine⟨by simp,λy hy=> ?_,rfl⟩;simp only[ybg,yct,or_false] at hy;rcases hy with rfl|rfl
   ·exact x.byt_cl _
   ·show(0:Nat)≤_;omega
 rw[Zh4 (by omega) h2,h3]
theorem ZK7{x:Cx}(h:x.Ok){steps:List Ye}{k:Nat}{e:Ye}(he:steps[k]? =some e)(hb:e.2.2.2.2.1.length≤1048576){lk:List Lock}{fee:Int}{sg:Sig}{said hd:List Msg}(hs:x.Sv 1 lk fee said hd){a:Nat}(ha:a≤1)(p:Corsnedlaw21Play):
 ∃lk' fee' sg' said' hd' a',x.Sv 1 lk' fee' said' hd'∧a'≤1∧Ym fuel (steps,true,x.n,1,(k:Int),p,x.e1 lk fee sg said hd a x.s)=some (steps,true,x.n,1,(k:Int),p,x.e1 lk' fee' sg' said' hd' a' x.s):=by
 unfold Ym;dsimp only[e1];rw[Zu he,ya];by_cases h0:((bits .and .i64 e.1 1)==0)=true
 ·obtain⟨q,r,lk',fee',sg',said',hd',t1,t2⟩:=Zrl h (.inr rfl) hs sg (m:=x.cl 0) (x.cl_len 0);rw[if_pos h0,if_neg (by decide),if_pos (by rfl),x.start_e (.inl rfl) (a:=a) (by omega),ya];dsimp only[en];rw[x.again_e 0 (st a),ya];dsimp only[en];rw[ZK3 ha,show x.sa 0 1=[x.cl 0] from rfl,if_pos (by rfl),if_pos (by rfl),show(([x.cl 0]:List Msg).length:Int)=1 from rfl,Int.tmod_one,show idx [x.cl 0] 0=some (x.cl 0) from rfl,ya,t1,ya]
  exact⟨lk',fee',sg',said',hd',1,t2,by omega,rfl⟩
 ·obtain⟨q,r,lk',fee',sg',said',hd',t1,t2⟩:=Zrl h (.inr rfl) hs sg (m:=(e.2.2.2.1,0,0,(0,0,0,0,0),0,[],e.2.2.2.2.2.1,e.2.2.2.2.2.2,yzz,0,([],[],0),(0,0,0,0,0),(0,0,0,0,0,0),e.2.2.2.2.1)) hb;rw[if_neg h0,t1,ya];exact⟨lk',fee',sg',said',hd',a,t2,ha,rfl⟩
theorem ZK8{x:Cx}(h:x.Ok){steps:List Ye}(hl:steps.length≤20)(hb:∀e,e∈steps→e.2.2.2.2.1.length≤1048576)(p:Corsnedlaw21Play):
 ∃lk fee sg said hd a,x.Sv 1 lk fee said hd∧a≤1∧Zc (ZT fuel) fuel (steps,true,x.n,1,(0:Int),p,x.e1 (x.lk 1 0) (x.fe 1 0) (0,0) [] [] 0 x.s)=some (true,x.n,1,p,x.e1 lk fee sg said hd a x.s):=by
 obtain⟨q,q1,lk,fee,sg,said,hd,a,hs,ha,rfl⟩:=Z8 (step:=ZT fuel) steps.length (λk s=>∃lk fee sg said hd a,x.Sv 1 lk fee said hd∧a≤1∧s=(steps,true,x.n,1,(k:Int),p,x.e1 lk fee sg said hd a x.s)) (λs=>∃lk fee sg said hd a,x.Sv 1 lk fee said hd∧a≤1∧s=(true,x.n,1,p,x.e1 lk fee sg said hd a x.s)) (i:=(steps,true,x.n,1,(0:Int),p,x.e1 (x.lk 1 0) (x.fe 1 0) (0,0) [] [] 0 x.s)) ⟨_,_,_,_,_,0,.inl ⟨0,by omega,rfl,rfl,rfl,rfl⟩,by omega,rfl⟩ (by omega) (by
  rintro k _ hk ⟨lk,fee,sg,said,hd,a,hs,ha,rfl⟩;obtain⟨e,he,hm⟩:=Zl hk;obtain⟨lk',fee',sg',said',hd',a',t1,t2,t3⟩:=ZK7 h he (hb e hm) (sg:=sg) hs ha p;left;unfold ZT;dsimp only[e1] at t3 ⊢;rw[if_pos (Yk hk),t3,ya];dsimp only;rw[Zr (by omega)];exact⟨_,rfl,lk',fee',sg',said',hd',a',t1,t2,rfl⟩) (by
  rintro _ ⟨lk,fee,sg,said,hd,a,hs,ha,rfl⟩;unfold ZT;dsimp only[e1];rw[if_neg (by rw[Z2];decide)];exact⟨_,rfl,lk,fee,sg,said,hd,a,hs,ha,rfl⟩)
 exact⟨lk,fee,sg,said,hd,a,hs,ha,q1⟩
theorem ZGs{x:Cx}(z2:Int)(sa':List Msg)(k pdv:Int)(b0:Bool)(p:Corsnedlaw21Play)(lk:List Lock)(fee:Int)(sg:Sig)(said hd:List Msg)(a:Nat)(own:Lock)(oo:LockOk own)(r:List Out)(hr:r.length≤2):
 ∃b,(b0=true→b=true)∧((pdv,own)∈r→b=true)∧Zc (ZA fuel) fuel (true,x.n,z2,sa',k,pdv,b0,(0:Int),p,x.e1 lk fee sg said hd a (x.s,own,T' r))=some (true,x.n,z2,sa',k,b,p,x.e1 lk fee sg said hd a (x.s,own,T' r)):=by
 obtain⟨q,q1,b,b1,b2,rfl⟩:=Z8 (step:=ZA fuel) r.length (λj s=>∃b,(b0=true→b=true)∧(∀i:Nat,i < j→r[i]? =some (pdv,own)→b=true)∧s=(true,x.n,z2,sa',k,pdv,b,(j:Int),p,x.e1 lk fee sg said hd a (x.s,own,T' r))) (λs=>∃b,(b0=true→b=true)∧(∀i:Nat,i < r.length→r[i]? =some (pdv,own)→b=true)∧s=(true,x.n,z2,sa',k,b,p,x.e1 lk fee sg said hd a (x.s,own,T' r))) (i:=(true,x.n,z2,sa',k,pdv,b0,(0:Int),p,x.e1 lk fee sg said hd a (x.s,own,T' r))) ⟨b0,id,λi hi=>absurd hi (by omega),rfl⟩ (by omega) (by
  rintro j _ hj ⟨b,b1,b2,rfl⟩;obtain⟨e,he,_⟩:=Zl hj;have he:(T' r).2.1[j]? =some e:=he;left;unfold ZA;dsimp only[e1];rw[if_pos (Yk (show j < (T' r).2.1.length from hj))]
  cases b with
  |true=>
   rw[if_pos rfl,Zr (by omega)]
   exact⟨_,rfl,true,λ_=>rfl,λ_ _ _=>rfl,rfl⟩
  |false=>
   have nxt:∀b':Bool,(e=(pdv,own)→b'=true)→∀i:Nat,i < j+1→r[i]? =some (pdv,own)→b'=true:=by
    intro b' hq i hi hg;by_cases hij:i < j
    ·have:=b2 i hij hg;cases this
    ·have:i=j:=by omega
     subst this;rw[show r[i]? =some e from he] at hg
     cases hg;exact hq rfl
   have hb0:b0=true→False:=λhq=>by have:=b1 hq;cases this
   rw[if_neg (by decide),Zu he,ya];by_cases hv:e.1=pdv
   ·obtain⟨o,r1,r2⟩:=ZCl (a:=e.2) oo;rw[if_pos (by rw[hv];exact beq_self_eq_true _),ya,r1,ya,Zr (by omega)];exact⟨_,rfl,o,λhq=>(hb0 hq).elim,nxt _ (λhq=>r2 (by rw[hq])),rfl⟩
   ·rw[if_neg (by rw[beq_iff_eq];exact hv),Zr (by omega)];exact⟨_,rfl,false,λhq=>(hb0 hq).elim,nxt _ (λhq=>absurd (by rw[hq]) hv),rfl⟩) (by
  rintro _ ⟨b,b1,b2,rfl⟩;unfold ZA;dsimp only[e1];rw[if_neg (by rw[decide_eq_true_iff];show¬((r.length:Int) < (r.length:Int));omega)];exact⟨_,rfl,b,b1,b2,rfl⟩)
 refine⟨b,b1,λhm=> ?_,q1⟩;obtain⟨i,i1,i2⟩:=ycw hm;exact b2 i i1 (by rw[yac i1,i2])
theorem ZLG{x:Cx}(h:x.Ok){lk:List Lock}{fee:Int}{said hd:List Msg}{l:Lock}{w:Msg}{r:List Out}{g:Sig}(H:Hd x 1 lk fee said hd l w r g)(sg:Sig)(a:Nat)(p:Corsnedlaw21Play):
 ZF fuel (true,x.n,1,said,(1:Int),p,x.e1 lk fee sg said hd a (x.s,x.own 1))=some (.inl (true,x.n,1,said,(1:Int),p,x.e1 lk fee sg said hd a (x.s,x.own 1))):=by
 obtain⟨m1,m2,m3,m4⟩:=H.mem h (.inr rfl);obtain⟨i1,i2⟩:=Zve H.wf H.tx H.am;obtain⟨_,_,_,_,q5⟩:=ZIe h;have hhi:=h.c.hi;have f0:=h.f0;have p0:=h.s.p0;have p1:=h.s.p1;have ht:=h.s.tot;rw[h.e,show amtC ([]:List Cond)=0 from rfl] at ht
 have hh:0≤hav 1 x.h0 x.h1∧hav 1 x.h0 x.h1≤4300000000:=by
  unfold hav;split <;> omega
 have hg:x.s.2.1[(1:Int).toNat]? =some (hav 1 x.h0 x.h1):=by
  rw[h.s.hv];rfl
 have hsd:idx said 1=some (byM g):=by
  rw[H.sd];rfl
 have hO:x.ch.2.2.2.2=x.op:=rfl;have hT:x.ch.2.2.2.1=[Tm 5,Tm 6]:=rfl;obtain⟨b,b1,b2⟩:=ZCl (a:=x.own 1) (x.own_ok 1).1;have b2:=b2 rfl;subst b2;have hB:x.ch.2.2.1[(1:Int).toNat]? =some (ZJ (x.kt 1)):=x.bas_get (.inr rfl)
 have hb19:Z5 fuel (true,x.n,1,said,(1:Int),(0:Int),hav 1 x.h0 x.h1,p,x.e1 lk fee sg said hd a (x.s,x.own 1,T' r))=some (true,x.n,1,said,(1:Int),(0:Int),x.pd 1,p,x.e1 lk fee sg said hd a (x.s,x.own 1,T' r)):=by
  unfold Z5;dsimp only[e1];unfold pd Zgk;rw[hO];by_cases hm:(1:Int)=x.op
  ·rw[if_pos (by rw[←hm];rfl),if_pos hm,ZD (by omega) (by omega)]
  ·rw[if_neg (by rw[beq_iff_eq];exact hm),if_neg hm]
 have hb20:Z6 fuel (true,x.n,1,said,(1:Int),(0:Int),x.pd 1,p,x.e1 lk fee sg said hd a (x.s,x.own 1,T' r))=some (.inr (true,x.n,1,said,(1:Int),x.pd 1,p,x.e1 lk fee sg said hd a (x.s,x.own 1,T' r))):=by
  unfold Z6;dsimp only[e1];rw[if_neg (by decide),if_pos (by rfl),hB,ya,show Zd0 fuel (T' r)=_ from i1,ya,hsd,ya,show(ZJ (x.kt 1)).1=B (x.kt 1).1.toNat from rfl]
  rw[show(byM g).2.2.2.2.2.2.2.1=g from rfl,show sign_VerifyM fuel (B (x.kt 1).1.toNat) (named (plainF ([((z32,0),(0,[],0))],r,2097154))) g=some true from H.ve,ya,if_neg (by decide),hO]
  by_cases hm:(1:Int)=x.op
  ·rw[if_pos (by rw[←hm];rfl),m2 hm,if_neg (by simp),if_pos (by rfl),m4,ya,b1,ya,if_neg (by decide)]
  ·rw[if_neg (by rw[beq_iff_eq];exact hm),if_pos (by rfl),m4,ya,b1,ya,if_neg (by decide)]
 unfold ZF;dsimp only[e1] at hb19 hb20 ⊢;rw[hsd,ya,if_neg (by show¬((13:UInt8)!=13)=true;decide),H.mm,ya,if_pos (by rfl),hg,ya];dsimp only;rw[hb19,ya];dsimp only;rw[hb20,ya];dsimp only;rw[hT,yas,ya,Zh1,ya];by_cases hs:x.pd 1 ≥ 100
 ·obtain⟨c,c1,c2,c3⟩:=ZGs (x:=x) 1 said 1 (x.pd 1) false p lk fee sg said hd a (x.own 1) (x.own_ok 1).1 r m3;have c4:=c2 (m1 hs);subst c4;dsimp only[e1] at c3;rw[decide_eq_true hs,if_neg (by decide),yap,yas,ya,Zh1,ya,decide_eq_true hs,show(!true)=false from rfl,c3,ya]
  dsimp only;rw[if_neg (by decide)]
 ·obtain⟨c,c1,c2,c3⟩:=ZGs (x:=x) 1 said 1 (x.pd 1) true p lk fee sg said hd a (x.own 1) (x.own_ok 1).1 r m3;have c4:=c1 rfl;subst c4;dsimp only[e1] at c3;rw[decide_eq_false hs,if_pos (by decide),c3,ya];dsimp only;rw[if_neg (by decide)]
theorem ZK9{x:Cx}(h:x.Ok){lk:List Lock}{fee:Int}{said hd:List Msg}(hs:x.Sv 1 lk fee said hd)(sg:Sig)(a:Nat)(p:Corsnedlaw21Play):
 Zc (Yf fuel) fuel (true,x.n,1,said,(0:Int),p,x.e1 lk fee sg said hd a (x.s,x.own 1))=some (.inr (true,p,x.e1 lk fee sg said hd a (x.s,x.own 1))):=by
 have skip:∀(k:Nat)(r:Int)(b:List UInt8),said[k]? =some (YP r b)→ZF fuel (true,x.n,1,said,(k:Int),p,x.e1 lk fee sg said hd a (x.s,x.own 1))=some (.inl (true,x.n,1,said,(k:Int),p,x.e1 lk fee sg said hd a (x.s,x.own 1))):=by
  intro k r b hk;unfold ZF;dsimp only[e1];rw[Zu hk,ya,if_pos (by rfl)]
 have all:∀k:Nat,k < said.length→ZF fuel (true,x.n,1,said,(k:Int),p,x.e1 lk fee sg said hd a (x.s,x.own 1))=some (.inl (true,x.n,1,said,(k:Int),p,x.e1 lk fee sg said hd a (x.s,x.own 1))):=by
  intro k hk;rcases hs with⟨b,hb,rfl,rfl,rfl,rfl⟩|⟨l,w,r,g,H⟩
  ·match b,hb with
   |0,_=>exact absurd hk (by simp[sa])
   |1,_=>
    have:k=0:=by
     have hk:k < [x.cl 1].length:=hk;simpa using hk
    subst this;exact skip 0 _ _ rfl
  ·have hl:said.length=2:=by rw[H.sd];rfl
   rcases (show k=0∨k=1 by omega) with rfl|rfl
   ·refine skip 0 (rateOf x.op 1 x.n) (WY (x.own 1)) ?_;rw[H.sd];rfl
   ·exact ZLG h H sg a p
 have hlen:said.length≤2:=by
  rcases hs with⟨b,hb,rfl,rfl,rfl,rfl⟩|⟨l,w,r,g,H⟩
  ·exact x.sa_len _ _
  ·rw[H.sd];simp
 refine Z4 said.length (λk:Nat=>(true,x.n,1,said,(k:Int),p,x.e1 lk fee sg said hd a (x.s,x.own 1))) ?_ ?_ (by omega)
 ·intro k hk;have e:=all k hk;unfold Yf;dsimp only[e1] at e ⊢;rw[if_pos (Yk hk),e,ya];dsimp only;rw[Zr (by omega)]
 ·unfold Yf;dsimp only[e1];rw[if_neg (by rw[Z2];decide)]
theorem ZJV{x:Cx}{lk:List Lock}{fee:Int}{said hd:List Msg}(hs:x.Sv 1 lk fee said hd)(sg:Sig):Zv fuel x.ch (x.kt 1) 1 x.s.1 x.s.2.1 x.s.2.2.2 lk fee sg [] said hd=some (said,x.ch,x.kt 1,1,x.s.1,x.s.2.1,x.s.2.2.2,lk,fee,sg,[],said,hd):=by
 obtain⟨h1,h2,h3⟩:said.length≤2∧(∀m,m∈said→(byt m).length≤1000000000)∧Zd4 said=said:=by
  rcases hs with⟨b,hb,rfl,rfl,rfl,rfl⟩|⟨l,w,r,g,H⟩
  ·exact⟨x.sa_len _ _,x.sa_byt,x.sa_again _ _⟩
  ·rw[H.sd];refine⟨by simp,λy hy=> ?_,rfl⟩;simp only[ybg,yct,or_false] at hy;rcases hy with rfl|rfl
   ·exact x.byt_cl _
   ·show(0:Nat)≤_;omega
 rw[Zh4 (by omega) h2,h3]
theorem safe{p:Corsnedlaw21Play}(hp:PlayOk p)(sd:UInt8){z:Int}(z0:0≤z)(z1:z≤65535){steps:List Ye}(hb:∀e,e∈steps→e.2.2.2.2.1.length≤1048576):YM fuel p sd z steps=some true:=by
 obtain⟨x,h,hx⟩:=ZHR hp z0 z1;unfold YM;rw[ya,hx,ya];dsimp only;by_cases ho:(steps.length:Int) > 20
 ·rw[if_pos (decide_eq_true ho)]
 rw[if_neg (by rw[decide_eq_true_iff];exact ho),if_neg (by decide)];have hO:∀i:Int,i=0∨i=1→x.ch.2.2.1[i.toNat]? =some (ZJ (x.kt i)):=λi hi=>x.bas_get hi;rcases ZAM sd with hw|hw
 ·obtain⟨lk,fee,sg,said,hd,a,hs,ha,e0⟩:=ZK5 h (by omega) hb p;have e0:Zc (ZY fuel) fuel (steps,true,x.n,(0:Int),(0:Int),p,x.ch,x.kt 0,0,x.s.1,x.s.2.1,x.s.2.2.2,x.lk 0 0,x.fe 0 0,(0,0),x.ch,x.kt 1,1,x.s.1,x.s.2.1,x.s.2.2.2,x.lk 1 0,x.fe 1 0,(0,0),[],[],[],[],[],[],x.ch,x.s)=some (true,x.n,(0:Int),p,x.e0 lk fee sg said hd a x.s):=e0;have e1:=ZK6 h hs sg a p;dsimp only[Cx.e0] at e0 e1;rw[hw,if_pos (by rfl),e0,ya];dsimp only;rw[ZJU hs sg,ya];dsimp only;rw[if_pos (by rfl),hO 0 (.inl rfl),ya,show(ZJ (x.kt 0)).2.1=B (x.kt 0).2.1.toNat from rfl,ZpA,ya]
  rw[show([([B (x.kt 0).2.1.toNat],0,0,0)]:Lock)=x.own 0 from rfl,e1,ya]
 ·obtain⟨lk,fee,sg,said,hd,a,hs,ha,e0⟩:=ZK8 h (by omega) hb p;have e0:Zc (ZT fuel) fuel (steps,true,x.n,(1:Int),(0:Int),p,x.ch,x.kt 0,0,x.s.1,x.s.2.1,x.s.2.2.2,x.lk 0 0,x.fe 0 0,(0,0),x.ch,x.kt 1,1,x.s.1,x.s.2.1,x.s.2.2.2,x.lk 1 0,x.fe 1 0,(0,0),[],[],[],[],[],[],x.ch,x.s)=some (true,x.n,(1:Int),p,x.e1 lk fee sg said hd a x.s):=e0;have e1:=ZK9 h hs sg a p;dsimp only[Cx.e1] at e0 e1;rw[hw,if_neg (by decide),if_pos (by rfl),e0,ya];dsimp only;rw[ZJV hs sg,ya];dsimp only;rw[if_pos (by rfl),hO 1 (.inr rfl),ya,show(ZJ (x.kt 1)).2.1=B (x.kt 1).2.1.toNat from rfl,ZpA,ya]
  rw[show([([B (x.kt 1).2.1.toNat],0,0,0)]:Lock)=x.own 1 from rfl,e1,ya]
end
end Cx
end Go.Proofs.YtmkgbalfkhaflaaGreat
end
section
namespace Go.Ev
open Go.RowKit Go.WideShapes Go.ChangeShapes
mutual
def Pl.le(N:Nat):Pl→Prop
 |.sl _ _ xs=>xs.length≤N∧Pl.leL N xs
 |.arr _ _ xs=>Pl.leL N xs
 |.agg xs=>Pl.leL N xs
 |_=>True
def Pl.leL(N:Nat):List Pl→Prop
 |[]=>True
 |x::r=>Pl.le N x∧Pl.leL N r
end
theorem Zxi{N:Nat}:∀{l:List Pl},(∀y,y∈l→Pl.le N y)→Pl.leL N l
 |[],_=>trivial
 |x::r,h=>⟨h x (yav ..),Zxi λy hy=>h y (yaw _ hy)⟩
theorem ZCm{N:Nat}:∀{l:List Pl},Pl.leL N l→∀y,y∈l→Pl.le N y
 |x::r,h,y,hy=>by
  rcases ybg.1 hy with rfl|hy
  ·exact h.1
  ·exact ZCm h.2 y hy
def ZLa{H:Type}(bk:DataW H→Nat):Prop:=(∀elems rest,elems.length≤bk (.slice elems rest)∧∀d,d∈elems→bk d≤bk (.slice elems rest))∧∀parts,∀d,d∈parts→bk d≤bk (.agg parts)
def Qd{H:Type}(d:DataW H)(x:Pl):Prop:=∀bk:DataW H→Nat,ZLa bk→∀N,bk d≤N→Pl.le N x
section
variable{H:Type}{enc:yb×yh→H}{P:Program}{w:World}{base:Nat}{sp:Nat→Bool}{held:Bool}
theorem Zzg{e:yb}{n m:Nat}{a:Addr}{s:Nat}(hs:0 < s){elems:List (DataW H×List MemPlace)}{len:Nat}(hlen:elems.length=len)
 (ih:∀(cs:List yh)(x:DataW H×List MemPlace),DataW.trod enc P w base sp held m e cs=some x→cs.length=s→∃pl,wtP P n e pl∧repC w ZwD pl cs∧Qd x.1 pl)
 (h:∀i,i < len→(w.cells? base (a.add (i*s)) s).bind (DataW.trod enc P w base sp held m e)=elems[i]?):
 ∀k,k≤len→∃(xs:List Pl)(us:List yh),xs.length=k∧(∀y,y∈xs→wtP P n e y∧∃z,z∈elems.map (·.1)∧Qd z y)∧allSz s xs∧us.length=k*s∧repCs w ZwD xs us∧(∀j u,us[j]? =some u→w.cell? (a.add j)=some u)
 |0,_=>⟨[],[],rfl,(λy hy=>by cases hy),(λy hy=>by cases hy),by simp,by simp[repCs],by simp⟩
 |k+1,hk=>by
  obtain⟨xs,us,h1,h2,h3,h4,h5,h6⟩:=Zzg hs hlen ih h k (by omega);have hk':=h k (by omega);rw[yac (by omega)] at hk';obtain⟨cs,hc,ht⟩:=yf.1 hk';obtain⟨c1,c2⟩:=ZDd hc;obtain⟨pl,p1,p2,p3⟩:=ih cs _ ht c1;have psz:pl.size=s:=by rw[←We _ _ p2,c1]
  refine⟨xs++[pl],us++cs,by simp[h1],λy hy=> ?_,λy hy=> ?_,by simp[h4,c1,Nat.add_mul],YI h5 (by simpa[repCs] using p2),λj u hu=> ?_⟩
  ·rcases ych.1 hy with hy|hy
   ·exact h2 y hy
   ·rw[yaq.1 hy];exact⟨p1,_,List.mem_map.2 ⟨_,List.getElem_mem _,rfl⟩,p3⟩
  ·rcases ych.1 hy with hy|hy
   ·exact h3 y hy
   ·rw[yaq.1 hy];exact psz
  ·by_cases hj:j < us.length
   ·rw[List.getElem?_append_left hj] at hu;exact h6 j u hu
   ·rw[yat (by omega)] at hu;have:=c2 _ _ hu;rw[Addr.add_add] at this;rw[←this];congr 2;omega
theorem Zvr{e:yb}{n m:Nat}{s:Nat}{cs:List yh}{elems:List (DataW H×List MemPlace)}{len:Nat}(hlen:elems.length=len)(hcs:cs.length=len*s)
 (ih:∀(cs:List yh)(x:DataW H×List MemPlace),DataW.trod enc P w base sp held m e cs=some x→cs.length=s→∃pl,wtP P n e pl∧repC w ZwD pl cs∧Qd x.1 pl)
 (h:∀i,i < len→DataW.trod enc P w base sp held m e ((cs.drop (i*s)).take s)=elems[i]?):
 ∀k,k≤len→∃(xs:List Pl),xs.length=k∧(∀y,y∈xs→wtP P n e y∧∃z,z∈elems.map (·.1)∧Qd z y)∧allSz s xs∧repCs w ZwD xs (cs.take (k*s))
 |0,_=>⟨[],rfl,(λy hy=>by cases hy),(λy hy=>by cases hy),by simp[repCs]⟩
 |k+1,hk=>by
  obtain⟨xs,h1,h2,h3,h5⟩:=Zvr hlen hcs ih h k (by omega);have hk':=h k (by omega);rw[yac (by omega)] at hk';have hle:k*s+s≤len*s:=by rw[←Nat.succ_mul];exact ybx _ hk
  have c1:((cs.drop (k*s)).take s).length=s:=by simp;omega
  obtain⟨pl,p1,p2,p3⟩:=ih _ _ hk' c1;have psz:pl.size=s:=by rw[←We _ _ p2,c1]
  refine⟨xs++[pl],by simp[h1],λy hy=> ?_,λy hy=> ?_, ?_⟩
  ·rcases ych.1 hy with hy|hy
   ·exact h2 y hy
   ·rw[yaq.1 hy];exact⟨p1,_,List.mem_map.2 ⟨_,List.getElem_mem _,rfl⟩,p3⟩
  ·rcases ych.1 hy with hy|hy
   ·exact h3 y hy
   ·rw[yaq.1 hy];exact psz
  ·rw[Nat.add_mul,Nat.one_mul,List.take_add];exact YI h5 (by simpa[repCs] using p2)
theorem Ztz{n m:Nat}{cs:List yh}
 (ih:∀(t:yb),YA P n t=true→∀(cs:List yh)(x:DataW H×List MemPlace),DataW.trod enc P w base sp held m t cs=some x→∃pl,wtP P n t pl∧repC w ZwD pl cs∧Qd x.1 pl) {D:List (DataW H)}:
 ∀(fs:List Field)(o:Nat),(∀f,f∈fs→YA P n f.type=true)→(∀(j:Nat)f,fs[j]? =some f→f.offset=o+((fs.take j).map λf=>P.cellsOf f.type).sum)→
  cs.length=o+(fs.map λf=>P.cellsOf f.type).sum→(∀(j:Nat)f,fs[j]? =some f→∃x,DataW.trod enc P w base sp held m f.type ((cs.drop f.offset).take (P.cellsOf f.type))=some x∧x.1∈D)→
  ∃(xs:List Pl),ZHq (wtP P n) fs xs∧repCs w ZwD xs (cs.drop o)∧∀y,y∈xs→∃z,z∈D∧Qd z y
 |[],o,_,_,hl,_=>⟨[],trivial,by simp only[repCs];apply List.drop_eq_nil_of_le;simp at hl;omega,λy hy=>by cases hy⟩
 |f::fs,o,hp,ho,hl,h=>by
  obtain⟨x,hx,hxD⟩:=h 0 f rfl;have ho0:=ho 0 f rfl;simp at ho0;rw[ho0] at hx;obtain⟨pl,p1,p2,p3⟩:=ih f.type (hp f (yav ..)) _ _ hx;simp only[yaf,List.sum_cons] at hl
  obtain⟨xs,q1,q2,q3⟩:=Ztz ih fs (o+P.cellsOf f.type) (λg hg=>hp g (yaw _ hg)) (λj g hg=>by
   have:=ho (j+1) g hg;simp only[List.take_succ_cons,yaf,List.sum_cons] at this;omega) (by omega) (λj g hg=>h (j+1) g hg)
  refine⟨pl::xs,⟨p1,q1⟩, ?_,λy hy=> ?_⟩
  rotate_left
  ·rcases ybg.1 hy with rfl|hy
   ·exact⟨_,hxD,p3⟩
   ·exact q3 y hy
  simp only[repCs];refine⟨(cs.drop o).take (P.cellsOf f.type),(cs.drop o).drop (P.cellsOf f.type),(List.take_append_drop ..).symm,p2, ?_⟩;rw[List.drop_drop];exact q2
theorem ZGt:∀(n m:Nat)(t:yb),YA P n t=true→∀(cs:List yh)(x:DataW H×List MemPlace),DataW.trod enc P w base sp held m t cs=some x→∃pl,wtP P n t pl∧repC w ZwD pl cs∧Qd x.1 pl:=by
 intro n
 induction n with
 |zero=>intro m t h;simp[YA] at h
 |succ n ih=>
  intro m t ht cs x h;unfold YA at ht;split at ht
  ·rename_i hu;obtain⟨b,rfl,_⟩:=DataW.trod_bool hu h;exact⟨.bool b,by simp[wtP,hu],by simp[repC],λ_ _ _ _=>ytt⟩
  ·rename_i k hu;obtain⟨z,rfl,rfl,hw⟩:=DataW.trod_int hu h;exact⟨.int k z,by simp[wtP,hu,hw],by simp[repC],λ_ _ _ _=>ytt⟩
  ·rename_i hu;obtain⟨s,rfl,h2⟩:=DataW.trod_string hu h;exact⟨.str s,by simp[wtP,hu];exact h2.2,by simp[repC],λ_ _ _ _=>ytt⟩
  ·rename_i e hu;simp only[yj,decide_eq_true_eq] at ht;rcases DataW.trod_slice hu h with⟨rfl,rfl⟩|⟨a,len,cap,elems,rest,m',rfl,rfl,rfl,_,hle,hcap,hlen,hel,_⟩
   ·exact⟨.sl none (P.cellsOf e) [],by simp[wtP,hu],by simp only[repC];exact⟨(λy hy=>by cases hy),none,0,rfl,yn _,Nat.zero_le _,Yx _,λ_=>rfl,λh=>absurd rfl h⟩,λ_ _ _ _=>⟨Nat.zero_le _,ytt⟩⟩
   ·obtain⟨xs,us,h1,h2,h3,h4,h5,h6⟩:=Zzg (n:=n) ht.2 hlen (λcs x hx _=>ih m' e ht.1 cs x hx) hel len (yn _);refine⟨.sl none (P.cellsOf e) xs,by simp only[wtP,hu];exact⟨trivial,trivial,by omega,λy hy=>(h2 y hy).1⟩, ?_,λbk hb N hN=> ?_⟩
    rotate_left
    ·obtain⟨w1,w2⟩:=hb.1 (elems.map (·.1)) (rest.map (·.1));refine⟨?_,Zxi λy hy=> ?_⟩
     ·rw[List.length_map] at w1;have hN':bk (.slice (elems.map (·.1)) (rest.map (·.1)))≤N:=hN;omega
     ·obtain⟨_,z,z1,z2⟩:=h2 y hy;exact z2 bk hb N (Nat.le_trans (w2 z z1) hN)
    simp only[repC];refine⟨h3,some a,cap,by rw[h1],by omega,hcap,Yx _,by simp,λhne=> ?_⟩
    have hpos:0 < us.length:=by
     rw[h4];have:0 < len:=by rw[←h1];exact List.length_pos_iff.2 hne
     exact Nat.mul_pos this ht.2
    have hc0:=h6 0 us[0] (yac hpos);obtain⟨b,o,spot⟩:=a
    have hspot:spot=none:=by
     cases spot with
     |none=>rfl
     |some z=>
      exfalso;unfold World.cell? at hc0;split at hc0
      ·simp[Addr.add] at hc0
      ·cases hc0
    subst hspot;exact⟨b,o,us,rfl,h5,λj u hu=>⟨by have:=h6 j u hu;rwa [Addr.add_lit] at this,ytt⟩⟩
  ·rename_i k e hu;simp only[yj,beq_iff_eq] at ht;obtain⟨elems,m',rfl,rfl,hl,hlen,hel⟩:=DataW.trod_array hu h;obtain⟨xs,h1,h2,h3,h4⟩:=Zvr (n:=n) (s:=P.cellsOf e) hlen (by rw[hl,ht.2]) (λcs x hx _=>ih m' e ht.1 cs x hx) hel k (yn _);rw[List.take_of_length_le (by rw[hl,ht.2];exact yn _)] at h4;refine⟨.arr k (P.cellsOf e) xs,by simp only[wtP,hu];exact⟨trivial,trivial,h1,λy hy=>(h2 y hy).1⟩,by simp only[repC];exact⟨h1,h3,h4⟩,λbk hb N hN=>Zxi λy hy=> ?_⟩;obtain⟨_,z,z1,z2⟩:=h2 y hy;exact z2 bk hb N (Nat.le_trans (hb.2 _ z z1) hN)
  ·rename_i fs hu;simp only[yj,beq_iff_eq,List.all_eq_true] at ht;obtain⟨⟨t1,t2⟩,t3⟩:=ht;obtain⟨elems,m',rfl,rfl,hl,hlen,hel⟩:=DataW.trod_struct hu h
   obtain⟨xs,q1,q2,q3⟩:=Ztz (D:=elems.map (·.1)) (n:=n) (m:=m') (cs:=cs) (λt ht cs x hx=>ih m' t ht cs x hx) fs.toList 0 t1 (λj f hf=>by
    have hj:j < fs.toList.length:=(yr.1 hf).1;have:=t3 j (by simpa using hj);rw[hf] at this;simpa using this) (by rw[hl,t2];omega) (λj f hf=>by
    have hj:j < fs.toList.length:=(yr.1 hf).1;have:=hel j f (by simpa using hf);rw[yac (by rw[hlen];simpa using hj)] at this;exact⟨_,this,List.mem_map.2 ⟨_,List.getElem_mem _,rfl⟩⟩)
   refine⟨.agg xs,by simp only[wtP,hu];exact q1,by simp only[repC];simpa using q2,λbk hb N hN=>Zxi λy hy=> ?_⟩;obtain⟨z,z1,z2⟩:=q3 y hy;exact z2 bk hb N (Nat.le_trans (hb.2 _ z z1) hN)
  ·cases ht
end
end Go.Ev
namespace Go.Ev
open Go.RowKit Go.WideShapes Go.ChangeShapes
section
variable{H:Type}{enc:yb×yh→H}{P:Program}
theorem Zzh{W:World}{n:Nat}(hval:∀(t:yb)(v:yh),X7 P t=true→Value.okWide P W .any 0 t v→∃a,v=.agg a):
 ∀(ts:List yb)(vs:List yh)(ds:List (DataW H))(ps:List MemPlace),(∀t,t∈ts→YA P n t=true)→(∀(j:Nat)t v,ts[j]? =some t→vs[j]? =some v→(X7 P t=true→∃a,v=.agg a)∧(X7 P t=false→v.cells.toList=[v]))→
  DataW.TrodAll enc P W 0 (λ_=>true) true ts vs ds ps→∃xs,ZHr P n ts xs∧repVs (sg0 W) (xs.map .p) vs∧∀x,x∈xs→∃d,d∈ds∧Qd d x
 |[],[],[],_,_,_,_=>⟨[],trivial,by simp[repVs],λx hx=>by cases hx⟩
 |[],_::_,_,_,_,_,h=>by simp[DataW.TrodAll] at h
 |[],[],_::_,_,_,_,h=>by simp[DataW.TrodAll] at h
 |_::_,[],_,_,_,_,h=>by simp[DataW.TrodAll] at h
 |_::_,_::_,[],_,_,_,h=>by simp[DataW.TrodAll] at h
 |t::ts,v::vs,d::ds,ps,hp,hv,h=>by
  obtain⟨p,q,⟨fuel,h1⟩,h2,rfl⟩:=h;obtain⟨x,x1,x2,x3⟩:=ZGt n fuel t (hp t (yav ..)) _ _ h1;obtain⟨xs,xs1,xs2,xs3⟩:=Zzh hval ts vs ds q (λu hu=>hp u (yaw _ hu)) (λj u w' hj hw=>hv (j+1) u w' hj hw) h2;obtain⟨v1,v2⟩:=hv 0 t v rfl rfl;refine⟨x::xs,⟨x1,xs1⟩, ?_,λy hy=> ?_⟩
  rotate_left
  ·rcases ybg.1 hy with rfl|hy
   ·exact⟨_,yav ..,x3⟩
   ·obtain⟨z,z1,z2⟩:=xs3 y hy;exact⟨z,yaw _ z1,z2⟩
  simp only[yaf,repVs];have ha:=ZI9 x1;exact⟨v,vs,rfl,ZsB x2 rfl (λe=>v1 (by rw[←ha];exact e)) (λe=>v2 (by rw[←ha];exact e)),xs2⟩
theorem ZqW{f:FuncId}{fn:Func}{s:ChangeSpec}{n:Nat}{tb:yb}(hr:fn.resultTypes= #[tb])(ht:P.underlying tb=some .bool)(hv:s.vars=[])
 (hs:∀ds:List (DataW H),ds.length=fn.params.toList.length→s.fn H ds={ results:=[.lit (.bool true)],args:=ds}) (hp:∀t,t∈fn.params.toList→YA P n t=true)
 (W:World) (base:Nat) (args:Array yh) (ds gs:List (DataW H)) (before:List MemPlace)
 (hval:∀(j:Nat)t v,fn.params[j]? =some t→args[j]? =some v→Value.okWide P W .any base t v) (hW:DataW.Whole enc P fn.params.toList s.vars false W args.toList ds gs before)
 (hc:∀xs:List Pl,ZHr P n fn.params.toList xs→(∀x,x∈xs→∃d,d∈ds∧Qd d x)→Con P f (xs.map .p) [] (.p (.bool true)) []):
 Calls P f args W λe W'=>∃v,e=.returned v∧s.post enc P fn false true false false W args v W':=by
 have hW':=hW;obtain⟨p,q,hA,hV,rfl,hfz,hnd⟩:=hW;rw[hv] at hV
 obtain⟨rfl,rfl⟩:gs=[]∧q=[]:=by
  cases gs with
  |nil=>exact⟨rfl,hV⟩
  |cons g r=>simp[DataW.TrodVars] at hV
 have hlen:=trodAll_length hA
 obtain⟨xs,x1,x2,x3⟩:=Zzh (enc:=enc) (P:=P) (W:=W) (n:=n) (λt v ha hok=>by
  unfold Value.okWide at hok;unfold X7 at ha;split at hok
  ·obtain⟨cs,rfl,_⟩:=hok;exact⟨cs,rfl⟩
  ·obtain⟨cs,rfl,_⟩:=hok;exact⟨cs,rfl⟩
  ·rename_i h1 h2;split at ha
   ·rename_i fs hu;exact absurd hu (h1 fs)
   ·rename_i k e hu;exact absurd hu (h2 k e)
   ·cases ha) fn.params.toList args.toList ds p hp (λj t v hj hvv=>by
  have hok:=hval j t v (by simpa using hj) (by simpa using hvv);refine⟨λha=> ?_,λha=> ?_⟩
  ·unfold Value.okWide at hok;unfold X7 at ha;split at hok
   ·obtain⟨cs,rfl,_⟩:=hok;exact⟨cs,rfl⟩
   ·obtain⟨cs,rfl,_⟩:=hok;exact⟨cs,rfl⟩
   ·rename_i h1 h2;split at ha
    ·rename_i fs hu;exact absurd hu (h1 fs)
    ·rename_i k e hu;exact absurd hu (h2 k e)
    ·cases ha
  ·obtain⟨m,hm⟩:∃m,YA P (m+1) t=true:=by
    have:=hp t (List.mem_of_getElem? hj)
    cases n with
    |zero=>simp[YA] at this
    |succ n=>exact⟨n,this⟩
   unfold Value.okWide at hok;unfold YA at hm;unfold X7 at ha;split at hm <;> rename_i hu <;> simp only[hu] at hok ha
   all_goals first
    |(cases ha;done)
    |(cases hm;done)
    |(unfold Cell.okWide Cell.ok at hok;simp only[hu] at hok;cases v <;> first|rfl|(simp at hok;done))) hA
 have hcall:=hc xs x1 x3 (sg0 W) args.toList (ZI8 W) rfl x2;rw[Array.toArray_toList] at hcall;refine Calls.mono hcall ?_;rintro e W' ⟨v,σ',rfl,rfl,hH,hto,hok,hrep⟩;have hbv:v=.bool true:=by simpa[repDV,Dv.isAgg,Pl.isAgg,repD,repC] using hrep
 subst hbv;have hb:=ZyE hto;simp only[ybh] at hW';have hlt:=hW'.lt
 have hsame:∀z∈p,W.sameAt σ'.w z:=by
  intro z hz;have hz':=hlt z hz
  cases z with
  |cell b o=>exact hb.cell (p:=⟨b,o,none⟩) hz'
  |map b=>exact hb.block b hz'
 have hfn:=hs ds hlen.2;refine⟨_,rfl,ZsC (pa:=p) (pv:=[]) hW' (λb sp hd=> ?_) (λsp h=> ?_) (λsp h=> ?_) (by simp) hb ?_⟩
 ·rw[ybh,hfn,hr];exact trodAll_cons_mk (shut_bool ht _) trodAll_mk0
 ·rw[ybh,hfn];exact Zl2 fn.params.toList args.toList ds p hp hA hsame h
 ·rw[ybh,hfn,hv];rfl
 ·intro j t r hj hjr;rw[hr] at hj hjr
  cases j with
  |zero=>
   simp at hj;subst hj;have:r=.bool true:=by simpa[Value.resultList] using hjr.symm
   subst this
   exact okWide_bool_mk ht _
  |succ j=>simp at hj
end
end Go.Ev
end
