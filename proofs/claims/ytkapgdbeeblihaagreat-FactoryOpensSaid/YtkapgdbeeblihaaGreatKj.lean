/- Parts of the proof, in one file. -/
import Derived.Test.YtkapgdbeeblihaaGreatKi
open Int renaming tdiv → yl, tmod → yac
open List renaming length_map → yw
open Option renaming bind_some → ya
set_option linter.unusedVariables false
set_option linter.unusedSimpArgs false
section
set_option maxRecDepth 10000
namespace Go.Proofs.YtkapgdbeeblihaaGreat
open Go Go.Ev
theorem ZAf{a:List UInt64}(h:a.length≤1000000):ZaB fuel a a=some true:=by
 unfold ZaB;rw[if_neg (by simp)]
 have g:=ZV (step:=X0 fuel) a.length (λk:Nat=>(a,a,(a.length:Int),(k:Int))) (x:=.inr ()) (by
  intro k hk;obtain⟨e,he,_⟩:=Zr hk;unfold X0;dsimp only;rw[if_pos (Z5 hk),Zt he,ya,ya,if_neg (by simp),ZC (by omega)]) (by
  unfold X0;dsimp only;rw[if_neg (by rw[ZN];decide)]) (by omega)
 rw[show((0:Nat):Int)=0 from rfl] at g
 rw[g,ya]
theorem ZEK{a:ZK}(h:a.1.length≤1000000):ZbI fuel a a=some true:=by
 unfold ZbI;rw[ZAf h,ya,if_pos rfl,if_pos (beq_self_eq_true _),if_pos (beq_self_eq_true _),beq_self_eq_true]
theorem ZEL{l:Xb}(h:QE l):Zfa fuel l l=some true:=by
 have hl:=h.2.1;unfold Zfa ZcB;rw[if_neg (by simp)]
 have g:=ZV (step:=XN fuel) l.length (λk:Nat=>(l,l,(l.length:Int),(k:Int))) (x:=.inr ()) (by
  intro k hk;obtain⟨e,he,hm⟩:=Zr hk;have:=(h.2.2 e hm).1;unfold XN;dsimp only;rw[if_pos (Z5 hk),Zt he,ya,ya,ZEK (by omega),ya,if_neg (by decide),ZC (by omega)]) (by
  unfold XN;dsimp only;rw[if_neg (by rw[ZN];decide)]) (by omega)
 rw[show((0:Nat):Int)=0 from rfl] at g
 rw[g,ya,ya]
theorem ZvF{K V:Type}[DecidableEq K](f:K×V→Int)(k:K)(v:V):∀m:List (K×V),mget m k=none→((Za0 m k v).map f).sum=(m.map f).sum+f (k,v)
 |[],_=>by
  show(f (k,v)+0)=0+f (k,v)
  omega
 |q::l,h=>by
  unfold mget at h;unfold Za0;by_cases c:k=q.1
  ·rw[if_pos c] at h;cases h
  ·rw[if_neg c] at h ⊢;have:=ZvF f k v l h;rw[List.map_cons,List.sum_cons,List.map_cons,List.sum_cons,this];omega
theorem Zpr(id:List UInt8)(outs:List Out)(h:Int):∀n,n≤outs.length→((XV id outs h n []).map λq=>q.2.1.1).sum=amts (outs.take n)
 |0,_=>rfl
 |n+1,hn=>by
  obtain⟨o,ho,_⟩:=Zr (l:=outs) (k:=n) (by omega)
  rw[XV,ZvF _ _ _ _ (by
   rw[ZiW _ _ _ _ _ _ λi hi q=>by
    simp only[Prod.mk.injEq,true_and] at q;omega]
   rfl),Zpr id outs h n (by omega),Xd ho,List.take_succ_eq_append_getElem (by omega)]
  unfold amts;rw[List.map_append,List.sum_append]
  have:outs[n]=o:=by
   rw[List.getElem?_eq_getElem (by omega)] at ho;exact Option.some.inj ho
  rw[this];simp
section
variable{p:FactoryPlan}{no:Int}{subs:List FactorySub}{sgs:List (List Sig)}
theorem ZGK(hw:p.1=(z32,0))(i1:idF (tA p sgs)=idF (tx1 p))(h:Int):goF (tA p sgs) h (m0F p)=[((idF (tx1 p),0),((p.2.1 - p.2.2.2.2,YK p [1]),h))]:=by
 show XV (idF (tA p sgs)) [(p.2.1 - p.2.2.2.2,YK p [1])] h 1 (W9 (m0F p) p.1)=_
 have e:W9 (m0F p) p.1=[]:=by
  unfold m0F W9;rw[if_pos hw]
 rw[i1,e];rfl
theorem ZGL(i2:idF (tB p no sgs)=idF (tx2 p (yl no 4)))(o:Out)(h0 h:Int):goF (tB p no sgs) h [((idF (tx1 p),0),(o,h0))]=[((idF (tx2 p (yl no 4)),0),((p.2.1 - 2*p.2.2.2.2,YK p [2,yl no 4]),h))]:=by
 show XV (idF (tB p no sgs)) [(p.2.1 - 2*p.2.2.2.2,YK p [2,yl no 4])] h 1 (W9 [((idF (tx1 p),0),(o,h0))] (idF (tx1 p),0))=_
 have e:W9 [((idF (tx1 p),(0:Int)),(o,h0))] (idF (tx1 p),0)=[]:=by
  unfold W9;rw[if_pos rfl]
 rw[i2,e];rfl
theorem ZGM(i3:idF (tC p no subs sgs)=idF (tx3 p no subs))(o:Out)(h0 h:Int):goF (tC p no subs sgs) h [((idF (tx2 p (yl no 4)),0),(o,h0))]=XV (idF (tx3 p no subs)) (subs.map outS) h subs.length []:=by
 show XV (idF (tC p no subs sgs)) (subs.map outS) h (subs.map outS).length (W9 [((idF (tx2 p (yl no 4)),0),(o,h0))] (idF (tx2 p (yl no 4)),0))=_
 have e:W9 [((idF (tx2 p (yl no 4)),(0:Int)),(o,h0))] (idF (tx2 p (yl no 4)),0)=[]:=by
  unfold W9;rw[if_pos rfl]
 rw[i3,e,yw]
end
theorem ZIi{p:FactoryPlan}(hw:p.1.1.length=32){no:Int}{subs:List FactorySub}(hc:CutP p no subs):One (tx3 p no subs):=Zkq (t:=tx3 p no subs) rfl (Zxo hw hc) (l:=[]) (by simp)
theorem ZDb{p:FactoryPlan}(hw:p.1.1.length=32){no:Int}{subs:List FactorySub}(hl:subs.length≤1000)(hs:∀s,s∈subs→ZfU s)(hc:CutP p no subs):W5 fuel p no subs=some (Xm (idF (tx3 p no subs)) subs.length,0):=by
 have hk:p.2.2.1.length≤1000:=by have:=hc.right.len.2;omega
 unfold W5;rcases ZC6 hk hw (no:=no) hl hs with⟨_,e⟩|⟨q,_⟩
 ·rw[e,ya];dsimp only;rw[if_neg (by decide),show idx [tx1 p,tx2 p (yl no 4),tx3 p no subs] 2=some (tx3 p no subs) from rfl,ya,Ztq (ZIi hw hc),ya]
  rw[show(tx3 p no subs).2.1.length=subs.length from yw ..]
 ·exact absurd hc q
theorem Zm8{p:FactoryPlan}(h:RightP p):XU fuel p=some (6*p.2.2.2.1):=by
 have hk:p.2.2.1.length≤1000:=by have:=h.len.2;omega
 have hs:=h.step;unfold XU;rw[ZeE p hk,ya,decide_eq_true h,if_neg (by decide),ZH (by omega) (by omega)]
theorem ZDc{p:FactoryPlan}{no:Int}{subs:List FactorySub}(hc:CutP p no subs)(id:List UInt8)(h:Int)(st:List CoinsStep):coins_Set_TotalM fuel (XV id (subs.map outS) h subs.length []) st=some (p.2.1 - 3*p.2.2.2.2,XV id (subs.map outS) h subs.length [],st):=by
 have ha:=hc.right.amount;have hf:=hc.right.fee;unfold M50 at ha hf;unfold coins_Set_TotalM
 have e:Zis (XV id (subs.map outS) h subs.length [])=p.2.1 - 3*p.2.2.2.2:=by
  unfold Zis;have h1:=Zpr id (subs.map outS) h subs.length (by rw[yw];exact Nat.le_refl _);rw[List.take_of_length_le (by rw[yw];exact Nat.le_refl _),Zll,hc.sum] at h1;rw[show((XV id (subs.map outS) h subs.length []).map λq=>q.2.1.1).sum=p.2.1 - 3*p.2.2.2.2 from h1]
  simp only[RowKit.wrap64];omega
 rw[e]
theorem ZGN{m:Coins}{st:List CoinsStep}{q:Zd}{o:Out}{h:Int}(hq:mget m q=some (o,h))(ho:QE o.2):Qx fuel q m st=some ((o,h),true,m,st):=by
 unfold Qx;rw[hq];show(WT fuel o).bind _=_;rw[Zxs ho,ya]
theorem ZvG(a b:UInt64):QE [([a,b],0,0,0)]:=⟨by simp,by simp,λx hx=>by
 rw[List.mem_singleton.1 hx];exact⟨by simp,z0,z1,z0,z1⟩⟩
theorem ZAg{p:FactoryPlan}{subs:List FactorySub}(hl:subs.length≤1000)(hs:∀s,s∈subs→ZfU s){id:List UInt8}{m:Coins}{st:List CoinsStep}{fee ht three:Int}(hm:∀(i:Nat)(s:FactorySub),subs[i]? =some s→mget m (id,(i:Int))=some (outS s,three)):
 Zh (Zv fuel) fuel (subs,fee,ht,true,three,Xm id subs.length,0,p,m,st)=some (.inr (fee,ht,true,three,p,m,st)):=by
 refine ZV (step:=Zv fuel) subs.length (λk:Nat=>(subs,fee,ht,true,three,Xm id subs.length,(k:Int),p,m,st)) (by
  intro k hk;obtain⟨s,hs1,hsm⟩:=Zr hk;obtain⟨a,b,k0,k1,amt,rfl⟩:=ZyU (hs s hsm);unfold Zv;dsimp only;rw[ZcR,if_pos (Z5 hk),Zt (Ztp id hk),ya,ZGN (hm k _ hs1) (ZvG k0 k1),ya];dsimp only;rw[if_neg (by decide),Zt hs1,ya];dsimp only;rw[show(outS ([a,b],[k0,k1],amt)).1=amt from rfl,if_neg (by rw[bne_iff_ne];exact λq=>q rfl),ya]
  dsimp only;rw[show idx [k0,k1] 0=some k0 from rfl,ya,ya,show idx [k0,k1] 1=some k1 from rfl,ya,Ztm,ya,show(outS ([a,b],[k0,k1],amt)).2=[([k0,k1],0,0,0)] from rfl,ZEL (ZvG k0 k1),ya,if_neg (by decide),ZC (by omega)]) (by
  unfold Zv;dsimp only;rw[ZcR,if_neg (by rw[ZN];decide)]) (by omega)
theorem ZGO{ks:List UInt64}{subs:List FactorySub}{no step fee ht:Int}(hl:subs.length≤1000)(z0:Int):∃x,Zh (ZO fuel) fuel (ks,subs,no,step,fee,ht,true,z0,0)=some x∧
 (x=.inl true∨∃z,x=.inr (ks,subs,no,step,fee,ht,true,z)):=by
 refine Y3 (step:=ZO fuel) subs.length (λk s=>∃z,s=(ks,subs,no,step,fee,ht,true,z,(k:Int))) _ ⟨z0,rfl⟩ (by omega) ?_ ?_
 ·rintro k _ hk ⟨z,rfl⟩;obtain⟨e,he,hm⟩:=Zr hk;unfold ZO;dsimp only;rw[if_pos (Z5 hk),Zt he,ya];by_cases c1:e.2.2 < 0
  ·right;rw[if_pos (decide_eq_true c1)];exact⟨_,rfl,.inl rfl⟩
  rw[if_neg (by rw[decide_eq_true_iff];exact c1),ya];by_cases c2:e.2.2 > 1099511627776
  ·right;rw[if_pos (decide_eq_true c2)];exact⟨_,rfl,.inl rfl⟩
  left;rw[if_neg (by rw[decide_eq_true_iff];exact c2),ya,ZC (by omega)];exact⟨_,rfl,_,rfl⟩
 ·rintro _ ⟨z,rfl⟩;unfold ZO;dsimp only;rw[if_neg (by rw[ZN];decide)];exact⟨_,rfl,.inr ⟨_,rfl⟩⟩
section
variable{p:FactoryPlan}{no ht:Int}{subs:List FactorySub}{sgs:List (List Sig)}
structure Comes(p:FactoryPlan)(no ht:Int)(subs:List FactorySub)(sgs:List (List Sig))(two three:Int):Prop where
 all:∃(m1:Coins)(st1:List CoinsStep)(m2:Coins)(st2:List CoinsStep)(m3:Coins)(st3:List CoinsStep),
  coins_Set_ApplyM fuel (tA p sgs) ht (m0F p) []=some (0,m1,st1)∧
  (two > ht→coins_Set_ApplyM fuel (tB p no sgs) (two - 1) m1 st1=some (11,m1,st1))∧
  coins_Set_ApplyM fuel (tC p no subs sgs) two m1 st1=some (5,m1,st1)∧
  coins_Set_ApplyM fuel (tB p no sgs) two m1 st1=some (0,m2,st2)∧
  (three > two→coins_Set_ApplyM fuel (tC p no subs sgs) (three - 1) m2 st2=some (11,m2,st2))∧
  coins_Set_ApplyM fuel (tC p no subs sgs) three m2 st2=some (0,m3,st3)∧
  (∀(i:Nat)(s:FactorySub),subs[i]? =some s→mget m3 (idF (tx3 p no subs),(i:Int))=some (outS s,three))∧
  ∀st,coins_Set_TotalM fuel m3 st=some (p.2.1 - 3*p.2.2.2.2,m3,st)
theorem ZHz(hw:p.1=(z32,0))(hc:CutP p no subs)(hv:Zbo p no subs sgs)(hh:1≤ht∧ht≤1000)(hz:idF (tx1 p)≠z32)
 (hn1:idF (tx2 p (yl no 4))≠idF (tx1 p)) (hn2:idF (tx3 p no subs)≠idF (tx1 p)) (hn3:idF (tx3 p no subs)≠idF (tx2 p (yl no 4))):
 Comes p no ht subs sgs (ht+(3 - yl no 4)*p.2.2.2.1) (ht+(3 - yl no 4)*p.2.2.2.1+(3 - yac no 4)*p.2.2.2.1):=by
 have hw':p.1.1.length=32:=by rw[hw];rfl
 have hs:=hc.right.step;have ha:=(Vx hc.no).1;have hb:=(Vx hc.no).2;have i1:=(Zxv hw' hc hv).2;have i2:=(Ztu hw' hc hv).2;have i3:=(Zpq hw' hc hv).2;have b1:=ZbR (c:=3 - yl no 4) (by omega) (by omega) hs;have b2:=ZbR (c:=3 - yac no 4) (by omega) (by omega) hs;obtain⟨st1,a1,l1⟩:=ZAb (sgs:=sgs) hw hc hv (h:=ht) ⟨by omega,by omega⟩ hz;obtain⟨st2,a2,l2⟩:=ZAc (sgs:=sgs) (st:=st1) hw' hc hv (h:=ht+(3 - yl no 4)*p.2.2.2.1) (h0:=ht) ⟨by omega,by omega⟩ (by omega) (ZE7 i1 ht) ⟨by omega,by omega⟩ (by omega) (Ztx hw i1 ht hn1);have at2:=ZHw (m:=goF (tA p sgs) ht (m0F p)) i2 (ht+(3 - yl no 4)*p.2.2.2.1)
 obtain⟨st3,a3,_⟩:=ZAd (sgs:=sgs) (st:=st2) hw' hc hv (m:=goF (tB p no sgs) (ht+(3 - yl no 4)*p.2.2.2.1) (goF (tA p sgs) ht (m0F p))) (h:=ht+(3 - yl no 4)*p.2.2.2.1+(3 - yac no 4)*p.2.2.2.1) (h0:=ht+(3 - yl no 4)*p.2.2.2.1) ⟨by omega,by omega⟩ (by omega) at2 ⟨by omega,by omega⟩ (by omega) (λi hi=>by
  rw[ZGF (ZHv ht) i2 _ hn3,Ztx hw i1 ht hn2];split <;> rfl)
 have lit:goF (tC p no subs sgs) (ht+(3 - yl no 4)*p.2.2.2.1+(3 - yac no 4)*p.2.2.2.1) (goF (tB p no sgs) (ht+(3 - yl no 4)*p.2.2.2.1) (goF (tA p sgs) ht (m0F p)))=XV (idF (tx3 p no subs)) (subs.map outS) (ht+(3 - yl no 4)*p.2.2.2.1+(3 - yac no 4)*p.2.2.2.1) subs.length []:=by
  rw[ZGK hw i1,ZGL i2,ZGM i3]
 rw[lit] at a3
 refine⟨⟨_,_,_,_,_,_,a1,λhgt=>Ztv hw' hc hv ⟨by omega,by omega⟩ (ZE7 i1 ht) ⟨by omega,by omega⟩ (by omega),ZvE hw' hc hv ⟨by omega,by omega⟩ (Ztx hw i1 ht hn1),a2,
  λhgt=>Ztw hw' hc hv ⟨by omega,by omega⟩ at2 ⟨by omega,by omega⟩ (by omega),a3,λi s his=> ?_,λst=>ZDc hc _ _ st⟩⟩
 have hi:=(List.getElem?_eq_some_iff.1 his).1;rw[Zlm _ _ _ _ _ _ hi,Xd (e:=outS s) (by rw[List.getElem?_map,his];rfl)]
end
theorem ZDd{a b st:Int}(ha:0≤a∧a≤3)(hb:0≤b∧b≤3)(hs:1≤st):(3 - a)*st+(3 - b)*st≤6*st:=by
 have:(3 - a+(3 - b))*st≤6*st:=Int.mul_le_mul_of_nonneg_right (by omega) (by omega);rw[Int.add_mul] at this;exact this
theorem ZAh{ks:List UInt64}{subs:List FactorySub}(hs:∀s,s∈subs→ZfU s)(no step fee ht:Int):Yc fuel ks subs no step fee ht=some true:=by
 unfold Yc;rw[ya];by_cases c1:(ks.length:Int) < 2
 ·rw[if_pos (decide_eq_true c1)]
 rw[if_neg (by rw[decide_eq_true_iff];exact c1)];by_cases c2:(ks.length:Int) > 4
 ·rw[if_pos (decide_eq_true c2)]
 rw[if_neg (by rw[decide_eq_true_iff];exact c2)];by_cases c3:(subs.length:Int) > 5
 ·rw[if_pos (decide_eq_true c3)]
 rw[if_neg (by rw[decide_eq_true_iff];exact c3)];by_cases c4:fee < 0
 ·rw[if_pos (decide_eq_true c4)]
 rw[if_neg (by rw[decide_eq_true_iff];exact c4)];by_cases c5:fee > 1099511627776
 ·rw[if_pos (decide_eq_true c5)]
 rw[if_neg (by rw[decide_eq_true_iff];exact c5)];by_cases c6:ht < 1
 ·rw[if_pos (decide_eq_true c6)]
 rw[if_neg (by rw[decide_eq_true_iff];exact c6)];by_cases c7:ht > 1000
 ·rw[if_pos (decide_eq_true c7)]
 rw[if_neg (by rw[decide_eq_true_iff];exact c7)];obtain⟨x,e1,rfl|⟨z,rfl⟩⟩:=ZGO (ks:=ks) (subs:=subs) (no:=no) (step:=step) (fee:=fee) (ht:=ht) (by omega) (wi (3*fee))
 ·rw[e1,ya]
 rw[e1,ya];dsimp only;rw[ZEG (by omega),ya];generalize hp:ZC7 ks z step fee=p;have hkl:p.2.2.1.length=ks.length:=by rw[←hp];exact Zz7 ..
 have hw:p.1=(z32,0):=by rw[←hp];rfl
 have hfe:p.2.2.2.2=fee:=by rw[←hp];rfl
 have hw':p.1.1.length=32:=by rw[hw];rfl
 have hk:p.2.2.1.length≤1000:=by omega
 obtain⟨⟨sgs,ok⟩,e2,hn⟩:=Zxr hk hw' (no:=no) (subs:=subs) (by omega) hs (ks:=ks) (by omega);rw[e2,ya];dsimp only at hn ⊢
 have key:(CutP p no subs∧Zbo p no subs sgs∧YR fuel p no subs sgs=some (Zh4 p no subs sgs,0))∨∃(l:List Tx)(e:Int),e≠0∧YR fuel p no subs sgs=some (l,e):=by
  rcases ZEF hk hw' (no:=no) (subs:=subs) (by omega) hs (sgs:=sgs) (by omega) with⟨hc,⟨hv,e3⟩|⟨hv,e3⟩⟩|⟨hc,e,he,e3⟩
  ·exact .inl ⟨hc,hv,e3⟩
  ·exact .inr ⟨_,7,by decide,e3⟩
  ·exact .inr ⟨_,e,he,e3⟩
 rcases key with⟨hc,hv,e3⟩|⟨l,e,he,e3⟩
 rotate_left
 ·rw[e3,ya];dsimp only;rcases Zrs hk with⟨_,e7⟩|⟨_,e7⟩
  all_goals
   rw[e7,ya];dsimp only;cases ok
   ·rw[if_pos (by decide)]
   ·rw[if_neg (by decide),if_pos (bne_iff_ne.2 he)]
 rw[e3,ya];rcases Zrs hk with⟨hr,e7⟩|⟨hr,e7⟩
 rotate_left
 ·exact absurd hc.right hr
 rw[e7,ya];dsimp only;cases ok
 ·rw[if_pos (by decide)]
 rw[if_neg (by decide),if_neg (by decide)];obtain⟨o1,i1⟩:=Zxv hw' hc hv;obtain⟨o2,i2⟩:=Ztu hw' hc hv;obtain⟨o3,i3⟩:=Zpq hw' hc hv
 obtain⟨b,hb1,hb2⟩:=ZAe (l:=Zh4 p no subs sgs) (λt ht=>by
  simp only[Zh4,List.mem_cons,List.not_mem_nil,or_false] at ht;rcases ht with rfl|rfl|rfl
  ·exact o1
  ·exact o2
  ·exact o3) (by simp[Zh4])
 rw[hb1,ya]
 cases b with
 |false=>rw[if_pos (by decide)]
 |true=>
  have d0:=((hb2 rfl) 0 (tA p sgs) rfl).1;have d1:=((hb2 rfl) 1 (tB p no sgs) rfl).2 0 (tA p sgs) (by omega) rfl;have d2:=((hb2 rfl) 2 (tC p no subs sgs) rfl).2 0 (tA p sgs) (by omega) rfl;have d3:=((hb2 rfl) 2 (tC p no subs sgs) rfl).2 1 (tB p no sgs) (by omega) rfl;rw[i1] at d0;rw[i1,i2] at d1;rw[i1,i3] at d2;rw[i2,i3] at d3;rw[if_neg (by decide),ZEI hk hr hc.no ⟨by omega,by omega⟩,ya,ZDb hw' (by omega) hs hc,ya];dsimp only;have hsp:=hr.step;have ha:=(Vx hc.no).1;have hb:=(Vx hc.no).2;have b1:=ZbR (c:=3 - yl no 4) (by omega) (by omega) hsp;have b2:=ZbR (c:=3 - yac no 4) (by omega) (by omega) hsp;have gap:=ZDd ha hb hsp.1;obtain⟨m1,st1,m2,st2,m3,st3,q1,q2,q3,q4,q5,q6,q7,q8⟩:=(ZHz (ht:=ht) hw hc hv ⟨by omega,by omega⟩ d0 (λq=>d1 q.symm) (λq=>d2 q.symm) (λq=>d3 q.symm)).all;generalize hT:ht+(3 - yl no 4)*p.2.2.2.1=two at q2 q3 q4 q5 q6 q7 ⊢;generalize hR:two+(3 - yac no 4)*p.2.2.2.1=three at q5 q6 q7 ⊢;have x0:idx (Zh4 p no subs sgs) 0=some (tA p sgs):=rfl;have x1:idx (Zh4 p no subs sgs) 1=some (tB p no sgs):=rfl;have x2:idx (Zh4 p no subs sgs) 2=some (tC p no subs sgs):=rfl;have loop:=ZAg (p:=p) (st:=st3) (fee:=fee) (ht:=ht) (three:=three) (by omega) hs q7;have ham:=hr.amount;have hfm:=hr.fee;unfold M50 at ham hfm;rw[hfe] at ham hfm q8;rw[if_neg (by decide),if_neg (show¬(((Zh4 p no subs sgs).length:Int)!=3)=true by simp[Zh4]),ZcR,if_neg (by rw[bne_iff_ne];exact λq=>q rfl),x0,ya,q1,ya];dsimp only;rw[if_neg (by decide)]
  have tail:∀{x:Option Bool},x=some (decide (wi (three - ht)≤6*p.2.2.2.1))→x=some true:=λh=>by
   rw[h,ZH (by omega) (by omega),decide_eq_true (by omega)]
  have e8:(p.2.1 - 3*fee==wi (p.2.1 - wi (3*fee)))=true:=by
   rw[ZH (z:=3*fee) (by omega) (by omega),ZH (z:=p.2.1 - 3*fee) (by omega) (by omega),beq_self_eq_true]
  by_cases g1:two > ht
  ·rw[if_pos (decide_eq_true g1),x1,ya,ZH (z:=two - 1) (by omega) (by omega),q2 g1,ya];dsimp only;rw[if_neg (by decide),x2,ya,q3,ya];dsimp only;rw[if_neg (by decide),ya,q4,ya];dsimp only;rw[if_neg (by decide)];by_cases g2:three > two
   ·rw[if_pos (decide_eq_true g2),ya,ZH (z:=three - 1) (by omega) (by omega),q5 g2,ya];dsimp only;rw[if_neg (by decide),ya,q6,ya];dsimp only;rw[if_neg (by decide),loop,ya];dsimp only;rw[if_pos rfl,q8,ya];dsimp only;rw[e8,if_pos rfl,Zm8 hr,ya];exact tail rfl
   ·rw[if_neg (by rw[decide_eq_true_iff];exact g2),ya,q6,ya];dsimp only;rw[if_neg (by decide),loop,ya];dsimp only;rw[if_pos rfl,q8,ya];dsimp only;rw[e8,if_pos rfl,Zm8 hr,ya];exact tail rfl
  ·rw[if_neg (by rw[decide_eq_true_iff];exact g1),x2,ya,q3,ya];dsimp only;rw[if_neg (by decide),x1,ya,q4,ya];dsimp only;rw[if_neg (by decide)];by_cases g2:three > two
   ·rw[if_pos (decide_eq_true g2),ya,ZH (z:=three - 1) (by omega) (by omega),q5 g2,ya];dsimp only;rw[if_neg (by decide),ya,q6,ya];dsimp only;rw[if_neg (by decide),loop,ya];dsimp only;rw[if_pos rfl,q8,ya];dsimp only;rw[e8,if_pos rfl,Zm8 hr,ya];exact tail rfl
   ·rw[if_neg (by rw[decide_eq_true_iff];exact g2),ya,q6,ya];dsimp only;rw[if_neg (by decide),loop,ya];dsimp only;rw[if_pos rfl,q8,ya];dsimp only;rw[e8,if_pos rfl,Zm8 hr,ya];exact tail rfl
end Go.Proofs.YtkapgdbeeblihaaGreat
end
