/- Parts of the proof, in one file. -/
import Derived.Test.YtehgcchjaamddaaGreatKd
set_option linter.unusedVariables false
set_option linter.unusedSimpArgs false
section
namespace Go.Ev
section
variable {P:Program}
theorem Zr8 {x y:Code} {ts ts1 ts2:List Dv} {H H1 H2:List Ent} {ex:Ex} (r1:Xf P x ts H .normal ts1 H1) (r2:Xf P y ts1 H1 ex ts2 H2):Xf P (.seq x y) ts H ex ts2 H2:=by
 intro σ a ok hH hrep
 refine wp_seq (wp_mono (r1 σ a ok hH hrep) ?_)
 rintro e a' w' ⟨rfl,σ1,rfl,e1,to1,ok1,hrep1⟩
 refine wp_mono (r2 σ1 a' ok1 e1 hrep1) ?_
 rintro e a'' w'' ⟨rfl,σ2,rfl,e2,to2,ok2,hrep2⟩
 exact ⟨rfl,σ2,rfl,e2,to1.trans to2,ok2,hrep2⟩
theorem Zo0 {x y:Code} {ts ts1:List Dv} {H H1:List Ent} {ex:Ex} (hne:ex≠ .normal) (r1:Xf P x ts H ex ts1 H1):Xf P (.seq x y) ts H ex ts1 H1:=by
 intro σ a ok hH hrep
 refine wp_seq (wp_mono (r1 σ a ok hH hrep) ?_)
 rintro e a' w' ⟨rfl,hq⟩
 cases ex with
 |normal=>exact absurd rfl hne
 |exit id=>exact ⟨rfl,hq⟩
 |ret=>exact ⟨rfl,hq⟩
theorem ZgY {c:Operand} {x y:Code} {ts ts1:List Dv} {H H1:List Ent} {ex:Ex} {b:Bool} (hc:argD P ts 0 c=.p (.bool b)) (r1:Xf P (if b then x else y) ts H ex ts1 H1):Xf P (.cond c x y) ts H ex ts1 H1:=by
 intro σ a ok hH hrep
 have hv:=Zk (P:=P) hrep 0 c
 rw [hc] at hv
 cases b
 ·exact wp_cond_false (ZY hv) (r1 σ a ok hH hrep)
 ·exact wp_cond_true (ZY hv) (r1 σ a ok hH hrep)
def Zqz (id:Nat):Ex→Ex
 |.exit i=>if i=id then .normal else .exit i
 |ex=>ex
theorem ZtN {id:Nat} {body:Code} {ts ts1:List Dv} {H H1:List Ent} {ex:Ex} (r1:Xf P body ts H ex ts1 H1):Xf P (.block id body) ts H (Zqz id ex) ts1 H1:=by
 intro σ a ok hH hrep
 refine wp_block (wp_mono (r1 σ a ok hH hrep) ?_)
 rintro e a' w' ⟨rfl,hq⟩
 cases ex with
 |normal=>exact ⟨rfl,hq⟩
 |exit id'=>
  simp only [Ex.to,Exit.inBlock,Zqz]
  split
  ·exact ⟨rfl,hq⟩
  ·exact ⟨rfl,hq⟩
 |ret=>exact ⟨rfl,hq⟩
theorem ZtO {body:Code} {ts ts1:List Dv} {H H1:List Ent} {ex:Ex} (r1:Xf P body ts H ex ts1 H1):Xf P (.scope body) ts H ex ts1 H1:=by
 intro σ a ok hH hrep
 refine wp_scope_straight (wp_mono (r1 σ a ok hH hrep) ?_)
 rintro e a' w' ⟨rfl,hq⟩
 cases ex <;> exact ⟨rfl,hq⟩
theorem Zwh {ts:List Dv} {H:List Ent}:Xf P .skip ts H .normal ts H:=fun σ a ok hH hrep=>wp_skip ⟨rfl,σ,rfl,hH,To.refl σ,ok,hrep⟩
theorem ZtP {n:Nat} {ts:List Dv} {H:List Ent}:Xf P (.label n) ts H .normal ts H:=fun σ a ok hH hrep=>wp_label ⟨rfl,σ,rfl,hH,To.refl σ,ok,hrep⟩
theorem Zwi {n:Nat} {ts:List Dv} {H:List Ent}:Xf P (.exit n) ts H (.exit n) ts H:=fun σ a ok hH hrep=>wp_exit ⟨rfl,σ,rfl,hH,To.refl σ,ok,hrep⟩
theorem Zx9 {ts:List Dv} {H:List Ent}:Xf P .ret ts H .ret ts H:=fun σ a ok hH hrep=>wp_ret ⟨rfl,σ,rfl,hH,To.refl σ,ok,hrep⟩
theorem Zwj {c:Code} {ts ts1:List Dv} {H H1:List Ent} {ex:Ex} (keep:List Nat) (r:Xf P c ts H ex ts1 H1):Xf P c ts H ex (maskFrom keep 0 ts1) H1:=by
 intro σ a ok hH hrep
 refine wp_mono (r σ a ok hH hrep) ?_
 rintro e a' w' ⟨rfl,σ1,rfl,e1,to1,ok1,hrep1⟩
 exact ⟨rfl,σ1,rfl,e1,to1,ok1,Qe keep hrep1⟩
def Zr9 (n0:Nat) (sl:Slots) (es:List ESh) (a:List TD) (h:List TEnt):Option (List TV):=
 if once (List.range n0++[]) then (XE h (List.range n0++[]) (List.range n0++[])).bind fun h2=>(TD.rns (toIds (List.range n0++[])) (ZaY (sl.map (·.1)) 0 a)).bind fun a2=>
  (Sh.mts (lk h2) (shs sl a.length) a2).bind fun q=>(ESh.mts (lk h2) es h2).bind fun w=>some (q.2++w.2)
 else none
theorem ZtQ {n0:Nat} {sl:Slots} {es:List ESh} {a:List TD} {h:List TEnt} {vs:List TV} (k:Zr9 n0 sl es a h=some vs):
 ∃a3 h3,X7 a.length sl es vs=some (a3,h3)∧∀{c:Code} {ts:List Dv} {H:List Ent} {ex:Ex},H.length=n0→Xf P c ts H ex (TD.ers (lk h) a) (erH h)→Xf P c ts H ex (TD.ers (lk h3) a3) (erH h3):=by
 unfold Zr9 at k
 split at k
 ·rename_i ho
  obtain ⟨h2,h1,k⟩:=Option.bind_eq_some_iff.1 k
  obtain ⟨a2,e2,k⟩:=Option.bind_eq_some_iff.1 k
  obtain ⟨q,e3,k⟩:=Option.bind_eq_some_iff.1 k
  obtain ⟨w,e4,k⟩:=Option.bind_eq_some_iff.1 k
  cases k
  obtain ⟨g1,g2⟩:=ZfN e4
  have hc:∀id t,ZQ (lk h2) id t none=ZQ (lk w.1) id t none:=fun id t=>by rw [g2]
  refine ⟨q.1,w.1, ?_,fun {c ts H ex} hl r=> ?_⟩
  ·unfold X7
   rw [mts_fills _ _ _ e3]
   have:=ZbO e4 []
   rw [List.append_nil] at this
   rw [Option.bind_some,this]
   rfl
  ·have r1:=Zwj (sl.map (·.1)) r
   rw [←ZdF] at r1
   have r2:=ZvU [] [] r1 (by rw [hl];exact ho) (by rw [hl];exact X8 (ZaX h1) h1) (by rw [hl];exact rns_er (ZaX h1) _ _ e2)
   exact ZoK r2 (mts_wk hc _ _ _ e3) (Zi3 hc e4)
 ·cases k
theorem ZtR {n0:Nat} {sl:Slots} {es:List ESh} {a:List TD} {h:List TEnt} {vs:List TV} (hn:h.length=n0) (k:Zr9 n0 sl es a h=some vs):
 ∃a3 h3,X7 a.length sl es vs=some (a3,h3)∧∀(σ:Sg) (act:Act),Ok σ→σ.H=erH h→RepT σ (TD.ers (lk h) a) act→∃σ':Sg,σ'.w=σ.w∧σ'.H=erH h3∧To σ σ'∧Ok σ'∧RepT σ' (TD.ers (lk h3) a3) act:=by
 subst hn
 unfold Zr9 at k
 split at k
 ·rename_i ho
  obtain ⟨h2,h1,k⟩:=Option.bind_eq_some_iff.1 k
  obtain ⟨a2,e2,k⟩:=Option.bind_eq_some_iff.1 k
  obtain ⟨q,e3,k⟩:=Option.bind_eq_some_iff.1 k
  obtain ⟨w,e4,k⟩:=Option.bind_eq_some_iff.1 k
  cases k
  obtain ⟨g1,g2⟩:=ZfN e4
  have hc:∀id t,ZQ (lk h2) id t none=ZQ (lk w.1) id t none:=fun id t=>by rw [g2]
  refine ⟨q.1,w.1, ?_,fun σ act ok hH hrep=> ?_⟩
  ·unfold X7
   rw [mts_fills _ _ _ e3]
   have:=ZbO e4 []
   rw [List.append_nil] at this
   rw [Option.bind_some,this]
   rfl
  ·have r1:=Qe (sl.map (·.1)) hrep
   rw [←ZdF] at r1
   have hin:subEnts σ.H (List.range σ.H.length++[]) (List.range σ.H.length++[])=some (erH h2):=by
    rw [hH,ZE]
    exact X8 (ZaX h1) h1
   have ho':once (List.range σ.H.length++[])=true:=by rw [hH,ZE];exact ho
   have e2':Dv.rns (toIds (List.range σ.H.length++[])) (TD.ers (lk h) (ZaY (sl.map (·.1)) 0 a))=some (TD.ers (lk h2) a2):=by
    rw [hH,ZE]
    exact rns_er (ZaX h1) _ _ e2
   have r2:=ZiK (Zba hin) e2' r1
   have to1:=ZpL ok (To.refl σ) ho' hin
   have ok1:=ZlI ok ho' hin
   obtain ⟨to2,ok2⟩:=Ziw (σ:=Zdy σ (List.range σ.H.length++[]) (erH h2)) ok1 (H':=erH w.1) (Zi3 hc e4)
   exact ⟨{ Zdy σ (List.range σ.H.length++[]) (erH h2) with H:=erH w.1},rfl,rfl,to1.trans to2,ok2,(mts_wk hc _ _ _ e3).repT (r2.to to2.leaf)⟩
 ·cases k
def ZBp (L:Lk):ESh→TEnt→Option TEnt
 |.rowN _ _ _ _,.rowM u np v st e pre mid post=>(ZBg L u mid).map fun y=>.rowN u np v st e (pre++[y]) post
 |_,x=>some x
def Zya (L:Lk):List ESh→List TEnt→Option (List TEnt)
 |[],h=>some h
 |_::_,[]=>some []
 |s::r,x::h=>match ZBp L s x,Zya L r h with
  |some y,some ys=>some (y::ys)
  |_,_=>none
theorem ZzU {L:Lk} {s:ESh} {x y:TEnt} (h:ZBp L s x=some y):lkE (some y)=lkE (some x)∧WkE (x.er L) (y.er L):=by
 unfold ZBp at h
 split at h
 ·rename_i u np v st e pre mid post
  obtain ⟨c,h1,rfl⟩:=Zc h
  refine ⟨?_,ZuJ (ZuG h1)⟩
  simp only [lkE,List.length_append,List.length_cons,List.length_nil]
  rw [Nat.add_assoc,Nat.add_comm (0+1)]
 ·cases h
  exact ⟨rfl,.refl _⟩
theorem ZuU {L:Lk}:∀{es:List ESh} {h h':List TEnt},Zya L es h=some h'→h'.length=h.length∧(∀j:Nat,lkE (h'[j]?)=lkE (h[j]?))∧WkH (h.map (TEnt.er L)) (h'.map (TEnt.er L))
 |[],h,h',k=>by cases k;exact ⟨rfl,fun _=>rfl,WkH.refl _⟩
 |_::_,[],h',k=>by cases k;exact ⟨rfl,fun _=>rfl,WkH.refl _⟩
 |s::r,x::h,h',k=>by
  simp only [Zya] at k
  split at k
  ·rename_i y ys h1 h2
   cases k
   obtain ⟨a1,a2⟩:=ZzU h1
   obtain ⟨b1,b2,b3⟩:=ZuU h2
   refine ⟨by simp [b1],fun j=> ?_,.cons a2 b3⟩
   cases j with
   |zero=>exact a1
   |succ j=>exact b2 j
  ·cases k
theorem ZuV {es:List ESh} {h h':List TEnt} (k:Zya (lk h) es h=some h'):h'.length=h.length∧lk h'=lk h∧WkH (erH h) (erH h'):=by
 obtain ⟨a,b,c⟩:=ZuU k
 have e:lk h'=lk h:=funext b
 refine ⟨a,e, ?_⟩
 unfold erH
 rw [e]
 exact c
def ZqA (n0:Nat) (sl:Slots) (es:List ESh) (a:List TD) (h:List TEnt):Option (List TV):=(Zya (lk h) es h).bind fun h=>Zr9 n0 sl es a h
theorem Zo1 {n0:Nat} {sl:Slots} {es:List ESh} {a:List TD} {h:List TEnt} {vs:List TV} (k:ZqA n0 sl es a h=some vs):
 ∃a3 h3,X7 a.length sl es vs=some (a3,h3)∧∀{c:Code} {ts:List Dv} {H:List Ent} {ex:Ex},H.length=n0→Xf P c ts H ex (TD.ers (lk h) a) (erH h)→Xf P c ts H ex (TD.ers (lk h3) a3) (erH h3):=by
 obtain ⟨h1,k1,k2⟩:=Option.bind_eq_some_iff.1 k
 obtain ⟨e1,e2,e3⟩:=ZuV k1
 obtain ⟨a3,h3,g1,g2⟩:=ZtQ (P:=P) k2
 refine ⟨a3,h3,g1,fun hl r=>g2 hl ?_⟩
 rw [e2]
 exact ZoK r (WkL.refl _) e3
theorem Zo2 {n0:Nat} {sl:Slots} {es:List ESh} {a:List TD} {h:List TEnt} {vs:List TV} (hn:h.length=n0) (k:ZqA n0 sl es a h=some vs):
 ∃a3 h3,X7 a.length sl es vs=some (a3,h3)∧∀(σ:Sg) (act:Act),Ok σ→σ.H=erH h→RepT σ (TD.ers (lk h) a) act→∃σ':Sg,σ'.w=σ.w∧σ'.H=erH h3∧To σ σ'∧Ok σ'∧RepT σ' (TD.ers (lk h3) a3) act:=by
 obtain ⟨h1,k1,k2⟩:=Option.bind_eq_some_iff.1 k
 obtain ⟨e1,e2,e3⟩:=ZuV k1
 obtain ⟨a3,h3,g1,g2⟩:=ZtR (by rw [e1];exact hn) k2
 refine ⟨a3,h3,g1,fun σ act ok hH hr=> ?_⟩
 obtain ⟨to,ok'⟩:=Ziw ok (H':=erH h1) (by rw [hH];exact e3)
 obtain ⟨σ2,q1,q2,q3,q4,q5⟩:=g2 { σ with H:=erH h1} act ok' rfl (by rw [e2];exact hr.to to.leaf)
 exact ⟨σ2,q1,q2,to.trans q3,q4,q5⟩
structure Lp where
 sl:Slots
 es:List ESh
 I:List Ty
 xs:List XSh
 L:Ty.dens I→Option (XSh.sum xs)
def Lp.Is (P:Program) (n:Nat) (c:Code) (lp:Lp):Prop:=
 ∀v o,lp.L v=some o→∀s,X7 n lp.sl lp.es (ofD lp.I v)=some s→∀e vs s',ZtC lp.xs o e vs→X7 n e.sl e.es vs=some s'→
  Xf P c (TD.ers (lk s.2) s.1) (erH s.2) e.ex (TD.ers (lk s'.2) s'.1) (erH s'.2)
abbrev Lp.Ok (P:Program) (n:Nat) (body:Code) (lp:Lp):Prop:=lp.Is P n (.loop body)
structure FI where
 hi:HI:={}
 lp:List (Nat×Lp):=[]
 bk:List (Nat×Lp):=[]
 gh:List (Nat×GOp):=[]
 un:Nat:=0
def Code.nl:Code→Nat
 |.seq a b=>Code.nl a+Code.nl b
 |.cond _ a b=>Code.nl a+Code.nl b
 |.block _ a=>Code.nl a
 |.scope a=>Code.nl a
 |.loop a=>Code.nl a+1
 |_=>0
def Code.ns:Code→Nat
 |.seq a b=>Code.ns a+Code.ns b+1
 |.cond _ a b=>Code.ns a+Code.ns b
 |.block _ a=>Code.ns a
 |.scope a=>Code.ns a
 |.loop a=>Code.ns a
 |_=>0
theorem Qm:∀c:Code,(Zs c).length=Code.nl c
 |.seq a b=>by simp only [Zs,List.length_append,Qm a,Qm b,Code.nl]
 |.cond _ a b=>by simp only [Zs,List.length_append,Qm a,Qm b,Code.nl]
 |.block _ a=>by simp only [Zs,Qm a,Code.nl]
 |.scope a=>by simp only [Zs,Qm a,Code.nl]
 |.loop a=>by simp only [Zs,List.length_cons,Qm a,Code.nl]
 |.skip=>rfl
 |.region _ _ _=>rfl
 |.rangeFunc _ _ _ _=>rfl
 |.exit _=>rfl
 |.ret=>rfl
 |.label _=>rfl
 |.goto _=>rfl
 |.refuse _=>rfl
def ZlO {O:Type} (step:List TD→List TEnt→Kc O→Option O):Nat→List TD→List TEnt→Kc O→Option O
 |0,_,_,_=>none
 |k+1,a,h,K=>step a h fun ex a' h'=>match ex with
  |.normal=>ZlO step k a' h' K
  |ex=>K ex a' h'
theorem ZkQ {O:Type} {body:Code} {N:Nat} {step:List TD→List TEnt→Kc O→Option O}
 (hs:∀(a:List TD) (h:List TEnt) (K:Kc O) (out:O),a.length=N→step a h K=some out→∃ex a' h',K ex a' h'=some out∧a'.length=N∧Xf P body (TD.ers (lk h) a) (erH h) ex (TD.ers (lk h') a') (erH h')):
 ∀(k:Nat) (a:List TD) (h:List TEnt) (K:Kc O) (out:O),a.length=N→ZlO step k a h K=some out→∃ex a' h',K ex a' h'=some out∧a'.length=N∧ZoF P body (TD.ers (lk h) a) (erH h) ex (TD.ers (lk h') a') (erH h')
 |0,_,_,_,_,_,k=>by cases k
 |n+1,a,h,K,out,hN,k=>by
  unfold ZlO at k
  obtain ⟨ex,a1,h1,k1,k2,k3⟩:=hs _ _ _ _ hN k
  split at k1
  ·obtain ⟨ex2,a2,h2,k4,k5,k6⟩:=ZkQ hs n a1 h1 K out k2 k1
   exact ⟨ex2,a2,h2,k4,k5,ZoH [] k3 k6⟩
  ·rename_i hne
   exact ⟨_,a1,h1,k1,k2,ZoG hne k3⟩
def evT {O:Type} (P:Program) (fi:FI) (specs:Sp P):Code→Nat→Nat→List TD→List TEnt→Kc O→Option O
 |.skip,_,_,a,h,K=>K .normal a h
 |.label _,_,_,a,h,K=>K .normal a h
 |.region _ ops draw,_,_,a,h,K=>if draw=true then ZBl P fi.hi specs ops a h fun a' h'=>K .normal a' h' else if ZBo ops=true then Zr3 P fi.hi specs ops (ops.toList.take (ops.size - 5)) a h fun a' h' _=>ZuR P (ops.toList.drop (ops.size - 5)) a' h' fun a' h'=>K .normal a' h'
  else Zr3 P fi.hi specs ops ops.toList a h fun a' h' _=>K .normal a' h'
 |.seq x y,n,m,a,h,K=>ghO (fi.gh.lookup m) a h fun a h=>match fi.bk.lookup m with
  |none=>evT P fi specs x n (m+1) a h fun ex a' h'=>match ex with
   |.normal=>evT P fi specs y (n+Code.nl x) (m+1+Code.ns x) a' h' K
   |ex=>K ex a' h'
  |some bk=>(ZqA h.length bk.sl bk.es a h).bind fun vs=>(toD bk.I vs).bind fun v=>(bk.L v).bind fun o=>xT a.length bk.xs o fun ex a' h'=>match ex with
   |.normal=>evT P fi specs y (n+Code.nl x) (m+1+Code.ns x) a' h' K
   |ex=>K ex a' h'
 |.cond c x y,n,m,a,h,K=>((arT P a 0 c).bind TD.boolT).bind fun b=>match c with
  |.tmp t=>if b=true then evT P fi specs x n m (a.set t (Zoa true)) h K else evT P fi specs y (n+Code.nl x) (m+Code.ns x) (a.set t (Zoa false)) h K
  |_=>if b=true then evT P fi specs x n m a h K else evT P fi specs y (n+Code.nl x) (m+Code.ns x) a h K
 |.block id body,n,m,a,h,K=>evT P fi specs body n m a h fun ex a' h'=>K (Zqz id ex) a' h'
 |.loop body,n,m,a,h,K=>match fi.lp.lookup n with
  |some lp=>(ZqA h.length lp.sl lp.es a h).bind fun vs=>(toD lp.I vs).bind fun v=>(lp.L v).bind fun o=>xT a.length lp.xs o K
  |none=>ZlO (fun a h K=>evT P fi specs body (n+1) m a h K) fi.un a h K
 |.scope body,n,m,a,h,K=>evT P fi specs body n m a h K
 |.exit id,_,_,a,h,K=>K (.exit id) a h
 |.ret,_,_,a,h,K=>K .ret a h
 |_,_,_,_,_,_=>none
def Xl:Code→List Code
 |.seq a b=>a::(Xl a++Xl b)
 |.cond _ a b=>Xl a++Xl b
 |.block _ a=>Xl a
 |.scope a=>Xl a
 |.loop a=>Xl a
 |_=>[]
theorem Qn:∀c:Code,(Xl c).length=Code.ns c
 |.seq a b=>by simp only [Xl,List.length_cons,List.length_append,Qn a,Qn b,Code.ns]
 |.cond _ a b=>by simp only [Xl,List.length_append,Qn a,Qn b,Code.ns]
 |.block _ a=>by simp only [Xl,Qn a,Code.ns]
 |.scope a=>by simp only [Xl,Qn a,Code.ns]
 |.loop a=>by simp only [Xl,Qn a,Code.ns]
 |.skip=>rfl
 |.region _ _ _=>rfl
 |.rangeFunc _ _ _ _=>rfl
 |.exit _=>rfl
 |.ret=>rfl
 |.label _=>rfl
 |.goto _=>rfl
 |.refuse _=>rfl
def Ze3 (P:Program) (fi:FI) (N:Nat) (c:Code) (m:Nat):Prop:=∀(k:Nat) (x:Code),(Xl c)[k]? =some x→∀bk,fi.bk.lookup (m+k)=some bk→bk.Is P N x
theorem Zyb {fi:FI} {N:Nat} {x y c:Code} {m:Nat} (e:Xl c=Xl x++Xl y) (h:Ze3 P fi N c m):Ze3 P fi N x m:=fun k b hk=>h k b (by
 rw [e,List.getElem?_append_left (List.getElem?_eq_some_iff.1 hk).1]
 exact hk)
theorem Zwk {fi:FI} {N:Nat} {x y c:Code} {m:Nat} (e:Xl c=Xl x++Xl y) (h:Ze3 P fi N c m):Ze3 P fi N y (m+Code.ns x):=fun k b hk lp hl=>h (Code.ns x+k) b (by
 rw [e,List.getElem?_append_right (by rw [Qn];omega),Qn]
 rw [show Code.ns x+k - Code.ns x=k by omega]
 exact hk) lp (by rw [←Nat.add_assoc];exact hl)
theorem Zyc {fi:FI} {N:Nat} {x y:Code} {m:Nat} (h:Ze3 P fi N (.seq x y) m):Ze3 P fi N x (m+1):=fun k b hk lp hl=>h (k+1) b (by
 rw [Xl,List.getElem?_cons_succ,List.getElem?_append_left (List.getElem?_eq_some_iff.1 hk).1]
 exact hk) lp (by rw [show m+(k+1)=m+1+k by omega];exact hl)
theorem Zsa {fi:FI} {N:Nat} {x y:Code} {m:Nat} (h:Ze3 P fi N (.seq x y) m):Ze3 P fi N y (m+1+Code.ns x):=fun k b hk lp hl=>h (Code.ns x+k+1) b (by
 rw [Xl,List.getElem?_cons_succ,List.getElem?_append_right (by rw [Qn];omega),Qn]
 rw [show Code.ns x+k - Code.ns x=k by omega]
 exact hk) lp (by rw [show m+(Code.ns x+k+1)=m+1+Code.ns x+k by omega];exact hl)
def Zhp (P:Program) (fi:FI) (N:Nat) (c:Code) (n:Nat):Prop:=∀(k:Nat) (b:Code),(Zs c)[k]? =some (.loop b)→∀lp,fi.lp.lookup (n+k)=some lp→lp.Ok P N b
theorem Zsb {fi:FI} {N:Nat} {x y c:Code} {n:Nat} (e:Zs c=Zs x++Zs y) (h:Zhp P fi N c n):Zhp P fi N x n:=fun k b hk=>h k b (by
 rw [e,List.getElem?_append_left (List.getElem?_eq_some_iff.1 hk).1]
 exact hk)
theorem Zo3 {fi:FI} {N:Nat} {x y c:Code} {n:Nat} (e:Zs c=Zs x++Zs y) (h:Zhp P fi N c n):Zhp P fi N y (n+Code.nl x):=fun k b hk lp hl=>h (Code.nl x+k) b (by
 rw [e,List.getElem?_append_right (by rw [Qm];omega),Qm]
 rw [show Code.nl x+k - Code.nl x=k by omega]
 exact hk) lp (by rw [←Nat.add_assoc];exact hl)
theorem XY {O:Type} {fi:FI} {specs:Sp P} {out:O} {N:Nat} (ok:SpOk specs):∀(c:Code) (n m:Nat) (a:List TD) (h:List TEnt) (K:Kc O),a.length=N→Zhp P fi N c n→Ze3 P fi N c m→evT P fi specs c n m a h K=some out→
 ∃ex a' h',K ex a' h'=some out∧a'.length=N∧Xf P c (TD.ers (lk h) a) (erH h) ex (TD.ers (lk h') a') (erH h')
 |.skip,n,m,a,h,K,hN,hl,hb0,k=>⟨_,_,_,k,hN,Zwh⟩
 |.label _,n,m,a,h,K,hN,hl,hb0,k=>⟨_,_,_,k,hN,ZtP⟩
 |.exit _,n,m,a,h,K,hN,hl,hb0,k=>⟨_,_,_,k,hN,Zwi⟩
 |.ret,n,m,a,h,K,hN,hl,hb0,k=>⟨_,_,_,k,hN,Zx9⟩
 |.region id ops draw,n,m,a,h,K,hN,hl,hb0,k=>by
  unfold evT at k
  cases draw with
  |true=>
   rw [if_pos rfl] at k
   obtain ⟨a',h',k1,k2,k3⟩:=Zwa ok k
   exact ⟨_,_,_,k1,by rw [k2,hN],k3 id⟩
  |false=>
   rw [if_neg (by decide)] at k
   split at k
   ·obtain ⟨a',h',k1,k2,k3⟩:=Zwf ok k
    exact ⟨_,_,_,k1,by rw [k2,hN],k3 id⟩
   ·obtain ⟨a',h',hs,k1,k2,k3⟩:=Zwb ok k
    exact ⟨_,_,_,k1,by rw [k2,hN],k3 id⟩
 |.seq x y,n,m,a,h,K,hN,hl,hb0,k=>by
  have hx:=Zsb (x:=x) (y:=y) rfl hl
  have hy:=Zo3 (x:=x) (y:=y) rfl hl
  unfold evT at k
  obtain ⟨a0,h0,k,hN0,gst⟩:=Zx8 k
  rw [hN] at hN0
  suffices key:∃ex a' h',K ex a' h'=some out∧a'.length=N∧Xf P (.seq x y) (TD.ers (lk h0) a0) (erH h0) ex (TD.ers (lk h') a') (erH h') by
   obtain ⟨ex,a',h',g1,g2,g3⟩:=key
   exact ⟨ex,a',h',g1,g2,ZzR gst g3⟩
  clear gst
  have hN:=hN0
  clear hN0
  split at k
  ·obtain ⟨ex,a1,h1,k1,k2,k3⟩:=XY ok x _ _ _ _ _ hN hx (Zyc hb0) k
   split at k1
   ·obtain ⟨ex2,a2,h2,k4,k5,k6⟩:=XY ok y _ _ _ _ _ k2 hy (Zsa hb0) k1
    exact ⟨_,_,_,k4,k5,Zr8 k3 k6⟩
   ·rename_i hne
    exact ⟨_,_,_,k1,k2,Zo0 hne k3⟩
  ·rename_i bk hbk
   obtain ⟨vs,j1,k⟩:=Option.bind_eq_some_iff.1 k
   obtain ⟨v,j2,k⟩:=Option.bind_eq_some_iff.1 k
   obtain ⟨o,j3,k⟩:=Option.bind_eq_some_iff.1 k
   obtain ⟨e,vs',s,g1,g2,g3⟩:=ZlN k
   obtain ⟨a3,h3,j4,j5⟩:=Zo2 rfl j1
   have hok:=hb0 0 x rfl bk (by rw [Nat.add_zero];exact hbk)
   rw [hN] at g2 j4
   have e1:=ZcM _ _ _ j2
   have r:=hok v o j3 (a3,h3) (by rw [e1];exact j4) e vs' s g1 g2
   have k3:Xf P x (TD.ers (lk h0) a0) (erH h0) e.ex (TD.ers (lk s.2) s.1) (erH s.2):=by
    intro σ act okσ hH hrep
    obtain ⟨σ1,p1,p2,p3,p4,p5⟩:=j5 σ act okσ hH hrep
    rw [←p1]
    refine wp_mono (r σ1 act p4 p2 p5) ?_
    rintro e' a' w' ⟨rfl,σ2,q1,q2,q3,q4,q5⟩
    exact ⟨rfl,σ2,q1,q2,p3.trans q3,q4,q5⟩
   split at g3
   ·rename_i he
    rw [he] at k3
    obtain ⟨ex2,a2,h2,k4,k5,k6⟩:=XY ok y _ _ _ _ _ (ZgW g2) hy (Zsa hb0) g3
    exact ⟨_,_,_,k4,k5,Zr8 k3 k6⟩
   ·rename_i hne
    exact ⟨_,_,_,g3,ZgW g2,Zo0 hne k3⟩
 |.cond c x y,n,m,a,h,K,hN,hl,hb0,k=>by
  have hx:=Zsb (x:=x) (y:=y) rfl hl
  have hy:=Zo3 (x:=x) (y:=y) rfl hl
  have bx:=Zyb (x:=x) (y:=y) rfl hb0
  have bY:=Zwk (x:=x) (y:=y) rfl hb0
  unfold evT at k
  obtain ⟨b,k0,k⟩:=Option.bind_eq_some_iff.1 k
  obtain ⟨d,k00,k01⟩:=Option.bind_eq_some_iff.1 k0
  have hc:=Zm (L:=lk h) k00
  rw [ZdB k01] at hc
  split at k
  ·rename_i t
   cases k00
   have e:=Zr1 k01
   split at k
   ·rename_i hb
    subst hb
    rw [ZdE e] at k
    obtain ⟨ex,a1,h1,k1,k2,k3⟩:=XY ok x _ _ _ _ _ hN hx bx k
    exact ⟨_,_,_,k1,k2,ZgY hc k3⟩
   ·rename_i hb
    have hb:b=false:=by simpa using hb
    subst hb
    rw [ZdE e] at k
    obtain ⟨ex,a1,h1,k1,k2,k3⟩:=XY ok y _ _ _ _ _ hN hy bY k
    exact ⟨_,_,_,k1,k2,ZgY hc k3⟩
  ·split at k
   ·rename_i hb
    subst hb
    obtain ⟨ex,a1,h1,k1,k2,k3⟩:=XY ok x _ _ _ _ _ hN hx bx k
    exact ⟨_,_,_,k1,k2,ZgY hc k3⟩
   ·rename_i hb
    have hb:b=false:=by simpa using hb
    subst hb
    obtain ⟨ex,a1,h1,k1,k2,k3⟩:=XY ok y _ _ _ _ _ hN hy bY k
    exact ⟨_,_,_,k1,k2,ZgY hc k3⟩
 |.block id body,n,m,a,h,K,hN,hl,hb0,k=>by
  unfold evT at k
  obtain ⟨ex,a1,h1,k1,k2,k3⟩:=XY ok body _ _ _ _ _ hN hl hb0 k
  exact ⟨_,_,_,k1,k2,ZtN k3⟩
 |.scope body,n,m,a,h,K,hN,hl,hb0,k=>by
  unfold evT at k
  obtain ⟨ex,a1,h1,k1,k2,k3⟩:=XY ok body _ _ _ _ _ hN hl hb0 k
  exact ⟨_,_,_,k1,k2,ZtO k3⟩
 |.loop body,n,m,a,h,K,hN,hl,hb0,k=>by
  unfold evT at k
  split at k
  ·rename_i lp hlp
   obtain ⟨vs,j1,k⟩:=Option.bind_eq_some_iff.1 k
   obtain ⟨v,j2,k⟩:=Option.bind_eq_some_iff.1 k
   obtain ⟨o,j3,k⟩:=Option.bind_eq_some_iff.1 k
   obtain ⟨e,vs',s,g1,g2,g3⟩:=ZlN k
   obtain ⟨a3,h3,j4,j5⟩:=Zo2 rfl j1
   have hok:=hl 0 body rfl lp (by rw [Nat.add_zero];exact hlp)
   rw [hN] at g2 j4
   have e1:=ZcM _ _ _ j2
   have r:=hok v o j3 (a3,h3) (by rw [e1];exact j4) e vs' s g1 g2
   refine ⟨_,_,_,g3,ZgW g2, ?_⟩
   intro σ act okσ hH hrep
   obtain ⟨σ1,p1,p2,p3,p4,p5⟩:=j5 σ act okσ hH hrep
   rw [←p1]
   refine wp_mono (r σ1 act p4 p2 p5) ?_
   rintro e' a' w' ⟨rfl,σ2,q1,q2,q3,q4,q5⟩
   exact ⟨rfl,σ2,q1,q2,p3.trans q3,q4,q5⟩
  ·have hl1:Zhp P fi N body (n+1):=fun k b hk lp hl2=>hl (k+1) b (by rw [Zs,List.getElem?_cons_succ];exact hk) lp (by rw [show n+(k+1)=n+1+k by omega];exact hl2)
   obtain ⟨ex,a1,h1,k1,k2,k3⟩:=ZkQ (fun a h K out hN k=>XY ok body _ _ _ _ K hN hl1 hb0 k) _ _ _ _ _ hN k
   exact ⟨ex,a1,h1,k1,k2,ZoI k3⟩
 |.rangeFunc _ _ _ _,_,_,_,_,_,_,_,_,k=>by cases k
 |.goto _,_,_,_,_,_,_,_,_,k=>by cases k
 |.refuse _,_,_,_,_,_,_,_,_,k=>by cases k
end
end Go.Ev
end
section
namespace Go.Ev
def Zj {I X:Type} (step:I→Option (I⊕X)):Nat→I→Option X
 |0,_=>none
 |n+1,i=>(step i).bind fun r=>match r with
  |.inl j=>Zj step n j
  |.inr x=>some x
theorem Zyd:∃n:Nat,n=18446744073709551616:=⟨_,rfl⟩
noncomputable def fuel:Nat:=Classical.choose Zyd
theorem Zi5:fuel=18446744073709551616:=Classical.choose_spec Zyd
section
variable {P:Program}
def ZzV (n0:Nat) (ex:Ex) (a:List TD) (h:List TEnt):(l:List XSh)→Option (XSh.sum l)
 |[]=>none
 |[e]=>if ex=e.ex then (ZqA n0 e.sl e.es a h).bind fun vs=>toD e.ty vs else none
 |e::f::r=>match (if ex=e.ex then (ZqA n0 e.sl e.es a h).bind fun vs=>toD e.ty vs else none) with
  |some x=>some (Sum.inl x:Ty.dens e.ty⊕XSh.sum (f::r))
  |none=>(ZzV n0 ex a h (f::r)).map fun x=>(Sum.inr x:Ty.dens e.ty⊕XSh.sum (f::r))
theorem Zo4 {n0:Nat} {ex:Ex} {a:List TD} {h:List TEnt}:∀{l:List XSh} {o:XSh.sum l},ZzV n0 ex a h l=some o→∀e vs,ZtC l o e vs→ex=e.ex∧ZqA n0 e.sl e.es a h=some vs
 |[],_,k,_,_,_=>by cases k
 |[e],o,k,x,vs,hs=>by
  obtain ⟨rfl,rfl⟩:=hs
  have k:(if ex=x.ex then (ZqA n0 x.sl x.es a h).bind fun vs=>toD x.ty vs else none)=some o:=k
  split at k
  ·rename_i he
   obtain ⟨ws,h1,h2⟩:=Option.bind_eq_some_iff.1 k
   exact ⟨he,by rw [h1,ZcM _ _ _ h2]⟩
  ·cases k
 |e::f::r,o,k,x,vs,hs=>by
  simp only [ZzV] at k
  split at k
  ·rename_i y hy
   cases k
   obtain ⟨rfl,rfl⟩:=hs
   split at hy
   ·rename_i he
    obtain ⟨ws,h1,h2⟩:=Option.bind_eq_some_iff.1 hy
    exact ⟨he,by rw [h1,ZcM _ _ _ h2]⟩
   ·cases hy
  ·obtain ⟨y,h1,h2⟩:=Zc k
   subst h2
   exact Zo4 h1 x vs hs
def Zsc (P:Program) (fi:FI) (specs:Sp P) (body:Code) (n N:Nat) (sl:Slots) (es:List ESh) (I:List Ty) (xs:List XSh):Ty.dens I→Option (Ty.dens I⊕XSh.sum xs):=fun v=>
 (X7 N sl es (ofD I v)).bind fun s=>evT P fi specs body (n+1) 0 s.1 s.2 fun ex a h=>match ex with
   |.normal=>(ZqA s.2.length sl es a h).bind fun vs=>(toD I vs).map .inl
   |ex=>(ZzV s.2.length ex a h xs).map .inr
theorem Zye {fi:FI} {specs:Sp P} {body:Code} {n N:Nat} {sl:Slots} {es:List ESh} {I:List Ty} {xs:List XSh} (ok:SpOk specs) (hl:Zhp P fi N body (n+1)) (hb0:Ze3 P fi N body 0):
 ∀(f:Nat) (v:Ty.dens I) (o:XSh.sum xs),Zj (Zsc P fi specs body n N sl es I xs) f v=some o→∀s,X7 N sl es (ofD I v)=some s→∀e vs s',ZtC xs o e vs→X7 N e.sl e.es vs=some s'→
  ZoF P body (TD.ers (lk s.2) s.1) (erH s.2) e.ex (TD.ers (lk s'.2) s'.1) (erH s'.2)
 |0,_,_,h,_,_,_,_,_,_,_=>by cases h
 |f+1,v,o,h,s,hs,e,vs,s',hx,hs'=>by
  unfold Zj at h
  obtain ⟨r,h1,h2⟩:=Option.bind_eq_some_iff.1 h
  unfold Zsc at h1
  rw [hs,Option.bind_some] at h1
  obtain ⟨ex,a,h3,k1,k2,k3⟩:=XY ok body _ _ _ _ _ (ZgW hs) hl hb0 h1
  split at k1
  ·obtain ⟨ws,g1,k1⟩:=Option.bind_eq_some_iff.1 k1
   obtain ⟨w,g2,rfl⟩:=Zc k1
   obtain ⟨a3,h4,g3,g4⟩:=Zo1 (P:=P) g1
   rw [k2] at g3
   have r1:=g4 (ZE _) k3
   have:=Zye ok hl hb0 f w o h2 (a3,h4) (by rw [ZcM _ _ _ g2];exact g3) e vs s' hx hs'
   exact ZoH [] r1 this
  ·rename_i hne
   obtain ⟨w,g2,rfl⟩:=Zc k1
   cases h2
   obtain ⟨g5,g6⟩:=Zo4 g2 e vs hx
   obtain ⟨a3,h4,g3,g4⟩:=Zo1 (P:=P) g6
   rw [k2,hs'] at g3
   cases g3
   subst g5
   exact ZoG hne (g4 (ZE _) k3)
theorem ZB6 {fi:FI} {specs:Sp P} {body:Code} {n N:Nat} {sl:Slots} {es:List ESh} {I:List Ty} {xs:List XSh} {step:Ty.dens I→Option (Ty.dens I⊕XSh.sum xs)} (f:Nat) (ok:SpOk specs) (hl:Zhp P fi N body (n+1)) (hb0:Ze3 P fi N body 0)
 (h:∀v,Zsc P fi specs body n N sl es I xs v=step v):Lp.Ok P N body ⟨sl,es,I,xs,Zj step f⟩:=by
 intro v o hL s hs e vs s' hx hs'
 have e1:Zsc P fi specs body n N sl es I xs=step:=funext h
 subst e1
 exact ZoI (Zye ok hl hb0 f v o hL s hs e vs s' hx hs')
theorem Zas:∀(c:Code) (k:Nat) (b:Code),(Zs c)[k]? =some (.loop b)→∀j x,(Zs b)[j]? =some x→(Zs c)[k+1+j]? =some x
 |.seq x y,k,b,h,j,z,hz=>by
  simp only [Zs] at h ⊢
  rcases Nat.lt_or_ge k (Zs x).length with hl|hl
  ·rw [List.getElem?_append_left hl] at h
   have:=Zas x k b h j z hz
   rw [List.getElem?_append_left (List.getElem?_eq_some_iff.1 this).1]
   exact this
  ·rw [List.getElem?_append_right hl] at h
   have:=Zas y _ b h j z hz
   rw [List.getElem?_append_right (by omega)]
   rw [show k+1+j - (Zs x).length=k - (Zs x).length+1+j by omega]
   exact this
 |.cond _ x y,k,b,h,j,z,hz=>by
  simp only [Zs] at h ⊢
  rcases Nat.lt_or_ge k (Zs x).length with hl|hl
  ·rw [List.getElem?_append_left hl] at h
   have:=Zas x k b h j z hz
   rw [List.getElem?_append_left (List.getElem?_eq_some_iff.1 this).1]
   exact this
  ·rw [List.getElem?_append_right hl] at h
   have:=Zas y _ b h j z hz
   rw [List.getElem?_append_right (by omega)]
   rw [show k+1+j - (Zs x).length=k - (Zs x).length+1+j by omega]
   exact this
 |.block _ a,k,b,h,j,z,hz=>Zas a k b h j z hz
 |.scope a,k,b,h,j,z,hz=>Zas a k b h j z hz
 |.loop a,k,b,h,j,z,hz=>by
  simp only [Zs] at h ⊢
  cases k with
  |zero=>
   simp only [List.getElem?_cons_zero,Option.some.injEq,Code.loop.injEq] at h
   subst h
   rw [show 0+1+j=j+1 by omega,List.getElem?_cons_succ]
   exact hz
  |succ k=>
   rw [List.getElem?_cons_succ] at h
   rw [show k+1+1+j=(k+1+j)+1 by omega,List.getElem?_cons_succ]
   exact Zas a k b h j z hz
 |.skip,_,_,h,_,_,_=>by simp [Zs] at h
 |.region _ _ _,_,_,h,_,_,_=>by simp [Zs] at h
 |.rangeFunc _ _ _ _,_,_,h,_,_,_=>by simp [Zs] at h
 |.exit _,_,_,h,_,_,_=>by simp [Zs] at h
 |.ret,_,_,h,_,_,_=>by simp [Zs] at h
 |.label _,_,_,h,_,_,_=>by simp [Zs] at h
 |.goto _,_,_,h,_,_,_=>by simp [Zs] at h
 |.refuse _,_,_,h,_,_,_=>by simp [Zs] at h
def Zo5 (P:Program) (g:FuncId) (N:Nat):List (Nat×Lp)→Prop
 |[]=>True
 |q::r=>q.2.Ok P N (Zp P g q.1)∧Zo5 P g N r
theorem Zkg {g:FuncId} {N:Nat}:∀{l:List (Nat×Lp)} {n:Nat} {lp:Lp},Zo5 P g N l→l.lookup n=some lp→lp.Ok P N (Zp P g n)
 |[],_,_,_,h=>by cases h
 |q::r,n,lp,hk,h=>by
  rw [List.lookup_cons] at h
  split at h
  ·rename_i e
   cases h
   rw [beq_iff_eq] at e
   rw [e]
   exact hk.1
  ·exact Zkg hk.2 h
def Zep (P:Program) (g:FuncId):Code:=
 match P.funcs[g]? with
 |some fn=>fn.body.getD .skip
 |none=>.skip
theorem Zkh {g:FuncId} {k:Nat} {b:Code} (h:(Zs (Zep P g))[k]? =some (.loop b)):Zp P g k=b:=by
 unfold Zp Zxh
 unfold Zep at h
 split at h
 ·rename_i fn hf
  rw [hf]
  dsimp only
  cases hb:fn.body with
  |none=>rw [hb] at h;simp [Zs] at h
  |some c=>
   rw [hb] at h
   dsimp only [Option.getD] at h ⊢
   rw [List.getD_eq_getElem?_getD,h]
   rfl
 ·simp [Zs] at h
theorem ZzW {g:FuncId} {fi:FI} {N:Nat} (h:Zo5 P g N fi.lp):Zhp P fi N (Zep P g) 0:=by
 intro k b hk lp hl
 rw [Nat.zero_add] at hl
 rw [←Zkh hk]
 exact Zkg h hl
theorem Zyf {g:FuncId} {fi:FI} {N k:Nat} (hk:(Zs (Zep P g))[k]? =some (.loop (Zp P g k))) (h:Zo5 P g N fi.lp):Zhp P fi N (Zp P g k) (k+1):=by
 intro j b hj lp hl
 have:=Zas _ _ _ hk j _ hj
 rw [←Zkh this]
 exact Zkg h hl
def Zm3 (P:Program) (g k:Nat):Bool:=
 match (Zs (Zep P g))[k]? with
 |some (.loop _)=>true
 |_=>false
theorem Zob {g k:Nat} (h:Zm3 P g k=true):(Zs (Zep P g))[k]? =some (.loop (Zp P g k)):=by
 unfold Zm3 at h
 split at h
 ·rename_i b hb
  rw [hb,Zkh hb]
 ·cases h
def Zyg (c:Code) (m:Nat):Code:=((Xl c)[m]?).getD .skip
def Zsd (P:Program) (N:Nat) (c:Code):List (Nat×Lp)→Prop
 |[]=>True
 |q::r=>q.2.Is P N (Zyg c q.1)∧Zsd P N c r
theorem Zo6 {N:Nat} {c:Code}:∀{l:List (Nat×Lp)} {m:Nat} {bk:Lp},Zsd P N c l→l.lookup m=some bk→bk.Is P N (Zyg c m)
 |[],_,_,_,h=>by cases h
 |q::r,m,bk,hk,h=>by
  rw [List.lookup_cons] at h
  split at h
  ·rename_i he
   cases h
   have:m=q.1:=by simpa using he
   rw [this]
   exact hk.1
  ·exact Zo6 hk.2 h
theorem ZuW {fi:FI} {N:Nat} {c:Code} (h:Zsd P N c fi.bk):Ze3 P fi N c 0:=by
 intro k x hk bk hl
 rw [Nat.zero_add] at hl
 have:=Zo6 h hl
 unfold Zyg at this
 rw [hk] at this
 exact this
theorem Zo {fi:FI} {specs:Sp P} {g k N:Nat} {sl:Slots} {es:List ESh} {I:List Ty} {xs:List XSh} {step:Ty.dens I→Option (Ty.dens I⊕XSh.sum xs)} (ok:SpOk specs) (hl:Zo5 P g N fi.lp) (hk:Zm3 P g k=true)
 (h:∀v,Zsc P fi specs (Zp P g k) k N sl es I xs v=step v) (hb:Zsd P N (Zp P g k) fi.bk:=by exact True.intro):Lp.Ok P N (Zp P g k) ⟨sl,es,I,xs,Zj step fuel⟩:=
 ZB6 fuel ok (Zyf (Zob hk) hl) (ZuW hb) h
def Zse {O:Type} (P:Program) (a:List TD) (h:List TEnt):List ResultVar→(List TD→List Hint→Option O)→Option O
 |[],K=>K [] []
 |.tmp t::r,K=>Zse P a h r fun ds hs=>K (a.getD t .junk::ds) hs
 |.cell t ty::r,K=>match a.getD t .junk with
  |.ref id path=>(ZkL h id).bind fun d=>gpT (lk h) path d fun sub hs _=>if okT P ty (sub.er (lk h))=true then Zse P a h r fun ds hs'=>K (sub::ds) (hs++hs') else none
  |_=>none
theorem ZgZ {O:Type} {a:List TD} {h:List TEnt} {out:O}:∀(l:List ResultVar) (K:List TD→List Hint→Option O),Zse P a h l K=some out→∃ds hs C,K ds hs=some out∧AllP C∧∀rest,ZnV P (TD.ers (lk h) a) (erH h) l (hs++rest)=some (C,TD.ers (lk h) ds)
 |[],K,k=>⟨[],[],[],k,trivial,fun _=>rfl⟩
 |.tmp t::r,K,k=>by
  obtain ⟨ds,hs,C,k1,k2,k3⟩:=ZgZ r _ k
  refine ⟨_,_,C,k1,k2,fun rest=> ?_⟩
  simp only [ZnV,k3 rest,Option.map_some,ZiO,TD.ers]
 |.cell t ty::r,K,k=>by
  unfold Zse at k
  split at k
  ·rename_i id path hx
   obtain ⟨d,h1,k⟩:=Option.bind_eq_some_iff.1 k
   obtain ⟨st,h2,h3⟩:=ZbL h1
   obtain ⟨sub,hs,put,C,g1,g2,g3,_⟩:=YN _ _ _ _ k
   obtain ⟨g4,g5⟩:=Za g1
   obtain ⟨ds,hs',C',k1,k2,k3⟩:=ZgZ r _ g5
   refine ⟨_,_,C++[V7 path=Xk path]++C',k1,Zh.2 ⟨Zh.2 ⟨g2,(YR _).symm,trivial⟩,k2⟩,fun rest=> ?_⟩
   unfold ZnV
   rw [ZiO,hx]
   dsimp only [TD.er]
   rw [h3]
   dsimp only
   rw [List.append_assoc,g3 (hs'++rest)]
   dsimp only
   rw [if_pos g4,k3 rest]
   rfl
  ·cases k
def Zoc:List TD→TD
 |[d]=>d
 |ds=>.tup ds
theorem ZlP {L:Lk} (ds:List TD):(Zoc ds).er L=ZlW (TD.ers L ds):=by
 match ds with
 |[]=>rfl
 |[d]=>rfl
 |_::_::_=>rfl
def TD.arg (L:Lk):TD→TD
 |.own id nn t c=>.p (.sl nn t (ZQ L id t c))
 |.agg ds=>TD.melt L ds
 |d=>d
theorem Zyh {L:Lk} (d:TD):(d.arg L).er L=(d.er L).arg:=by
 cases d <;> first|rfl|exact Zuv _
def ZBq (h:List TEnt) (rs:Sh) (es:List ESh) (n0:Nat) (r:TD):Option (List Nat):=
 let l:=ZBk h es 0 ((List.range n0).map (fun i=>(i,i))++Sh.ids rs r)
 ((List.range es.length).drop n0).mapM fun j=>l.lookup j
def ZzX (h:List TEnt) (n0:Nat) (ds:List TD) (e:XSh):Option (Ty.dens e.ty):=
 match e.sl with
 |[(0,rs)]=>(ZBq h rs e.es n0 (Zoc ds)).bind fun keep=>
  if once (List.range n0++keep) then (match Dv.rn (toIds (List.range n0++keep)) ((Zoc ds).er (lk h)) with
   |some _=>(Zoc ds).rn (toIds (List.range n0++keep))
   |none=>(Zoc (ds.map (TD.arg (lk h)))).rn (toIds (List.range n0++keep))).bind fun r=>
   (XE h (List.range n0++keep) (List.range n0++keep)).bind fun h2=>(Sh.mt (lk h2) rs r).bind fun q=>(ESh.mts (lk h2) e.es h2).bind fun w=>toD e.ty (q.2++w.2)
  else none
 |_=>none
def Zsf (h:List TEnt) (n0:Nat) (ds:List TD):(l:List XSh)→Option (XSh.sum l)
 |[]=>none
 |[e]=>ZzX h n0 ds e
 |e::f::r=>match ZzX h n0 ds e with
  |some x=>some (Sum.inl x:Ty.dens e.ty⊕XSh.sum (f::r))
  |none=>(Zsf h n0 ds (f::r)).map fun x=>(Sum.inr x:Ty.dens e.ty⊕XSh.sum (f::r))
theorem Zm4 {h:List TEnt} {n0:Nat} {ds:List TD}:∀{l:List XSh} {o:XSh.sum l},Zsf h n0 ds l=some o→∀e vs,ZtC l o e vs→∃x,ZzX h n0 ds e=some x∧vs=ofD e.ty x
 |[],_,k,_,_,_=>by cases k
 |[e],o,k,x,vs,hs=>by
  obtain ⟨rfl,rfl⟩:=hs
  exact ⟨o,k,rfl⟩
 |e::f::r,o,k,x,vs,hs=>by
  simp only [Zsf] at k
  split at k
  ·rename_i y hy
   cases k
   obtain ⟨rfl,rfl⟩:=hs
   exact ⟨y,hy,rfl⟩
  ·obtain ⟨y,h1,h2⟩:=Zc k
   subst h2
   exact Zm4 h1 x vs hs
def fnT (P:Program) (fi:FI) (specs:Sp P) (g:FuncId) (ps:List Sh) (es:List ESh) (ins:List Ty) (xs:List XSh):Ty.dens ins→Option (XSh.sum xs):=fun x=>
 match P.funcs[g]? with
 |some fn=>match fn.body with
  |some c=>(Sh.fills ps (ofD ins x)).bind fun q=>(ESh.fills es q.2).bind fun w=>if w.2.isEmpty then
    evT P fi specs c 0 0 (q.1++List.replicate (fn.ntmps - q.1.length) .junk) w.1 fun ex a h=>match ex with
     |.exit _=>none
     |_=>Zse P a h fn.results.toList fun ds _=>Zsf h w.1.length ds xs
    else none
  |none=>none
 |none=>none
def Zr (P:Program) (g:FuncId):Nat:=
 match P.funcs[g]? with
 |some fn=>fn.ntmps
 |none=>0
theorem Zn {fi:FI} {specs:Sp P} {g:FuncId} {ps:List Sh} {es:List ESh} {ins:List Ty} {xs:List XSh} {M:Ty.dens ins→Option (XSh.sum xs)} (ok:SpOk specs) (hl:Zo5 P g (Zr P g) fi.lp) (hn:ps.length≤Zr P g)
 (h:∀x,fnT P fi specs g ps es ins xs x=M x) (hb:Zsd P (Zr P g) (Zep P g) fi.bk:=by exact True.intro):Fs.Ok (⟨g,ps,es,ins,xs,M⟩:Fs P):=by
 intro x o hM
 have hM:M x=some o:=hM
 rw [←h x] at hM
 have hl':=ZzW hl
 unfold fnT at hM
 split at hM
 ·rename_i fn hf
  split at hM
  ·rename_i c hb1
   obtain ⟨q,h1,hM⟩:=Option.bind_eq_some_iff.1 hM
   obtain ⟨w,h2,hM⟩:=Option.bind_eq_some_iff.1 hM
   obtain ⟨h3,hM⟩:=Za hM
   have hN:Zr P g=fn.ntmps:=by unfold Zr;rw [hf]
   have hc:Zep P g=c:=by unfold Zep;rw [hf];dsimp only;rw [hb1];rfl
   rw [hc,hN] at hl' hb
   have hb0:=ZuW hb
   rw [hN] at hn
   have hlen:(q.1++List.replicate (fn.ntmps - q.1.length) TD.junk).length=fn.ntmps:=by
    rw [List.length_append,List.length_replicate,Zke h1]
    omega
   obtain ⟨ex,a,hh,k1,k2,k3⟩:=XY ok c _ _ _ _ _ hlen hl' hb0 hM
   have hex:(ex=.ret∨ex=.normal)∧(Zse P a hh fn.results.toList fun ds _=>Zsf hh w.1.length ds xs)=some o:=by
    cases ex with
    |exit _=>cases k1
    |normal=>exact ⟨.inr rfl,k1⟩
    |ret=>exact ⟨.inl rfl,k1⟩
   obtain ⟨hex,k1⟩:=hex
   obtain ⟨ds,hs,C,g1,g2,g3⟩:=ZgZ _ _ k1
   refine ⟨q.1,q.2,w.1,h1, ?_,fun e vs s' hsel hfs=> ?_⟩
   ·rw [h2]
    have:w.2=[]:=by simpa using h3
    rw [←this]
   obtain ⟨o1,g1,hvs⟩:=Zm4 g1 e vs hsel
   unfold ZzX at g1
   split at g1
   case h_2=>cases g1
   rename_i rs hsl
   obtain ⟨keep,g4,g1⟩:=Option.bind_eq_some_iff.1 g1
   obtain ⟨g5,g1⟩:=Za g1
   obtain ⟨r,g6,g1⟩:=Option.bind_eq_some_iff.1 g1
   obtain ⟨e2,g7,g1⟩:=Option.bind_eq_some_iff.1 g1
   obtain ⟨z,g8,g1⟩:=Option.bind_eq_some_iff.1 g1
   obtain ⟨y,g9,g1⟩:=Option.bind_eq_some_iff.1 g1
   obtain ⟨b1,b2⟩:=ZfN g9
   have hcc:∀id t,ZQ (lk e2) id t none=ZQ (lk y.1) id t none:=fun id t=>by rw [b2]
   have eo:=ZcM _ _ _ g1
   have efill:s'=([z.1],y.1):=by
    rw [hvs,eo,hsl] at hfs
    unfold X7 at hfs
    rw [show shs [(0,rs)] 1=[rs] from rfl] at hfs
    simp only [Sh.fills,Zi2 _ _ _ g8,Option.bind_some,Option.map_some] at hfs
    have:=ZbO g9 []
    rw [List.append_nil] at this
    rw [this] at hfs
    exact (Option.some.inj hfs).symm
   subst efill
   refine ⟨z.1,rfl, ?_⟩
   have hfin:fin P fn (TD.ers (lk hh) a) (erH hh) (erH w.1).length keep hs=some (C,r.er (lk e2),erH e2):=by
    unfold fin
    have:=g3 []
    rw [List.append_nil] at this
    rw [this]
    dsimp only
    rw [ZE,g5, ←ZlP,show subEnts (erH hh) _ _=some (erH e2) from X8 (ZaX g7) g7]
    split at g6
    ·rename_i r0 hr0
     have e4:=ZfO (ZaX g7) _ _ g6
     rw [e4]
    ·rename_i hr0
     have e4:=ZfO (ZaX g7) _ _ g6
     rw [ZlP,ZA,List.map_map] at e4
     rw [hr0,show (TD.ers (lk hh) ds).map Dv.arg=ds.map (TD.er (lk hh) ∘ TD.arg (lk hh)) by
      rw [ZA,List.map_map]
      exact List.map_congr_left fun d _=>(Zyh d).symm,e4]
   have hrun:Xf P c (TD.ers (lk w.1) q.1++List.replicate (fn.ntmps - (TD.ers (lk w.1) q.1).length) .junk) (erH w.1) ex (TD.ers (lk hh) a) (erH hh):=by
    have e5:TD.ers (lk w.1) (q.1++List.replicate (fn.ntmps - q.1.length) TD.junk)=TD.ers (lk w.1) q.1++List.replicate (fn.ntmps - (TD.ers (lk w.1) q.1).length) .junk:=by
     rw [ZcE,ZA,ZA,List.map_append,List.map_replicate]
     rfl
    rw [←e5]
    exact k3
   exact Zxi (ZkI hf hb1 hrun hex hfin g2) (ZoQ hcc _ _ _ g8) (Zi3 hcc g9)
  ·cases hM
 ·cases hM
end
theorem ZqB {P:Program} {g:FuncId} {t:Ty} {xs:List XSh} {MA:Ty.dens [.sl t]→Option (XSh.sum xs)} {MB:Ty.dens []→Option (XSh.sum xs)} (hA:Fs.Ok (⟨g,[.sl true t],[],[.sl t],xs,MA⟩:Fs P)) (hB:Fs.Ok (⟨g,[.nil t],[],[],xs,MB⟩:Fs P))
 (h:MB ()=MA ([]:List t.den)):Fs.Ok (⟨g,[.v (.sl t)],[],[.sl t],xs,MA⟩:Fs P):=by
 intro l o hM
 have key:∀(l:List t.den),Ty.cast (.sl t) (.sl t) l=some l:=fun l=>YB (.sl t) l
 obtain ⟨a1,R1,H1,f1,f2,f3⟩:=hA l o hM
 have e1:a1=[.p (.sl (some true) t l)]∧R1=[]:=by
  have:Sh.fills [.sl true t] [(⟨.sl t,l⟩:TV)]=some (a1,R1):=f1
  simp only [Sh.fills,Sh.fill] at this
  rw [key l] at this
  have this:some (([.p (.sl (some true) t l)]:List TD),([]:List TV))=some (a1,R1):=this
  cases this
  exact ⟨rfl,rfl⟩
 obtain ⟨rfl,rfl⟩:=e1
 cases f2
 refine ⟨[.p (.v (.sl t) l)],[],[], ?_,rfl,fun e vs s' hs hf=> ?_⟩
 ·show Sh.fills [.v (.sl t)] [(⟨.sl t,l⟩:TV)]=_
  simp only [Sh.fills,Sh.fill]
  rw [key l]
  rfl
 ·obtain ⟨r,r1,r2⟩:=f3 e vs s' hs hf
  refine ⟨r,r1, ?_⟩
  refine Zze (xs:=l.map t.enc) r2 fun hl=> ?_
  have hl:l=[]:=List.map_eq_nil_iff.1 hl
  subst hl
  obtain ⟨a2,R2,H2,g1,g2,g3⟩:=hB () o (by rw [←hM];exact h)
  cases g1
  cases g2
  obtain ⟨r',r1',r2'⟩:=g3 e vs s' hs hf
  rw [r1] at r1'
  cases r1'
  exact r2'
def Zm5 (n:Int):Option (List UInt8):=if (decide (0≤n)&&decide (n.toNat≤bytesBound))=true then some [] else none
theorem ZzY {P:Program} {g:FuncId} {e:TypeId} (h:∀n:Nat,n≤bytesBound→Con P g [.p (.sl (some false) 1 []),.p (.int .i64 (n:Int))] [] (.own 0 none 1 []) [.log 1 e []]):
 Fs.Ok (⟨g,[.nil .u8,.v (.int .i64)],[],[.int .i64],[⟨.ret,[(0,.own 0 .u8)],[.log .u8 e],[.sl .u8]⟩],Zm5⟩:Fs P):=by
 intro n o hM
 have key:∀(n:Int),Zm5 n=some o→(0≤n∧n.toNat≤bytesBound)∧([]:List UInt8)=o:=fun n hM=>by
  unfold Zm5 at hM
  obtain ⟨h1,h2⟩:=Za (α:=List UInt8) hM
  rw [Bool.and_eq_true,decide_eq_true_eq,decide_eq_true_eq] at h1
  exact ⟨h1,Option.some.inj h2⟩
 obtain ⟨h1,h2⟩:=key n hM
 cases h2
 refine ⟨[.p (.sl (some false) .u8 []),.p (.v (.int .i64) n)],[],[],rfl,rfl,fun x vs s' hs hf=> ?_⟩
 obtain ⟨rfl,rfl⟩:=hs
 cases hf
 refine ⟨_,rfl, ?_⟩
 have:=h (Int.toNat n) h1.2
 rw [Int.toNat_of_nonneg h1.1] at this
 exact this
mutual
theorem Zo7:∀(s:Sh) (vs w:List TV) (q:TD×List TV),s.fill vs=some q→s.fill (vs++w)=some (q.1,q.2++w)
 |.v t,vs,w,q,h=>by
  cases vs with
  |nil=>cases h
  |cons x r=>
   obtain ⟨y,h1,rfl⟩:=Zc (show (Ty.cast x.1 t x.2).map (fun y=>((TD.p (.v t y),r):TD×List TV))=some q from h)
   show (Ty.cast x.1 t x.2).map (fun y=>((TD.p (.v t y),r++w):TD×List TV))=_
   rw [h1];rfl
 |.elem t,vs,w,q,h=>by
  cases vs with
  |nil=>cases h
  |cons x r=>
   obtain ⟨y,h1,rfl⟩:=Zc (show (Ty.cast x.1 t x.2).map (fun y=>((TD.elem (.v t y),r):TD×List TV))=some q from h)
   show (Ty.cast x.1 t x.2).map (fun y=>((TD.elem (.v t y),r++w):TD×List TV))=_
   rw [h1];rfl
 |.sl nn t,vs,w,q,h=>by
  cases vs with
  |nil=>cases h
  |cons x r=>
   obtain ⟨y,h1,rfl⟩:=Zc (α:=(Ty.sl t).den) (show (Ty.cast x.1 (.sl t) x.2).map (fun (y:List t.den)=>((TD.p (.sl (some nn) t y),r):TD×List TV))=some q from h)
   show (Ty.cast x.1 (.sl t) x.2).map (fun (y:List t.den)=>((TD.p (.sl (some nn) t y),r++w):TD×List TV))=_
   rw [h1];rfl
 |.nil _,vs,w,q,h=>by cases h;rfl
 |.own _ _,vs,w,q,h=>by cases h;rfl
 |.ref _ _,vs,w,q,h=>by cases h;rfl
 |.mp _,vs,w,q,h=>by cases h;rfl
 |.rw _,vs,w,q,h=>by cases h;rfl
 |.rp j s p,vs,w,q,h=>by
  cases vs with
  |nil=>cases h
  |cons x r=>
   obtain ⟨y,h1,rfl⟩:=Zc (α:=Int) (show (Ty.cast x.1 (.int .i64) x.2).map (fun (i:Int)=>((TD.rp j (.ix i.toNat s::p),r):TD×List TV))=some q from h)
   show (Ty.cast x.1 (.int .i64) x.2).map (fun (i:Int)=>((TD.rp j (.ix i.toNat s::p),r++w):TD×List TV))=_
   rw [h1];rfl
 |.view _ _ _ _ _,vs,w,q,h=>by cases h;rfl
 |.fn g l,vs,w,q,h=>by
  simp only [Sh.fill] at h ⊢
  obtain ⟨y,h1,rfl⟩:=Zc h
  rw [fills_more l vs w y h1];rfl
 |.agg l,vs,w,q,h=>by
  simp only [Sh.fill] at h ⊢
  obtain ⟨y,h1,rfl⟩:=Zc h
  rw [fills_more l vs w y h1];rfl
 |.arr n s l,vs,w,q,h=>by
  simp only [Sh.fill] at h ⊢
  obtain ⟨y,h1,rfl⟩:=Zc h
  rw [fills_more l vs w y h1];rfl
 |.tup l,vs,w,q,h=>by
  simp only [Sh.fill] at h ⊢
  obtain ⟨y,h1,rfl⟩:=Zc h
  rw [fills_more l vs w y h1];rfl
 |.iface t x,vs,w,q,h=>by
  simp only [Sh.fill] at h ⊢
  obtain ⟨y,h1,rfl⟩:=Zc h
  rw [Zo7 x vs w y h1];rfl
 |.ptr0,vs,w,q,h=>by cases h;rfl
 |.fn0,vs,w,q,h=>by cases h;rfl
 |.if0,vs,w,q,h=>by cases h;rfl
 |.map0,vs,w,q,h=>by cases h;rfl
 |.junk,vs,w,q,h=>by cases h;rfl
theorem fills_more:∀(l:List Sh) (vs w:List TV) (q:List TD×List TV),Sh.fills l vs=some q→Sh.fills l (vs++w)=some (q.1,q.2++w)
 |[],vs,w,q,h=>by simp only [Sh.fills] at h;cases h;rfl
 |s::r,vs,w,q,h=>by
  simp only [Sh.fills] at h ⊢
  obtain ⟨a,h1,h⟩:=Option.bind_eq_some_iff.1 h
  obtain ⟨b,h2,rfl⟩:=Zc h
  rw [Zo7 s vs w a h1,Option.bind_some,fills_more r a.2 w b h2]
  rfl
end
theorem ZBr {P:Program} {g:FuncId} {t:Ty} {e:TypeId} {rest:List Sh} {i1 i2:List Ty} {xs:List XSh} {M:Ty.dens i2→Option (XSh.sum xs)} (pk:Ty.dens i1→Ty.dens i2) (h:Fs.Ok (⟨g,.own 0 t::rest,[.log t e],i2,xs,M⟩:Fs P))
 (hp:∀x,ofD i2 (pk x)=ofD i1 x++[⟨.sl t,([]:List t.den)⟩]) (hf:∀x,∃a,Sh.fills rest (ofD i1 x)=some (a,[])):Fs.Ok (⟨g,.nil t::rest,[],i1,xs,fun x=>M (pk x)⟩:Fs P):=by
 intro x o hM
 obtain ⟨args,R,H,f1,f2,f3⟩:=h (pk x) o hM
 obtain ⟨a,ha⟩:=hf x
 have f1:Sh.fills (.own 0 t::rest) (ofD i2 (pk x))=some (args,R):=f1
 rw [hp x] at f1
 simp only [Sh.fills,Sh.fill,Option.bind_some,fills_more rest _ _ _ ha,Option.map_some,Option.some.injEq,Prod.mk.injEq,List.nil_append] at f1
 obtain ⟨rfl,rfl⟩:=f1
 have f2:((Ty.cast (.sl t) (.sl t) ([]:List t.den)).map fun (y:List t.den)=>((TEnt.log t e y,[]):TEnt×List TV)).bind (fun a=>(ESh.fills [] a.2).map fun b=>(a.1::b.1,b.2))=some (H,[]):=f2
 have key:Ty.cast (.sl t) (.sl t) ([]:List t.den)=some ([]:List t.den):=YB (.sl t) ([]:List t.den)
 rw [key] at f2
 cases f2
 refine ⟨.p (.sl (some false) t [])::a,[],[], ?_,rfl,fun x' vs s' hs hf'=> ?_⟩
 ·show Sh.fills (.nil t::rest) (ofD i1 x)=_
  simp only [Sh.fills,Sh.fill,Option.bind_some,ha,Option.map_some]
 ·obtain ⟨r,r1,r2⟩:=f3 x' vs s' hs hf'
  refine ⟨r,r1, ?_⟩
  have e1:TD.ers (lk [.log t e []]) (.own 0 none t none::a)=.own 0 none t.size []::TD.ers (lk []) a:=by
   have e0:TD.ers (lk [.log t e []]) a=TD.ers (lk []) a:=(ers_cont (fun id t'=>ZiX (H:=[]) (T:=t) (e:=e) id t') a).symm
   rw [TD.ers,e0]
   congr 1
   rw [TD.er,show ZQ (lk [.log t e []]) 0 t none=[] from Zbw (H:=[])]
   rfl
  have r2:Con P g (TD.ers (lk [.log t e []]) (.own 0 none t none::a)) (erH [.log t e []]) (r.er (lk s'.2)) (erH s'.2):=r2
  rw [e1] at r2
  exact Zrr (H:=[]) (e:=e) r2
end Go.Ev
end
section
namespace Go.Ev
universe u
variable {O:Type u}
def Zat (n:Nat) (k:Nat→O):O:=Nat.rec (motive:=fun _=>O) (k 0) (fun m _=>k (Nat.succ m)) n
theorem Ym (n:Nat) (k:Nat→O):Zat n k=k n:=by cases n <;> rfl
def ZbP {α:Type} (f:α→(α→O)→O):List α→(List α→O)→O
 |[],k=>k []
 |a::r,k=>f a fun a=>ZbP f r fun r=>k (a::r)
theorem XZ {α:Type} {f:α→(α→O)→O} (hf:∀a k,f a k=k a):∀(l:List α) (k:List α→O),ZbP f l k=k l
 |[],k=>rfl
 |a::r,k=>by rw [ZbP,hf,XZ hf r]
def ZBs (n:Int) (k:Int→O):O:=match n with
 |.ofNat n=>Zat n fun n=>k (.ofNat n)
 |.negSucc n=>Zat n fun n=>k (.negSucc n)
theorem ZzZ (n:Int) (k:Int→O):ZBs n k=k n:=by cases n <;> (rw [ZBs,Ym])
def Zm6 (b:Bool) (k:Bool→O):O:=match b with
 |true=>k true
 |false=>k false
theorem ZdG (b:Bool) (k:Bool→O):Zm6 b k=k b:=by cases b <;> rfl
mutual
def Ty.fo:(t:Ty)→t.den→(t.den→O)→O
 |.int _,x,k=>ZBs x k
 |.u8,x,k=>Zat (UInt8.toNat x) fun n=>k (UInt8.ofNat n)
 |.u32,x,k=>Zat (UInt32.toNat x) fun n=>k (UInt32.ofNat n)
 |.u64,x,k=>Zat (UInt64.toNat x) fun n=>k (UInt64.ofNat n)
 |.bool,x,k=>Zm6 x k
 |.str,x,k=>k x
 |.sl t,x,k=>ZbP (Ty.fo t) x k
 |.arr _ t,x,k=>ZbP (Ty.fo t) x k
 |.st fs,x,k=>Ty.fos fs x k
def Ty.fos:(fs:List Ty)→Ty.dens fs→(Ty.dens fs→O)→O
 |[],_,k=>k ()
 |[t],x,k=>Ty.fo t x k
 |t::u::r,x,k=>Ty.fo t x.1 fun a=>Ty.fos (u::r) x.2 fun b=>k (a,b)
end
mutual
theorem Ty.fo_eq:∀(t:Ty) (x:t.den) (k:t.den→O),t.fo x k=k x
 |.int _,x,k=>ZzZ x k
 |.u8,x,k=>by rw [Ty.fo,Ym];exact congrArg k UInt8.ofNat_toNat
 |.u32,x,k=>by rw [Ty.fo,Ym];exact congrArg k UInt32.ofNat_toNat
 |.u64,x,k=>by rw [Ty.fo,Ym];exact congrArg k UInt64.ofNat_toNat
 |.bool,x,k=>ZdG x k
 |.str,x,k=>rfl
 |.sl t,x,k=>by rw [Ty.fo];exact XZ (Ty.fo_eq t) x k
 |.arr _ t,x,k=>by rw [Ty.fo];exact XZ (Ty.fo_eq t) x k
 |.st fs,x,k=>Ty.fos_eq fs x k
theorem Ty.fos_eq:∀(fs:List Ty) (x:Ty.dens fs) (k:Ty.dens fs→O),Ty.fos fs x k=k x
 |[],_,k=>rfl
 |[t],x,k=>Ty.fo_eq t x k
 |t::u::r,x,k=>by rw [Ty.fos,Ty.fo_eq t];exact Ty.fos_eq (u::r) x.2 _
end
mutual
def TP.fo:TP→(TP→O)→O
 |.v t x,k=>t.fo x fun x=>k (.v t x)
 |.sl nn t xs,k=>ZbP t.fo xs fun xs=>k (.sl nn t xs)
 |.agg xs,k=>TP.fos xs fun xs=>k (.agg xs)
 |.arr n s xs,k=>TP.fos xs fun xs=>k (.arr n s xs)
 |.sll nn s xs,k=>TP.fos xs fun xs=>k (.sll nn s xs)
 |.iface t x,k=>TP.fo x fun x=>k (.iface t x)
 |x,k=>k x
def TP.fos:List TP→(List TP→O)→O
 |[],k=>k []
 |x::r,k=>TP.fo x fun x=>TP.fos r fun r=>k (x::r)
end
mutual
theorem TP.fo_eq:∀(x:TP) (k:TP→O),x.fo k=k x
 |.v t x,k=>by rw [TP.fo,Ty.fo_eq]
 |.sl nn t xs,k=>by rw [TP.fo,XZ (Ty.fo_eq t)]
 |.agg xs,k=>by rw [TP.fo,TP.fos_eq xs]
 |.arr n s xs,k=>by rw [TP.fo,TP.fos_eq xs]
 |.sll nn s xs,k=>by rw [TP.fo,TP.fos_eq xs]
 |.iface t x,k=>by rw [TP.fo,TP.fo_eq x]
 |.ptr0,k=>rfl
 |.fn0,k=>rfl
 |.if0,k=>rfl
 |.map0,k=>rfl
 |.fnv _,k=>rfl
theorem TP.fos_eq:∀(x:List TP) (k:List TP→O),TP.fos x k=k x
 |[],k=>rfl
 |x::r,k=>by rw [TP.fos,TP.fo_eq x,TP.fos_eq r]
end
def ZB7 {α:Type} (f:α→(α→O)→O):Option α→(Option α→O)→O
 |none,k=>k none
 |some a,k=>f a fun a=>k (some a)
theorem Zz0 {α:Type} {f:α→(α→O)→O} (hf:∀a k,f a k=k a):∀(l:Option α) (k:Option α→O),ZB7 f l k=k l
 |none,k=>rfl
 |some a,k=>hf a _
mutual
def TD.fo:TD→(TD→O)→O
 |.p x,k=>x.fo fun x=>k (.p x)
 |.elem x,k=>x.fo fun x=>k (.elem x)
 |.own id nn t c,k=>Zat id fun id=>ZB7 (ZbP t.fo) c fun c=>k (.own id nn t c)
 |.ref id q,k=>Zat id fun id=>k (.ref id q)
 |.view id q s lo n,k=>Zat id fun id=>Zat s fun s=>Zat lo fun lo=>Zat n fun n=>k (.view id q s lo n)
 |.agg xs,k=>TD.fos xs fun xs=>k (.agg xs)
 |.arr n s xs,k=>Zat n fun n=>Zat s fun s=>TD.fos xs fun xs=>k (.arr n s xs)
 |.fn f xs,k=>TD.fos xs fun xs=>k (.fn f xs)
 |.iface t x,k=>TD.fo x fun x=>k (.iface t x)
 |.tup xs,k=>TD.fos xs fun xs=>k (.tup xs)
 |.mp id,k=>Zat id fun id=>k (.mp id)
 |.rv id v s lo n,k=>Zat id fun id=>Zat v fun v=>Zat s fun s=>Zat lo fun lo=>Zat n fun n=>k (.rv id v s lo n)
 |.rref id v q,k=>Zat id fun id=>Zat v fun v=>k (.rref id v q)
 |.rw id,k=>Zat id fun id=>k (.rw id)
 |.rp id q,k=>Zat id fun id=>k (.rp id q)
 |.junk,k=>k .junk
def TD.fos:List TD→(List TD→O)→O
 |[],k=>k []
 |x::r,k=>TD.fo x fun x=>TD.fos r fun r=>k (x::r)
end
mutual
theorem TD.fo_eq:∀(x:TD) (k:TD→O),x.fo k=k x
 |.p x,k=>by rw [TD.fo,TP.fo_eq]
 |.elem x,k=>by rw [TD.fo,TP.fo_eq]
 |.own id nn t c,k=>by rw [TD.fo,Ym,Zz0 (XZ (Ty.fo_eq t))]
 |.ref id q,k=>by rw [TD.fo,Ym]
 |.view id q s lo n,k=>by rw [TD.fo,Ym,Ym,Ym,Ym]
 |.agg xs,k=>by rw [TD.fo,TD.fos_eq xs]
 |.arr n s xs,k=>by rw [TD.fo,Ym,Ym,TD.fos_eq xs]
 |.fn f xs,k=>by rw [TD.fo,TD.fos_eq xs]
 |.iface t x,k=>by rw [TD.fo,TD.fo_eq x]
 |.tup xs,k=>by rw [TD.fo,TD.fos_eq xs]
 |.mp id,k=>by rw [TD.fo,Ym]
 |.rv id v s lo n,k=>by rw [TD.fo,Ym,Ym,Ym,Ym,Ym]
 |.rref id v q,k=>by rw [TD.fo,Ym,Ym]
 |.rw id,k=>by rw [TD.fo,Ym]
 |.rp id q,k=>by rw [TD.fo,Ym]
 |.junk,k=>rfl
theorem TD.fos_eq:∀(x:List TD) (k:List TD→O),TD.fos x k=k x
 |[],k=>rfl
 |x::r,k=>by rw [TD.fos,TD.fo_eq x,TD.fos_eq r]
end
def TEnt.fo (e:TEnt) (k:TEnt→O):O:=match e with
 |.var d st=>d.fo fun d=>Zm6 st fun st=>k (.var d st)
 |.log t e xs=>ZbP t.fo xs fun xs=>k (.log t e xs)
 |.map tid a b l=>ZbP (fun q k=>a.fo q.1 fun x=>b.fo q.2 fun y=>k (x,y)) l fun l=>k (.map tid a b l)
 |.row v s st e d=>Zat v fun v=>Zat s fun s=>Zm6 st fun st=>d.fo fun d=>k (.row v s st e d)
 |.rowT t v st e xs=>Zm6 st fun st=>ZbP t.fo xs fun xs=>k (.rowT t v st e xs)
 |.rowN t np v st e a b=>Zm6 st fun st=>ZbP t.fo a fun a=>ZbP t.fo b fun b=>k (.rowN t np v st e a b)
 |.rowM t np v st e a d b=>Zm6 st fun st=>ZbP t.fo a fun a=>d.fo fun d=>ZbP t.fo b fun b=>k (.rowM t np v st e a d b)
 |.gone=>k .gone
theorem TEnt.fo_eq (e:TEnt) (k:TEnt→O):e.fo k=k e:=by
 cases e with
 |var d st=>rw [TEnt.fo,TD.fo_eq,ZdG]
 |log t e xs=>rw [TEnt.fo,XZ (Ty.fo_eq t)]
 |map tid a b l=>rw [TEnt.fo,XZ fun q k=>by rw [Ty.fo_eq a,Ty.fo_eq b]]
 |row v s st e d=>rw [TEnt.fo,Ym,Ym,ZdG,TD.fo_eq]
 |rowT t v st e xs=>rw [TEnt.fo,ZdG,XZ (Ty.fo_eq t)]
 |rowN t np v st e a b=>rw [TEnt.fo,ZdG,XZ (Ty.fo_eq t),XZ (Ty.fo_eq t)]
 |rowM t np v st e a d b=>rw [TEnt.fo,ZdG,XZ (Ty.fo_eq t),TD.fo_eq,XZ (Ty.fo_eq t)]
 |gone=>rfl
def foS (a:List TD) (h:List TEnt) (k:List TD→List TEnt→O):O:=TD.fos a fun a=>ZbP TEnt.fo h fun h=>k a h
theorem ZBt (a:List TD) (h:List TEnt) (k:List TD→List TEnt→O):foS a h k=k a h:=by rw [foS,TD.fos_eq,XZ TEnt.fo_eq]
def foX:(l:List XSh)→XSh.sum l→(XSh.sum l→O)→O
 |[],x,k=>k x
 |[e],x,k=>Ty.fos e.ty x k
 |e::f::r,x,k=>match (x:Ty.dens e.ty⊕XSh.sum (f::r)) with
  |.inl x=>Ty.fos e.ty x fun x=>k (.inl x:Ty.dens e.ty⊕XSh.sum (f::r))
  |.inr x=>foX (f::r) x fun x=>k (.inr x:Ty.dens e.ty⊕XSh.sum (f::r))
theorem Zyi:∀(l:List XSh) (x:XSh.sum l) (k:XSh.sum l→O),foX l x k=k x
 |[],x,k=>rfl
 |[e],x,k=>Ty.fos_eq _ _ _
 |e::f::r,x,k=>by
  unfold foX
  cases (x:Ty.dens e.ty⊕XSh.sum (f::r)) with
  |inl x=>exact Ty.fos_eq _ _ _
  |inr x=>exact Zyi (f::r) x _
def Fs.fo {P:Program} (s:Fs P):Fs P:={ s with M:=fun x=>Ty.fos s.ins x fun x=>(s.M x).bind fun o=>foX s.xs o some}
theorem Fs.fo_ok {P:Program} {s:Fs P} (h:s.Ok):s.fo.Ok:=by
 have e:s.fo=s:=by
  unfold Fs.fo
  have:(fun x=>Ty.fos s.ins x fun x=>(s.M x).bind fun o=>foX s.xs o some)=s.M:=by
   funext x
   rw [Ty.fos_eq]
   cases s.M x with
   |none=>rfl
   |some o=>exact Zyi _ _ _
  rw [this]
 rw [e]
 exact h
theorem Zsg {P:Program}:∀{l:List (Fs P)},AllOk l→AllOk (l.map Fs.fo)
 |[],_=>trivial
 |s::r,h=>⟨Fs.fo_ok h.1,Zsg h.2⟩
end Go.Ev
end
section
namespace Go.Ev
def ZuX (h:List TEnt) (n0:Nat) (r:TD):List Nat:=
 let got:=ZkO h 100000 (r.look++List.range n0) []
 ((List.range h.length).drop n0).filter got.contains
def Ty.mkFs (f:(T:Ty)→TD→Option T.den):(fs:List Ty)→List TD→Option (Ty.dens fs)
 |[],[]=>some ()
 |[t],[d]=>f t d
 |t::u::r,d::ds=>Zhm (f t d) (Ty.mkFs f (u::r) ds)
 |_,_=>none
def mkL {T:Ty} (f:TD→Option T.den):List TD→Option (List T.den)
 |[]=>some []
 |d::r=>(Zhm (f d) (mkL f r)).map fun q=>q.1::q.2
def Zyj (H:List TEnt) (id:Nat) (u:Ty):Option (List u.den):=
 match H[id]? with
 |some (.rowT u' v false e l)=>Ty.castL u' u l
 |_=>none
theorem Zyk {H:List TEnt} {id:Nat} {u:Ty} {l:List u.den} (h:Zyj H id u=some l):DeepR (erH H) ((TD.rw id).er (lk H)) ((Ty.sl u).enc l):=by
 unfold Zyj at h
 split at h
 ·rename_i u' v e l' hd
  obtain ⟨e1,h⟩:=Zt h
  subst e1
  subst h
  have hE:(erH H)[id]? =some (.row v.length u'.size false e (.p (.arr l.length u'.size (l.map u'.enc)))):=ZU hd
  have:=DeepR.rvp (lo:=0) (n:=l.length) hE (by omega)
  rw [(ZaW hd).1,Zs7]
  rw [List.drop_zero, ←List.length_map (f:=u'.enc),List.take_length,List.length_map] at this
  exact this
 ·cases h
def Zsh (H:List TEnt):Nat→(T:Ty)→TD→Option T.den
 |0,_,_=>none
 |n+1,T,d=>match d with
  |.p x=>TP.to Zhn x T
  |.own id nn t c=>Zxl true t (ZQ (lk H) id t c) T
  |.agg ds=>Zxm (fun fs=>Ty.mkFs (Zsh H n) fs ds) T
  |.rw id=>match T with
   |.sl u=>Zyj H id u
   |_=>none
  |.rv id v s lo k=>match T with
   |.sl u=>match H[id]? with
    |some (.row w s' false e d)=>if (w==v&&s'==s&&s==u.size)=true then match d with
      |.p x=>x.arow.bind fun r=>(Ty.castL r.t u r.l).bind fun l=>if decide (lo+k≤r.n)=true then some ((l.drop lo).take k) else none
      |.arr N s2 ds=>if (s2==s&&decide (lo+k≤N))=true then (mkL (Zsh H n u) ds).map fun (l:List u.den)=>(l.drop lo).take k else none
      |_=>none
     else none
    |_=>none
   |_=>none
  |_=>none
theorem ZuY {H:List Ent} {L:Lk} {f:(T:Ty)→TD→Option T.den} (hf:∀T d y,f T d=some y→DeepR H (d.er L) (T.enc y)):∀(fs:List Ty) (ds:List TD) (y:Ty.dens fs),Ty.mkFs f fs ds=some y→
 (TD.ers L ds).length=(Ty.encs fs y).length∧∀(i:Nat) (d:Dv) (z:Pl),(TD.ers L ds)[i]? =some d→(Ty.encs fs y)[i]? =some z→DeepR H d z
 |[],[],y,h=>⟨rfl,fun i d z h1 _=>by simp [TD.ers] at h1⟩
 |[],_::_,y,h=>by cases h
 |[t],[],y,h=>by cases h
 |[t],[d],y,h=>by
  refine ⟨rfl,fun i d' z h1 h2=> ?_⟩
  cases i with
  |zero=>cases h1;cases h2;exact hf t d y h
  |succ i=>simp [TD.ers] at h1
 |[t],_::_::_,y,h=>by cases h
 |t::u::r,[],y,h=>by cases h
 |t::u::r,d::ds,y,h=>by
  obtain ⟨h1,h2⟩:=WT (α:=t.den) (β:=Ty.dens (u::r)) h
  obtain ⟨h3,h4⟩:=ZuY hf (u::r) ds y.2 h2
  refine ⟨by rw [TD.ers,Ty.encs,List.length_cons,List.length_cons,h3],fun i d' z k1 k2=> ?_⟩
  cases i with
  |zero=>cases k1;cases k2;exact hf t d y.1 h1
  |succ i=>exact h4 i d' z k1 k2
theorem Zyl {H:List Ent} {L:Lk} {T:Ty} {f:TD→Option T.den} (hf:∀d y,f d=some y→DeepR H (d.er L) (T.enc y)):∀(ds:List TD) (l:List T.den),mkL f ds=some l→
 (TD.ers L ds).length=(l.map T.enc).length∧∀(i:Nat) (d:Dv) (z:Pl),(TD.ers L ds)[i]? =some d→(l.map T.enc)[i]? =some z→DeepR H d z
 |[],l,h=>by cases h;exact ⟨rfl,fun i d z h1 _=>by simp [TD.ers] at h1⟩
 |d::ds,l,h=>by
  obtain ⟨q,h1,rfl⟩:=Zc h
  obtain ⟨h1,h2⟩:=WT h1
  obtain ⟨h3,h4⟩:=Zyl hf ds q.2 h2
  refine ⟨by rw [TD.ers,List.map_cons,List.length_cons,List.length_cons,h3],fun i d' z k1 k2=> ?_⟩
  cases i with
  |zero=>cases k1;cases k2;exact hf d q.1 h1
  |succ i=>exact h4 i d' z k1 k2
theorem Zm7 {H:List TEnt}:∀(n:Nat) (T:Ty) (d:TD) (y:T.den),Zsh H n T d=some y→DeepR (erH H) (d.er (lk H)) (T.enc y)
 |0,_,_,_,h=>by cases h
 |n+1,T,d,y,h=>by
  unfold Zsh at h
  split at h
  ·exact .wk (.p _) (Zur h)
  ·rename_i id nn t c
   obtain ⟨l,_,e1,rfl⟩:=Zj7 (nn:=none) h
   rw [e1,TD.er]
   exact .wk (.own id nn t.size _) (PlWk.sl_mk (PlsWk.refl _))
  ·rename_i ds
   obtain ⟨fs,z,h1,e1⟩:=Zj8 h
   rw [e1,TD.er]
   obtain ⟨h2,h3⟩:=ZuY (fun T d y=>Zm7 n T d y) fs ds z h1
   exact .agg h2 h3
  ·rename_i id
   cases T with
   |sl u=>exact Zyk h
   |_=>cases h
  ·rename_i id v s lo k
   split at h
   ·rename_i u
    split at h
    ·rename_i w s' e dd hd
     obtain ⟨hk,g⟩:=Za h
     clear h
     simp only [Bool.and_eq_true,beq_iff_eq] at hk
     obtain ⟨⟨hk1,hk2⟩,hk3⟩:=hk
     have hE:=ZU hd
     rw [hk1,hk2,hk3] at hE
     split at g
     ·rename_i x
      obtain ⟨r,p1,g1⟩:=Option.bind_eq_some_iff.1 g
      obtain ⟨l,p2,g2⟩:=Option.bind_eq_some_iff.1 g1
      obtain ⟨p3,g3⟩:=Za g2
      cases g3
      obtain ⟨rn,rt,rl⟩:=r
      obtain ⟨e1,p2⟩:=Zt p2
      dsimp only at e1 p2 p3
      subst e1
      subst p2
      rw [TEnt.er,TD.er,WJ p1] at hE
      have:=DeepR.rvp hE (of_decide_eq_true p3)
      rw [Zs7,List.map_take,List.map_drop,TD.er,hk3]
      exact this
     ·rename_i N s2 ds
      obtain ⟨p1,g1⟩:=Za g
      simp only [Bool.and_eq_true,beq_iff_eq,decide_eq_true_eq] at p1
      obtain ⟨q1,p1⟩:=p1
      obtain ⟨l,p2,g2⟩:=Zc g1
      subst g2
      obtain ⟨h2,h3⟩:=Zyl (fun d y=>Zm7 n u d y) ds l p2
      rw [TEnt.er,TD.er,q1,hk3] at hE
      have:=DeepR.rva hE p1 h2 h3
      rw [Zs7,List.map_take,List.map_drop,TD.er,hk3]
      exact this
     ·cases g
    ·cases h
   ·cases h
  ·cases h
def Zsi:TEnt→TEnt
 |.row v s _ e d=>.row v s false e d
 |.rowT t v _ e l=>.rowT t v false e l
 |e=>e
def Zeq (ids:List Nat) (H:List TEnt):List TEnt:=(List.range H.length).zipWith (fun i e=>if ids.contains i then Zsi e else e) H
theorem Zym (e:TEnt):lkE (some (Zsi e))=lkE (some e):=by cases e <;> rfl
theorem ZkR (ids:List Nat) (H:List TEnt) (i:Nat):(Zeq ids H)[i]? =(H[i]?).map fun e=>if ids.contains i then Zsi e else e:=by
 unfold Zeq
 rw [List.getElem?_zipWith]
 rcases Nat.lt_or_ge i H.length with h|h
 ·rw [List.getElem?_range h,List.getElem?_eq_getElem h]
  rfl
 ·rw [List.getElem?_eq_none (by simpa using h),List.getElem?_eq_none h]
  rfl
theorem Zm8 (ids:List Nat) (H:List TEnt):lk (Zeq ids H)=lk H:=by
 funext i
 unfold lk
 rw [ZkR]
 cases H[i]? with
 |none=>rfl
 |some e=>
  show lkE (some (if ids.contains i=true then Zsi e else e))=_
  split
  ·exact Zym e
  ·rfl
theorem ZtS (ids:List Nat) (H:List TEnt):WkH (erH H) (erH (Zeq ids H)):=by
 refine ZtH (by rw [ZE,ZE];unfold Zeq;simp) fun i a b h1 h2=> ?_
 unfold erH at h1 h2
 rw [List.getElem?_map] at h1 h2
 rw [Zm8,ZkR] at h2
 cases he:H[i]? with
 |none=>rw [he] at h1;cases h1
 |some e=>
  rw [he] at h1 h2
  cases h1
  cases h2
  show WkE (e.er (lk H)) (TEnt.er (lk H) (if ids.contains i=true then Zsi e else e))
  split
  ·cases e <;> first|exact .refl _|exact .lock
  ·exact .refl _
def ZtT:List TEnt→Nat→Bool
 |H,i=>match H[i]? with
  |some (.row _ _ _ _ _)=>true
  |some (.rowT _ _ _ _ _)=>true
  |_=>false
def ZuZ (P:Program) (H:List TEnt) (t:TypeId) (d:TD):Option TD:=
 match d with
 |.p x=>some (.p x)
 |d=>(Zfk P tyD t).bind fun T=>(Zsh H 100 T d).map fun y=>.p (.v T y)
theorem Zsj {P:Program} {H:List TEnt} {t:TypeId} {d e:TD} (h:ZuZ P H t d=some e):DeepP (erH H) (d.er (lk H)) (e.er (lk H)):=by
 unfold ZuZ at h
 split at h
 ·cases h;exact .refl _
 ·obtain ⟨T,h1,h⟩:=Option.bind_eq_some_iff.1 h
  obtain ⟨y,h2,rfl⟩:=Zc h
  exact .deep (Zm7 _ _ _ _ h2)
def ZqC (P:Program) (H:List TEnt):List TypeId→List TD→Option (List TD)
 |[],[]=>some []
 |t::r,d::ds=>match ZuZ P H t d,ZqC P H r ds with
  |some a,some b=>some (a::b)
  |_,_=>none
 |_,_=>none
theorem Zo8 {P:Program} {H:List TEnt}:∀{ts:List TypeId} {ds es:List TD},ZqC P H ts ds=some es→DeepL (erH H) (TD.ers (lk H) ds) (TD.ers (lk H) es)
 |[],[],es,h=>by cases h;exact .nil
 |[],_::_,es,h=>by cases h
 |_::_,[],es,h=>by cases h
 |t::r,d::ds,es,h=>by
  simp only [ZqC] at h
  split at h
  ·rename_i a b h1 h2
   cases h
   exact .cons (Zsj h1) (Zo8 h2)
  ·cases h
def Zyn (P:Program) (H:List TEnt) (ts:List TypeId) (r:TD):Option TD:=
 match ts with
 |[t]=>ZuZ P H t r
 |ts=>match r with
  |.tup ds=>(ZqC P H ts ds).map .tup
  |_=>none
theorem Zyo {P:Program} {H:List TEnt} {ts:List TypeId} {r r':TD} (h:Zyn P H ts r=some r'):DeepT (erH H) (r.er (lk H)) (r'.er (lk H)):=by
 unfold Zyn at h
 split at h
 ·exact .one (Zsj h)
 ·split at h
  ·obtain ⟨es,h1,rfl⟩:=Zc h
   exact .tup (Zo8 h1)
  ·cases h
def Zz1 {O:Type} (P:Program) (ts:List TypeId) (r:TD) (H:List TEnt) (K:TD→List TEnt→Option O):Option O:=
 match ts with
 |[]=>K r H
 |ts=>(Zyn P (Zeq ((ZkO H 100000 r.look []).filter (ZtT H)) H) ts r).bind fun r'=>K r' (Zeq ((ZkO H 100000 r.look []).filter (ZtT H)) H)
theorem Zwl {O:Type} {P:Program} {ts:List TypeId} {r:TD} {H:List TEnt} {K:TD→List TEnt→Option O} {out:O} {g:FuncId} {args:List Dv} {H0:List Ent} (h:Zz1 P ts r H K=some out) (hc:Con P g args H0 (r.er (lk H)) (erH H)):
 ∃r' H',K r' H'=some out∧Con P g args H0 (r'.er (lk H')) (erH H'):=by
 unfold Zz1 at h
 split at h
 ·exact ⟨_,_,h,hc⟩
 ·obtain ⟨r',h1,h2⟩:=Option.bind_eq_some_iff.1 h
  generalize (ZkO H 100000 r.look []).filter (ZtT H)=ids at h1 h2
  refine ⟨_,_,h2,Zxk hc (ZtS ids H) ?_⟩
  have:=Zyo h1
  rw [Zm8] at this ⊢
  exact this
def ZBu {O:Type} (h:List TEnt) (n0:Nat) (ds:List TD) (K:TD→List TEnt→Option O):Option O:=
 let keep:=ZuX h n0 (Zoc ds)
 if once (List.range n0++keep) then (match Dv.rn (toIds (List.range n0++keep)) ((Zoc ds).er (lk h)) with
  |some _=>(Zoc ds).rn (toIds (List.range n0++keep))
  |none=>(Zoc (ds.map (TD.arg (lk h)))).rn (toIds (List.range n0++keep))).bind fun r=>
  (XE h (List.range n0++keep) (List.range n0++keep)).bind fun h2=>K r h2
 else none
section
variable {P:Program}
def Zz2 (P:Program) (his:FuncId→HI) (l:List (Fs P)) (mt:List (TypeId×String×FuncId)):Nat→(O:Type)→FuncId→List TD→List TEnt→(TD→List TEnt→Option O)→Option O
 |0,_,_,_,_,_=>none
 |n+1,O,g,args,H,K=>foS args H fun args H=>match P.funcs[g]? with
  |some fn=>match fn.body with
   |some c=>if decide (args.length≤fn.ntmps)=true then
     evT P { hi:=his g,un:=1000000} ⟨l,Zz2 P his l mt n,mt⟩ c 0 0 (args++List.replicate (fn.ntmps - args.length) .junk) H fun ex a h=>match ex with
      |.exit _=>none
      |_=>Zse P a h fn.results.toList fun ds _=>ZBu h H.length ds fun r h=>Zz1 P (his g).deep r h fun r h=>foS [r] h fun rs h=>match rs with
       |[r]=>K r h
       |_=>none
     else none
   |none=>none
  |none=>none
theorem Zu0 {his:FuncId→HI} {l:List (Fs P)} {mt:List (TypeId×String×FuncId)} (hl:AllOk l) (hm:MtOk P mt):∀(n:Nat),HdOk P (Zz2 P his l mt n)
 |0=>fun _ _ _ _ _ _ h=>by cases h
 |n+1=>fun O g args H K out hM=>by
  unfold Zz2 at hM
  simp only [ZBt] at hM
  split at hM
  ·rename_i fn hf
   split at hM
   ·rename_i c hb1
    obtain ⟨hn,hM⟩:=Za hM
    have hn:=of_decide_eq_true hn
    have hlen:(args++List.replicate (fn.ntmps - args.length) TD.junk).length=fn.ntmps:=by
     rw [List.length_append,List.length_replicate]
     omega
    obtain ⟨ex,a,hh,k1,k2,k3⟩:=XY (N:=fn.ntmps) ⟨hl,Zu0 hl hm n,hm⟩ c _ _ _ _ _ hlen (fun k b hk lp h=>by cases h) (fun k b hk lp h=>by cases h) hM
    have hex:(ex=.ret∨ex=.normal)∧(Zse P a hh fn.results.toList fun ds _=>ZBu hh H.length ds fun r h=>Zz1 P (his g).deep r h K)=some out:=by
     cases ex with
     |exit _=>cases k1
     |normal=>exact ⟨.inr rfl,k1⟩
     |ret=>exact ⟨.inl rfl,k1⟩
    obtain ⟨hex,k1⟩:=hex
    obtain ⟨ds,hs,C,g1,g2,g3⟩:=ZgZ _ _ k1
    unfold ZBu at g1
    dsimp only at g1
    generalize ZuX hh H.length (Zoc ds)=keep at g1
    obtain ⟨g5,g1⟩:=Za g1
    obtain ⟨r,g6,g1⟩:=Option.bind_eq_some_iff.1 g1
    obtain ⟨e2,g7,g1⟩:=Option.bind_eq_some_iff.1 g1
    refine Zwl g1 ?_
    have hfin:fin P fn (TD.ers (lk hh) a) (erH hh) (erH H).length keep hs=some (C,r.er (lk e2),erH e2):=by
     unfold fin
     have:=g3 []
     rw [List.append_nil] at this
     rw [this]
     dsimp only
     rw [ZE,g5, ←ZlP,show subEnts (erH hh) _ _=some (erH e2) from X8 (ZaX g7) g7]
     split at g6
     ·rename_i r0 hr0
      have e4:=ZfO (ZaX g7) _ _ g6
      rw [e4]
     ·rename_i hr0
      have e4:=ZfO (ZaX g7) _ _ g6
      rw [ZlP,ZA,List.map_map] at e4
      rw [hr0,show (TD.ers (lk hh) ds).map Dv.arg=ds.map (TD.er (lk hh) ∘ TD.arg (lk hh)) by
       rw [ZA,List.map_map]
       exact List.map_congr_left fun d _=>(Zyh d).symm,e4]
    have hrun:Xf P c (TD.ers (lk H) args++List.replicate (fn.ntmps - (TD.ers (lk H) args).length) .junk) (erH H) ex (TD.ers (lk hh) a) (erH hh):=by
     have e5:TD.ers (lk H) (args++List.replicate (fn.ntmps - args.length) TD.junk)=TD.ers (lk H) args++List.replicate (fn.ntmps - (TD.ers (lk H) args).length) .junk:=by
      rw [ZcE,ZA,ZA,List.map_append,List.map_replicate]
      rfl
     rw [←e5]
     exact k3
    exact ZkI hf hb1 hrun hex hfin g2
   ·cases hM
  ·cases hM
def ZBv (P:Program) (his:FuncId→HI) (l:List (Fs P)) (mt:List (TypeId×String×FuncId)) (n:Nat) (g:FuncId):Option Bool:=
 Zz2 P his l mt n Bool g [] [] fun r h=>match h with
  |[]=>r.boolT
  |_=>none
theorem Zz3 {his:FuncId→HI} {l:List (Fs P)} {mt:List (TypeId×String×FuncId)} {n:Nat} {g:FuncId} {b:Bool} (hl:AllOk l) (hm:MtOk P mt) (h:ZBv P his l mt n g=some b):Con P g [] [] (.p (.bool b)) []:=by
 obtain ⟨r,H',h1,h2⟩:=Zu0 hl hm n _ _ _ _ _ _ h
 split at h1
 ·rw [ZdB h1] at h2
  exact h2
 ·cases h1
theorem ZBw {his:FuncId→HI} {l:List (Fs P)} {mt:List (TypeId×String×FuncId)} {n:Nat} {g:FuncId} {b:Bool} (hl:AllOk l) (hm:MtOk P mt) (h:ZBv P his l mt n g=some b):
 Fs.Ok (⟨g,[],[],[],[⟨.ret,[(0,.v .bool)],[],[.bool]⟩],fun _=>some b⟩:Fs P):=by
 intro x o hM
 cases hM
 refine ⟨[],[],[],rfl,rfl,fun e vs s' hs hf=> ?_⟩
 obtain ⟨rfl,rfl⟩:=hs
 cases hf
 exact ⟨_,rfl,Zz3 hl hm h⟩
end
theorem okN {P:Program} (s:Nat→Fs P) (h:(s fuel).Ok):(s 18446744073709551616).Ok:=by
 rw [Zi5] at h
 exact h
end Go.Ev
end
section
namespace Go.Ev
open Go.RowKit Go.WideShapes Go.ChangeShapes
def Z5 (P:Program):Nat→TypeId→Bool
 |0,_=>false
 |n+1,t=>match P.underlying t with
  |some .bool=>true
  |some (.int _)=>true
  |some .string=>true
  |some (.slice e)=>Z5 P n e&&decide (0 < P.cellsOf e)
  |some (.array m e)=>Z5 P n e&&P.cellsOf t==m*P.cellsOf e
  |some (.struct fs)=>(fs.toList.all fun f=>Z5 P n f.type)&&P.cellsOf t==(fs.toList.map fun f=>P.cellsOf f.type).sum&&
    ((List.range fs.toList.length).all fun j=>match fs.toList[j]? with|some f=>f.offset==((fs.toList.take j).map fun f=>P.cellsOf f.type).sum|none=>true)
  |_=>false
theorem ZqD (P:Program):Kids P (fun t=>∃n,Z5 P n t=true) where
 pointer:=by
  rintro t e ⟨n,h⟩ hu
  cases n with
  |zero=>simp [Z5] at h
  |succ n=>simp [Z5,hu] at h
 slice:=by
  rintro t e ⟨n,h⟩ hu
  cases n with
  |zero=>simp [Z5] at h
  |succ n=>simp [Z5,hu] at h;exact ⟨n,h.1⟩
 array:=by
  rintro t e m ⟨n,h⟩ hu
  cases n with
  |zero=>simp [Z5] at h
  |succ n=>simp [Z5,hu] at h;exact ⟨⟨n,h.1⟩,h.2⟩
 struct:=by
  rintro t fs ⟨n,h⟩ hu
  cases n with
  |zero=>simp [Z5] at h
  |succ n=>
   simp only [Z5,hu,Bool.and_eq_true,beq_iff_eq,List.all_eq_true] at h
   obtain ⟨⟨h1,h2⟩,h3⟩:=h
   refine ⟨fun f hf=>⟨n,h1 f hf⟩,h2,fun j f hf=> ?_⟩
   have hj:j < fs.toList.length:=(List.getElem?_eq_some_iff.1 hf).1
   have:=h3 j (by simpa using hj)
   rw [hf] at this
   simpa using this
 map:=by
  rintro t k e ⟨n,h⟩ hu
  cases n with
  |zero=>simp [Z5] at h
  |succ n=>simp [Z5,hu] at h
def Zz4 (R:TypeId→Pl→Prop):List Field→List Pl→Prop
 |[],[]=>True
 |f::fs,y::ys=>R f.type y∧Zz4 R fs ys
 |_,_=>False
def wtP (P:Program):Nat→TypeId→Pl→Prop
 |0,_,_=>False
 |n+1,t,x=>match P.underlying t,x with
  |some .bool,.bool _=>True
  |some (.int k),.int k' m=>k'=k∧(Lit.int k m).wf=true
  |some .string,.str s=>s.size≤maxLen
  |some (.slice e),.sl nn s xs=>s=P.cellsOf e∧nn=none∧xs.length≤maxLen∧∀y,y∈xs→wtP P n e y
  |some (.array m e),.arr m' s xs=>m'=m∧s=P.cellsOf e∧xs.length=m∧∀y,y∈xs→wtP P n e y
  |some (.struct fs),.agg xs=>Zz4 (wtP P n) fs.toList xs
  |_,_=>False
def ZqE:Nat→Nat→Prop:=fun _ _=>True
section
variable {H:Type} {enc:TypeId×Value→H} {P:Program} {w:World} {base:Nat} {sp:Nat→Bool} {held:Bool}
theorem Zwm:∀{s:Nat} {a:Addr} {cs:List Value},w.cells? base a s=some cs→cs.length=s∧∀j u,cs[j]? =some u→w.cell? (a.add j)=some u:=by
 intro s a cs h
 unfold World.cells? at h
 split at h
 ·have hl:cs.length=s:=by simpa using mapM_some_length h
  refine ⟨hl,fun j u hu=> ?_⟩
  have hj:j < s:=by rw [←hl];exact (List.getElem?_eq_some_iff.1 hu).1
  have:=mapM_some_get h j j (by simp [hj])
  rw [hu] at this
  exact this
 ·cases h
theorem Zu1 {e:TypeId} {n m:Nat} {a:Addr} {s:Nat} (hs:0 < s) {elems:List (DataW H×List MemPlace)} {len:Nat} (hlen:elems.length=len)
 (ih:∀(cs:List Value) (x:DataW H×List MemPlace),DataW.trod enc P w base sp held m e cs=some x→cs.length=s→∃pl,wtP P n e pl∧repC w ZqE pl cs)
 (h:∀i,i < len→(w.cells? base (a.add (i*s)) s).bind (DataW.trod enc P w base sp held m e)=elems[i]?):
 ∀k,k≤len→∃(xs:List Pl) (us:List Value),xs.length=k∧(∀y,y∈xs→wtP P n e y)∧allSz s xs∧us.length=k*s∧repCs w ZqE xs us∧(∀j u,us[j]? =some u→w.cell? (a.add j)=some u)
 |0,_=>⟨[],[],rfl,(fun y hy=>by cases hy),(fun y hy=>by cases hy),by simp,by simp [repCs],by simp⟩
 |k+1,hk=>by
  obtain ⟨xs,us,h1,h2,h3,h4,h5,h6⟩:=Zu1 hs hlen ih h k (by omega)
  have hk':=h k (by omega)
  rw [List.getElem?_eq_getElem (by omega)] at hk'
  obtain ⟨cs,hc,ht⟩:=Option.bind_eq_some_iff.1 hk'
  obtain ⟨c1,c2⟩:=Zwm hc
  obtain ⟨pl,p1,p2⟩:=ih cs _ ht c1
  have psz:pl.size=s:=by rw [←Xg _ _ p2,c1]
  refine ⟨xs++[pl],us++cs,by simp [h1],fun y hy=> ?_,fun y hy=> ?_,by simp [h4,c1,Nat.add_mul],ZR h5 (by simpa [repCs] using p2),fun j u hu=> ?_⟩
  ·rcases List.mem_append.1 hy with hy|hy
   ·exact h2 y hy
   ·rw [List.mem_singleton.1 hy];exact p1
  ·rcases List.mem_append.1 hy with hy|hy
   ·exact h3 y hy
   ·rw [List.mem_singleton.1 hy];exact psz
  ·by_cases hj:j < us.length
   ·rw [List.getElem?_append_left hj] at hu;exact h6 j u hu
   ·rw [List.getElem?_append_right (by omega)] at hu
    have:=c2 _ _ hu
    rw [Addr.add_add] at this
    rw [←this]
    congr 2
    omega
theorem Zsk {e:TypeId} {n m:Nat} {s:Nat} {cs:List Value} {elems:List (DataW H×List MemPlace)} {len:Nat} (hlen:elems.length=len) (hcs:cs.length=len*s)
 (ih:∀(cs:List Value) (x:DataW H×List MemPlace),DataW.trod enc P w base sp held m e cs=some x→cs.length=s→∃pl,wtP P n e pl∧repC w ZqE pl cs)
 (h:∀i,i < len→DataW.trod enc P w base sp held m e ((cs.drop (i*s)).take s)=elems[i]?):
 ∀k,k≤len→∃(xs:List Pl),xs.length=k∧(∀y,y∈xs→wtP P n e y)∧allSz s xs∧repCs w ZqE xs (cs.take (k*s))
 |0,_=>⟨[],rfl,(fun y hy=>by cases hy),(fun y hy=>by cases hy),by simp [repCs]⟩
 |k+1,hk=>by
  obtain ⟨xs,h1,h2,h3,h5⟩:=Zsk hlen hcs ih h k (by omega)
  have hk':=h k (by omega)
  rw [List.getElem?_eq_getElem (by omega)] at hk'
  have hle:k*s+s≤len*s:=by rw [←Nat.succ_mul];exact Nat.mul_le_mul_right _ hk
  have c1:((cs.drop (k*s)).take s).length=s:=by simp;omega
  obtain ⟨pl,p1,p2⟩:=ih _ _ hk' c1
  have psz:pl.size=s:=by rw [←Xg _ _ p2,c1]
  refine ⟨xs++[pl],by simp [h1],fun y hy=> ?_,fun y hy=> ?_, ?_⟩
  ·rcases List.mem_append.1 hy with hy|hy
   ·exact h2 y hy
   ·rw [List.mem_singleton.1 hy];exact p1
  ·rcases List.mem_append.1 hy with hy|hy
   ·exact h3 y hy
   ·rw [List.mem_singleton.1 hy];exact psz
  ·rw [Nat.add_mul,Nat.one_mul,List.take_add]
   exact ZR h5 (by simpa [repCs] using p2)
theorem Zo9 {n m:Nat} {cs:List Value}
 (ih:∀(t:TypeId),Z5 P n t=true→∀(cs:List Value) (x:DataW H×List MemPlace),DataW.trod enc P w base sp held m t cs=some x→∃pl,wtP P n t pl∧repC w ZqE pl cs):
 ∀(fs:List Field) (o:Nat),(∀f,f∈fs→Z5 P n f.type=true)→(∀(j:Nat) f,fs[j]? =some f→f.offset=o+((fs.take j).map fun f=>P.cellsOf f.type).sum)→
  cs.length=o+(fs.map fun f=>P.cellsOf f.type).sum→(∀(j:Nat) f,fs[j]? =some f→∃x,DataW.trod enc P w base sp held m f.type ((cs.drop f.offset).take (P.cellsOf f.type))=some x)→
  ∃(xs:List Pl),Zz4 (wtP P n) fs xs∧repCs w ZqE xs (cs.drop o)
 |[],o,_,_,hl,_=>⟨[],trivial,by simp only [repCs];apply List.drop_eq_nil_of_le;simp at hl;omega⟩
 |f::fs,o,hp,ho,hl,h=>by
  obtain ⟨x,hx⟩:=h 0 f rfl
  have ho0:=ho 0 f rfl
  simp at ho0
  rw [ho0] at hx
  obtain ⟨pl,p1,p2⟩:=ih f.type (hp f (List.mem_cons_self ..)) _ _ hx
  simp only [List.map_cons,List.sum_cons] at hl
  obtain ⟨xs,q1,q2⟩:=Zo9 ih fs (o+P.cellsOf f.type) (fun g hg=>hp g (List.mem_cons_of_mem _ hg)) (fun j g hg=>by
   have:=ho (j+1) g hg
   simp only [List.take_succ_cons,List.map_cons,List.sum_cons] at this
   omega) (by omega) (fun j g hg=>h (j+1) g hg)
  refine ⟨pl::xs,⟨p1,q1⟩, ?_⟩
  simp only [repCs]
  refine ⟨(cs.drop o).take (P.cellsOf f.type),(cs.drop o).drop (P.cellsOf f.type),(List.take_append_drop ..).symm,p2, ?_⟩
  rw [List.drop_drop]
  exact q2
theorem Zz5:∀(n m:Nat) (t:TypeId),Z5 P n t=true→∀(cs:List Value) (x:DataW H×List MemPlace),DataW.trod enc P w base sp held m t cs=some x→∃pl,wtP P n t pl∧repC w ZqE pl cs:=by
 intro n
 induction n with
 |zero=>intro m t h;simp [Z5] at h
 |succ n ih=>
  intro m t ht cs x h
  unfold Z5 at ht
  split at ht
  ·rename_i hu
   obtain ⟨b,rfl,_⟩:=DataW.trod_bool hu h
   exact ⟨.bool b,by simp [wtP,hu],by simp [repC]⟩
  ·rename_i k hu
   obtain ⟨z,rfl,rfl,hw⟩:=DataW.trod_int hu h
   exact ⟨.int k z,by simp [wtP,hu,hw],by simp [repC]⟩
  ·rename_i hu
   obtain ⟨s,rfl,h2⟩:=DataW.trod_string hu h
   exact ⟨.str s,by simp [wtP,hu];exact h2.2,by simp [repC]⟩
  ·rename_i e hu
   simp only [Bool.and_eq_true,decide_eq_true_eq] at ht
   rcases DataW.trod_slice hu h with ⟨rfl,rfl⟩|⟨a,len,cap,elems,rest,m',rfl,rfl,rfl,_,hle,hcap,hlen,hel,_⟩
   ·exact ⟨.sl none (P.cellsOf e) [],by simp [wtP,hu],by simp only [repC];exact ⟨(fun y hy=>by cases hy),none,0,rfl,Nat.le_refl _,Nat.zero_le _,ZK _,fun _=>rfl,fun h=>absurd rfl h⟩⟩
   ·obtain ⟨xs,us,h1,h2,h3,h4,h5,h6⟩:=Zu1 (n:=n) ht.2 hlen (fun cs x hx _=>ih m' e ht.1 cs x hx) hel len (Nat.le_refl _)
    refine ⟨.sl none (P.cellsOf e) xs,by simp only [wtP,hu];exact ⟨trivial,trivial,by omega,h2⟩, ?_⟩
    simp only [repC]
    refine ⟨h3,some a,cap,by rw [h1],by omega,hcap,ZK _,by simp,fun hne=> ?_⟩
    have hpos:0 < us.length:=by
     rw [h4]
     have:0 < len:=by rw [←h1];exact List.length_pos_iff.2 hne
     exact Nat.mul_pos this ht.2
    have hc0:=h6 0 us[0] (List.getElem?_eq_getElem hpos)
    obtain ⟨b,o,spot⟩:=a
    have hspot:spot=none:=by
     cases spot with
     |none=>rfl
     |some z=>
      exfalso
      unfold World.cell? at hc0
      split at hc0
      ·simp [Addr.add] at hc0
      ·cases hc0
    subst hspot
    exact ⟨b,o,us,rfl,h5,fun j u hu=>⟨by have:=h6 j u hu;rwa [Addr.add_lit] at this,trivial⟩⟩
  ·rename_i k e hu
   simp only [Bool.and_eq_true,beq_iff_eq] at ht
   obtain ⟨elems,m',rfl,rfl,hl,hlen,hel⟩:=DataW.trod_array hu h
   obtain ⟨xs,h1,h2,h3,h4⟩:=Zsk (n:=n) (s:=P.cellsOf e) hlen (by rw [hl,ht.2]) (fun cs x hx _=>ih m' e ht.1 cs x hx) hel k (Nat.le_refl _)
   rw [List.take_of_length_le (by rw [hl,ht.2];exact Nat.le_refl _)] at h4
   exact ⟨.arr k (P.cellsOf e) xs,by simp only [wtP,hu];exact ⟨trivial,trivial,h1,h2⟩,by simp only [repC];exact ⟨h1,h3,h4⟩⟩
  ·rename_i fs hu
   simp only [Bool.and_eq_true,beq_iff_eq,List.all_eq_true] at ht
   obtain ⟨⟨t1,t2⟩,t3⟩:=ht
   obtain ⟨elems,m',rfl,rfl,hl,hlen,hel⟩:=DataW.trod_struct hu h
   obtain ⟨xs,q1,q2⟩:=Zo9 (n:=n) (m:=m') (cs:=cs) (fun t ht cs x hx=>ih m' t ht cs x hx) fs.toList 0 t1 (fun j f hf=>by
    have hj:j < fs.toList.length:=(List.getElem?_eq_some_iff.1 hf).1
    have:=t3 j (by simpa using hj)
    rw [hf] at this
    simpa using this) (by rw [hl,t2];omega) (fun j f hf=>by
    have hj:j < fs.toList.length:=(List.getElem?_eq_some_iff.1 hf).1
    have:=hel j f (by simpa using hf)
    rw [List.getElem?_eq_getElem (by rw [hlen];simpa using hj)] at this
    exact ⟨_,this⟩)
   exact ⟨.agg xs,by simp only [wtP,hu];exact q1,by simp only [repC];simpa using q2⟩
  ·cases ht
end
end Go.Ev
namespace Go.Ev
open Go.RowKit Go.WideShapes Go.ChangeShapes
def Zz6 (P:Program) (n:Nat):List TypeId→List Pl→Prop
 |[],[]=>True
 |t::ts,x::xs=>wtP P n t x∧Zz6 P n ts xs
 |_,_=>False
section
variable {H:Type} {enc:TypeId×Value→H} {P:Program}
def sg0 (W:World):Sg:={ F:=ZqE,B:=fun b=>W.heap.size≤b,m:=[],H:=[],w:=W}
theorem ZBx (W:World):Ok (sg0 W) where
 len:=rfl
 inj i j b h:=by simp [sg0] at h
 lt i b h:=by simp [sg0] at h
 ent i e a h:=by simp [sg0] at h
 new b h:=h
 own i b h:=by simp [sg0] at h
theorem Zyp (W:World) (b o:Nat):(sg0 W).stab b o:=⟨.inl trivial,fun id e h=>by simp [sg0] at h⟩
theorem Zm9 {W:World} {x:Pl} {v:Value} {cs:List Value} (hx:repC W ZqE x cs) (hc:v.cells.toList=cs) (hv:x.isAgg=true→∃a,v=.agg a) (hn:x.isAgg=false→cs=[v]):repDV (sg0 W) (.p x) v:=by
 have hm:repC W (sg0 W).stab x cs:=VU (fun b o u h _=>⟨h,Zyp W b o⟩) x cs hx
 refine ⟨fun ha=> ?_,fun ha=> ?_⟩
 ·obtain ⟨a,rfl⟩:=hv ha
  refine ⟨a,rfl, ?_⟩
  simp only [repD]
  have:a.toList=cs:=by rw [←hc];rfl
  rw [this]
  exact hm
 ·simp only [repD]
  have e:=hn ha
  rw [←e]
  exact hm
theorem ZBy:∀{n:Nat} {t:TypeId} {x:Pl},wtP P n t x→x.isAgg=Y5 P t
 |0,_,_,h=>by simp [wtP] at h
 |n+1,t,x,h=>by
  unfold wtP at h
  split at h <;> rename_i hu <;> first|(simp [Pl.isAgg,Y5,hu];done)|exact h.elim
theorem Zu2 {W:World} {n:Nat} (hval:∀(t:TypeId) (v:Value),Y5 P t=true→Value.okWide P W .any 0 t v→∃a,v=.agg a):
 ∀(ts:List TypeId) (vs:List Value) (ds:List (DataW H)) (ps:List MemPlace),(∀t,t∈ts→Z5 P n t=true)→(∀(j:Nat) t v,ts[j]? =some t→vs[j]? =some v→(Y5 P t=true→∃a,v=.agg a)∧(Y5 P t=false→v.cells.toList=[v]))→
  DataW.TrodAll enc P W 0 (fun _=>true) true ts vs ds ps→∃xs,Zz6 P n ts xs∧repVs (sg0 W) (xs.map .p) vs
 |[],[],[],_,_,_,_=>⟨[],trivial,by simp [repVs]⟩
 |[],_::_,_,_,_,_,h=>by simp [DataW.TrodAll] at h
 |[],[],_::_,_,_,_,h=>by simp [DataW.TrodAll] at h
 |_::_,[],_,_,_,_,h=>by simp [DataW.TrodAll] at h
 |_::_,_::_,[],_,_,_,h=>by simp [DataW.TrodAll] at h
 |t::ts,v::vs,d::ds,ps,hp,hv,h=>by
  obtain ⟨p,q,⟨fuel,h1⟩,h2,rfl⟩:=h
  obtain ⟨x,x1,x2⟩:=Zz5 n fuel t (hp t (List.mem_cons_self ..)) _ _ h1
  obtain ⟨xs,xs1,xs2⟩:=Zu2 hval ts vs ds q (fun u hu=>hp u (List.mem_cons_of_mem _ hu)) (fun j u w' hj hw=>hv (j+1) u w' hj hw) h2
  obtain ⟨v1,v2⟩:=hv 0 t v rfl rfl
  refine ⟨x::xs,⟨x1,xs1⟩, ?_⟩
  simp only [List.map_cons,repVs]
  have ha:=ZBy x1
  exact ⟨v,vs,rfl,Zm9 x2 rfl (fun e=>v1 (by rw [←ha];exact e)) (fun e=>v2 (by rw [←ha];exact e)),xs2⟩
theorem Zhq {W W':World} {sp':Nat→Bool} {n:Nat}:∀(ts:List TypeId) (vs:List Value) (ds:List (DataW H)) (ps:List MemPlace),(∀t,t∈ts→Z5 P n t=true)→
 DataW.TrodAll enc P W 0 (fun _=>true) true ts vs ds ps→(∀p∈ps,W.sameAt W' p)→(∀p∈ps,sp' p.block=true)→DataW.TrodAll enc P W' 0 sp' true ts vs ds ps
 |[],[],[],_,_,h,_,_=>h
 |[],_::_,_,_,_,h,_,_=>by simp [DataW.TrodAll] at h
 |[],[],_::_,_,_,h,_,_=>by simp [DataW.TrodAll] at h
 |_::_,[],_,_,_,h,_,_=>by simp [DataW.TrodAll] at h
 |_::_,_::_,[],_,_,h,_,_=>by simp [DataW.TrodAll] at h
 |t::ts,v::vs,d::ds,ps,hp,h,hs,hb=>by
  obtain ⟨p,q,⟨fuel,h1⟩,h2,rfl⟩:=h
  refine ⟨p,q,⟨fuel, ?_⟩,Zhq ts vs ds q (fun u hu=>hp u (List.mem_cons_of_mem _ hu)) h2 (fun z hz=>hs z (List.mem_append_right _ hz)) (fun z hz=>hb z (List.mem_append_right _ hz)),rfl⟩
  exact DataW.trod_stays (ZqD P) (fun {t e} ⟨n,hn⟩ hu=>by
   cases n with
   |zero=>simp [Z5] at hn
   |succ n=>simp [Z5,hu] at hn;exact hn.2) (by simp) ⟨n,hp t (List.mem_cons_self ..)⟩ h1 (fun z hz=>hs z (List.mem_append_left _ hz)) (fun z hz=>hb z (List.mem_append_left _ hz))
theorem Zsl {W:World} {σ':Sg} (h:To (sg0 W) σ'):Below W.heap.size W σ'.w:=
 ⟨h.os,h.tape,h.output,h.size,fun b hb=>h.block b hb (fun id=>by simp [sg0])⟩
theorem Zna {f:Func} {s:ChangeSpec} {apart fresh handsOn again:Bool} {W W':World} {args:Array Value} {v:Value} {ds gs:List (DataW H)} {before pa pv:List MemPlace}
 (hW:DataW.Whole enc P f.params.toList s.vars apart W args.toList ds gs before)
 (hres:∀(b:Nat) (sp:Nat→Bool) (hd:Bool),DataW.TrodAll enc P W' b sp hd f.resultTypes.toList (v.resultList f.resultTypes.size) (s.fn H (ds++gs)).results [])
 (hargs:∀sp:Nat→Bool,(∀p∈before,sp p.block=true)→DataW.TrodAll enc P W' 0 sp true f.params.toList args.toList (s.fn H (ds++gs)).args pa)
 (hvars:∀sp:Nat→Bool,(∀p∈before,sp p.block=true)→DataW.TrodVars enc P W' sp s.vars (s.fn H (ds++gs)).vars pv)
 (hps:before=pa++pv) (hb:Below W.heap.size W W')
 (hok:∀(j:Nat) (t:TypeId) (r:Value),f.resultTypes[j]? =some t→(v.resultList f.resultTypes.size)[j]? =some r→Value.okWide P W' .any 0 t r):
 s.post enc P f apart fresh handsOn again W args v W':=by
 have hlt:∀p∈before,p.block < W.heap.size:=fun p hp=>hW.lt p hp
 have hold:∀p∈before,(fun b=>decide (b < W.heap.size)) p.block=true:=fun p hp=>by simpa using hlt p hp
 refine ⟨ds,gs,before,[],pa,pv,hW,hres _ _ _,hargs _ hold,hvars _ hold,World.keptBut_mono (fun p hp=>⟨hp, ?_⟩) (hb.frame (· ∈before)),fun _=> ?_⟩
 ·rw [hps,List.mem_append] at hp
  exact Or.inr hp
 ·obtain ⟨_,_,_,_,_,hz,hn⟩:=hW
  refine ⟨hok,_,_,([]++pa)++pv,⟨[]++pa,pv,trodAll_append (hargs _ (fun _ _=>rfl)) (hres _ _ _),hvars _ (fun _ _=>rfl),rfl, ?_, ?_⟩, ?_⟩
  ·intro b off hp
   have hin:MemPlace.cell b off∈before:=by rw [hps];simpa using hp
   rw [hb.frozen (hlt _ hin)]
   exact hz b off hin
  ·intro ha
   have:=hn ha
   rw [hps] at this
   simpa using this
  ·intro p hp _
   rw [hps]
   simpa using hp
theorem ZqF {f:FuncId} {fn:Func} {s:ChangeSpec} {n:Nat} {tb:TypeId} (hr:fn.resultTypes= #[tb]) (ht:P.underlying tb=some .bool) (hv:s.vars=[])
 (hs:∀ds:List (DataW H),ds.length=fn.params.toList.length→s.fn H ds={ results:=[.lit (.bool true)],args:=ds}) (hp:∀t,t∈fn.params.toList→Z5 P n t=true)
 (W:World) (base:Nat) (args:Array Value) (ds gs:List (DataW H)) (before:List MemPlace)
 (hval:∀(j:Nat) t v,fn.params[j]? =some t→args[j]? =some v→Value.okWide P W .any base t v) (hW:DataW.Whole enc P fn.params.toList s.vars false W args.toList ds gs before)
 (hc:∀xs:List Pl,Zz6 P n fn.params.toList xs→repVs (sg0 W) (xs.map .p) args.toList→Con P f (xs.map .p) [] (.p (.bool true)) []):
 Calls P f args W fun e W'=>∃v,e=.returned v∧s.post enc P fn false true false false W args v W':=by
 have hW':=hW
 obtain ⟨p,q,hA,hV,rfl,hfz,hnd⟩:=hW
 rw [hv] at hV
 obtain ⟨rfl,rfl⟩:gs=[]∧q=[]:=by
  cases gs with
  |nil=>exact ⟨rfl,hV⟩
  |cons g r=>simp [DataW.TrodVars] at hV
 have hlen:=trodAll_length hA
 obtain ⟨xs,x1,x2⟩:=Zu2 (enc:=enc) (P:=P) (W:=W) (n:=n) (fun t v ha hok=>by
  unfold Value.okWide at hok
  unfold Y5 at ha
  split at hok
  ·obtain ⟨cs,rfl,_⟩:=hok;exact ⟨cs,rfl⟩
  ·obtain ⟨cs,rfl,_⟩:=hok;exact ⟨cs,rfl⟩
  ·rename_i h1 h2
   split at ha
   ·rename_i fs hu;exact absurd hu (h1 fs)
   ·rename_i k e hu;exact absurd hu (h2 k e)
   ·cases ha) fn.params.toList args.toList ds p hp (fun j t v hj hvv=>by
  have hok:=hval j t v (by simpa using hj) (by simpa using hvv)
  refine ⟨fun ha=> ?_,fun ha=> ?_⟩
  ·unfold Value.okWide at hok
   unfold Y5 at ha
   split at hok
   ·obtain ⟨cs,rfl,_⟩:=hok;exact ⟨cs,rfl⟩
   ·obtain ⟨cs,rfl,_⟩:=hok;exact ⟨cs,rfl⟩
   ·rename_i h1 h2
    split at ha
    ·rename_i fs hu;exact absurd hu (h1 fs)
    ·rename_i k e hu;exact absurd hu (h2 k e)
    ·cases ha
  ·obtain ⟨m,hm⟩:∃m,Z5 P (m+1) t=true:=by
    have:=hp t (List.mem_of_getElem? hj)
    cases n with
    |zero=>simp [Z5] at this
    |succ n=>exact ⟨n,this⟩
   unfold Value.okWide at hok
   unfold Z5 at hm
   unfold Y5 at ha
   split at hm <;> rename_i hu <;> simp only [hu] at hok ha
   all_goals first
    |(cases ha;done)
    |(cases hm;done)
    |(unfold Cell.okWide Cell.ok at hok;simp only [hu] at hok;cases v <;> first|rfl|(simp at hok;done))) hA
 have hcall:=hc xs x1 x2 (sg0 W) args.toList (ZBx W) rfl x2
 rw [Array.toArray_toList] at hcall
 refine Calls.mono hcall ?_
 rintro e W' ⟨v,σ',rfl,rfl,hH,hto,hok,hrep⟩
 have hbv:v=.bool true:=by simpa [repDV,Dv.isAgg,Pl.isAgg,repD,repC] using hrep
 subst hbv
 have hb:=Zsl hto
 simp only [List.append_nil] at hW'
 have hlt:=hW'.lt
 have hsame:∀z∈p,W.sameAt σ'.w z:=by
  intro z hz
  have hz':=hlt z hz
  cases z with
  |cell b o=>exact hb.cell (p:=⟨b,o,none⟩) hz'
  |map b=>exact hb.block b hz'
 have hfn:=hs ds hlen.2
 refine ⟨_,rfl,Zna (pa:=p) (pv:=[]) hW' (fun b sp hd=> ?_) (fun sp h=> ?_) (fun sp h=> ?_) (by simp) hb ?_⟩
 ·rw [List.append_nil,hfn,hr]
  exact trodAll_cons_mk (shut_bool ht _) trodAll_mk0
 ·rw [List.append_nil,hfn]
  exact Zhq fn.params.toList args.toList ds p hp hA hsame h
 ·rw [List.append_nil,hfn,hv]
  rfl
 ·intro j t r hj hjr
  rw [hr] at hj hjr
  cases j with
  |zero=>
   simp at hj
   subst hj
   have:r=.bool true:=by simpa [Value.resultList] using hjr.symm
   subst this
   exact okWide_bool_mk ht _
  |succ j=>simp at hj
end
end Go.Ev
namespace Go.Ev
end Go.Ev
end
section
namespace Go.Ev
mutual
def Ty.Wf:(t:Ty)→t.den→Prop
 |.int k,n=>(Lit.int k n).wf=true
 |.u8,_=>True
 |.u32,_=>True
 |.u64,_=>True
 |.bool,_=>True
 |.str,s=>s.size≤maxLen
 |.sl t,l=>List.length l≤maxLen∧∀x,List.Mem x l→Ty.Wf t x
 |.arr n t,l=>List.length l=n∧∀x,List.Mem x l→Ty.Wf t x
 |.st fs,x=>Ty.Wfs fs x
def Ty.Wfs:(fs:List Ty)→Ty.dens fs→Prop
 |[],_=>True
 |[t],x=>Ty.Wf t x
 |t::u::r,x=>Ty.Wf t x.1∧Ty.Wfs (u::r) x.2
end
mutual
def ZtU (P:Program):Nat→TypeId→Ty→Bool
 |0,_,_=>false
 |n+1,t,T=>match P.underlying t,T with
  |some (.int .u8),.u8=>true
  |some (.int .u32),.u32=>true
  |some (.int .u64),.u64=>true
  |some (.int k),.int k'=>decide (k=k')
  |some .bool,.bool=>true
  |some .string,.str=>true
  |some (.slice e),.sl T'=>P.cellsOf e==T'.size&&ZtU P n e T'
  |some (.array m e),.arr m' T'=>m==m'&&(P.cellsOf e==T'.size&&ZtU P n e T')
  |some (.struct fs),.st Ts=>tyOks P n fs.toList Ts
  |_,_=>false
def tyOks (P:Program):Nat→List Field→List Ty→Bool
 |0,_,_=>false
 |_+1,[],[]=>true
 |n+1,f::fs,T::Ts=>ZtU P n f.type T&&tyOks P n fs Ts
 |_+1,_,_=>false
end
theorem ZB8 {m:Int} (h:(Lit.int .u8 m).wf=true):∃b:UInt8,m=(b.toNat:Int):=by
 simp only [Lit.wf,Bool.and_eq_true,decide_eq_true_eq] at h
 have h1:(0:Int)≤m:=h.1
 have h2:m≤255:=h.2
 refine ⟨UInt8.ofNat m.toNat, ?_⟩
 have:(UInt8.ofNat m.toNat).toNat=m.toNat:=by simp;omega
 rw [this]
 omega
theorem ZBz {m:Int} (h:(Lit.int .u32 m).wf=true):∃b:UInt32,m=(b.toNat:Int):=by
 simp only [Lit.wf,Bool.and_eq_true,decide_eq_true_eq] at h
 have h1:(0:Int)≤m:=h.1
 have h2:m≤4294967295:=h.2
 refine ⟨UInt32.ofNat m.toNat, ?_⟩
 have:(UInt32.ofNat m.toNat).toNat=m.toNat:=by simp;omega
 rw [this]
 omega
theorem ZBA {m:Int} (h:(Lit.int .u64 m).wf=true):∃b:UInt64,m=(b.toNat:Int):=by
 simp only [Lit.wf,Bool.and_eq_true,decide_eq_true_eq] at h
 have h1:(0:Int)≤m:=h.1
 have h2:m≤18446744073709551615:=h.2
 refine ⟨UInt64.ofNat m.toNat, ?_⟩
 have:(UInt64.ofNat m.toNat).toNat=m.toNat:=by simp;omega
 rw [this]
 omega
theorem ZtV {α β:Type} {f:α→β} {R:α→Prop}:∀{ys:List β},(∀y,y∈ys→∃x,y=f x∧R x)→∃l:List α,ys=l.map f∧∀x,List.Mem x l→R x
 |[],_=>⟨[],rfl,fun x hx=>by cases hx⟩
 |y::ys,h=>by
  obtain ⟨x,rfl,hx⟩:=h y (List.mem_cons_self ..)
  obtain ⟨l,rfl,hl⟩:=ZtV (fun z hz=>h z (List.mem_cons_of_mem _ hz))
  exact ⟨x::l,rfl,fun z hz=>by
   cases hz with
   |head=>exact hx
   |tail _ hz=>exact hl z hz⟩
mutual
theorem Zpa {P:Program}:∀(m n:Nat) (t:TypeId) (T:Ty) (x:Pl),ZtU P m t T=true→wtP P n t x→∃v:T.den,T.Wf v∧x=T.enc v
 |0,_,_,_,_,h,_=>by simp [ZtU] at h
 |_+1,0,_,_,_,_,h=>by simp [wtP] at h
 |m+1,n+1,t,T,x,h,hw=>by
  unfold ZtU at h
  split at h
  ·rename_i hu
   unfold wtP at hw
   rw [hu] at hw
   cases x <;> try exact hw.elim
   obtain ⟨rfl,h2⟩:=hw
   obtain ⟨b,rfl⟩:=ZB8 h2
   exact ⟨b,trivial,rfl⟩
  ·rename_i hu
   unfold wtP at hw
   rw [hu] at hw
   cases x <;> try exact hw.elim
   obtain ⟨rfl,h2⟩:=hw
   obtain ⟨b,rfl⟩:=ZBz h2
   exact ⟨b,trivial,rfl⟩
  ·rename_i hu
   unfold wtP at hw
   rw [hu] at hw
   cases x <;> try exact hw.elim
   obtain ⟨rfl,h2⟩:=hw
   obtain ⟨b,rfl⟩:=ZBA h2
   exact ⟨b,trivial,rfl⟩
  ·rename_i k k' hu
   have h:=of_decide_eq_true h
   subst h
   unfold wtP at hw
   rw [hu] at hw
   cases x <;> try exact hw.elim
   obtain ⟨rfl,h2⟩:=hw
   exact ⟨_,h2,rfl⟩
  ·rename_i hu
   unfold wtP at hw
   rw [hu] at hw
   cases x <;> try exact hw.elim
   exact ⟨_,trivial,rfl⟩
  ·rename_i hu
   unfold wtP at hw
   rw [hu] at hw
   cases x <;> try exact hw.elim
   exact ⟨_,hw,rfl⟩
  ·rename_i e T' hu
   simp only [Bool.and_eq_true,beq_iff_eq] at h
   unfold wtP at hw
   rw [hu] at hw
   cases x <;> try exact hw.elim
   obtain ⟨rfl,rfl,h3,h4⟩:=hw
   obtain ⟨l,rfl,h5⟩:=ZtV fun y hy=>(by
    obtain ⟨v,a,b⟩:=Zpa m n e T' y h.2 (h4 y hy)
    exact ⟨v,b,a⟩:∃v:T'.den,y=T'.enc v∧T'.Wf v)
   refine ⟨l,⟨by simpa using h3,h5⟩, ?_⟩
   rw [h.1]
   rfl
  ·rename_i m0 e m' T' hu
   simp only [Bool.and_eq_true,beq_iff_eq] at h
   obtain ⟨rfl,h⟩:=h
   unfold wtP at hw
   rw [hu] at hw
   cases x <;> try exact hw.elim
   obtain ⟨rfl,rfl,h3,h4⟩:=hw
   obtain ⟨l,rfl,h5⟩:=ZtV fun y hy=>(by
    obtain ⟨v,a,b⟩:=Zpa m n e T' y h.2 (h4 y hy)
    exact ⟨v,b,a⟩:∃v:T'.den,y=T'.enc v∧T'.Wf v)
   refine ⟨l,⟨by simpa using h3,h5⟩, ?_⟩
   rw [h.1]
   rfl
  ·rename_i fs Ts hu
   unfold wtP at hw
   rw [hu] at hw
   cases x <;> try exact hw.elim
   rename_i xs
   obtain ⟨v,h1,rfl⟩:=wt_tys m n fs.toList Ts xs h hw
   exact ⟨v,h1,rfl⟩
  ·cases h
theorem wt_tys {P:Program}:∀(m n:Nat) (fs:List Field) (Ts:List Ty) (xs:List Pl),tyOks P m fs Ts=true→Zz4 (wtP P n) fs xs→∃v:Ty.dens Ts,Ty.Wfs Ts v∧xs=Ty.encs Ts v
 |0,_,_,_,_,h,_=>by simp [tyOks] at h
 |m+1,n,[],[],[],h,hw=>⟨(),trivial,rfl⟩
 |m+1,n,[],[],_::_,h,hw=>hw.elim
 |m+1,n,[],_::_,_,h,hw=>by cases h
 |m+1,n,_::_,[],_,h,hw=>by cases h
 |m+1,n,_::_,_::_,[],h,hw=>hw.elim
 |m+1,n,f::fs,[T],x::xs,h,hw=>by
  simp only [tyOks,Bool.and_eq_true] at h
  obtain ⟨v,h1,rfl⟩:=Zpa m n f.type T x h.1 hw.1
  cases fs with
  |nil=>cases xs with
   |nil=>exact ⟨v,h1,rfl⟩
   |cons _ _=>exact hw.2.elim
  |cons _ _=>
   cases m with
   |zero=>exact absurd h.2 (by simp [tyOks])
   |succ m=>exact absurd h.2 (by simp [tyOks])
 |m+1,n,f::fs,T::U::Ts,x::xs,h,hw=>by
  simp only [tyOks,Bool.and_eq_true] at h
  obtain ⟨v,h1,rfl⟩:=Zpa m n f.type T x h.1 hw.1
  obtain ⟨w,h2,rfl⟩:=wt_tys m n fs (U::Ts) xs h.2 hw.2
  exact ⟨(v,w),⟨h1,h2⟩,rfl⟩
end
theorem Zpb {I X:Type} {step:I→Option (I⊕X)} (Inv:I→Prop) (mu:I→Nat) (Post:X→Prop)
 (h:∀i,Inv i→(∃j,step i=some (.inl j)∧Inv j∧mu j < mu i)∨(∃x,step i=some (.inr x)∧Post x)):∀(n:Nat) (i:I),Inv i→mu i < n→∃x,Zj step n i=some x∧Post x
 |0,i,_,hn=>by omega
 |n+1,i,hi,hn=>by
  unfold Zj
  rcases h i hi with ⟨j,h1,h2,h3⟩|⟨x,h1,h2⟩
  ·rw [h1,Option.bind_some]
   exact Zpb Inv mu Post h n j h2 (by omega)
  ·rw [h1,Option.bind_some]
   exact ⟨x,rfl,h2⟩
theorem Z3 {I X:Type} {step:I→Option (I⊕X)} (Inv:I→Prop) (mu:I→Nat) (Post:X→Prop)
 (h:∀i,Inv i→(∃j,step i=some (.inl j)∧Inv j∧mu j < mu i)∨(∃x,step i=some (.inr x)∧Post x)) (i:I) (hi:Inv i) (hm:mu i < 18446744073709551616):∃x,Zj step fuel i=some x∧Post x:=by
 refine Zpb Inv mu Post h fuel i hi ?_
 rw [Zi5]
 exact hm
theorem Yp {z:Int} (h1: -9223372036854775808≤z) (h2:z≤9223372036854775807):wi z=z:=by
 simp only [wi,IntKind.wrap,IntKind.signed,IntKind.bits]
 simp
 omega
theorem Zac {α:Type} {l:List α} {i:Int} {y:α} (h0:0≤i) (h:l[i.toNat]? =some y):idx l i=some y:=by
 unfold idx
 rw [if_pos h0,h]
theorem WG {α:Type} {l:List α} {i:Nat} (h:i < l.length):∃y,l[i]? =some y:=⟨_,List.getElem?_eq_getElem h⟩
theorem XR {i:Int} {n:Nat} (h1:0≤i) (h2:i < (n:Int)):inB i n=true:=by simp [inB,h1,h2]
theorem Yb {n m b:Nat} (h1:(n+m)*b≤140737488355328) (h2:n+m≤9223372036854775807):apB n m b=true:=by
 unfold apB
 rw [Bool.and_eq_true]
 exact ⟨decide_eq_true h1,decide_eq_true h2⟩
end Go.Ev
end
section
namespace Go.Ev
def tdv:(ts:List Ty)→Ty.dens ts→List TD
 |[],_=>[]
 |[t],x=>[.p (.v t x)]
 |t::u::r,x=>.p (.v t x.1)::tdv (u::r) x.2
theorem Zu3:∀(ts:List Ty) (x:Ty.dens ts),Sh.fills (ts.map .v) (ofD ts x)=some (tdv ts x,[])
 |[],_=>rfl
 |[t],x=>by
  rw [show ofD [t] x=[⟨t,x⟩] from rfl,List.map_cons,List.map_nil,Sh.fills,Sh.fill]
  have e:=YB t x
  dsimp only
  rw [e]
  rfl
 |t::u::r,x=>by
  have h:=Zu3 (u::r) x.2
  have e:=YB t x.1
  rw [show ofD (t::u::r) x=⟨t,x.1⟩::ofD (u::r) x.2 from rfl,List.map_cons,Sh.fills,Sh.fill]
  dsimp only
  rw [e,Option.map_some,Option.bind_some,h]
  rfl
theorem Zyq {L:Lk}:∀(ts:List Ty) (x:Ty.dens ts),TD.ers L (tdv ts x)=(Ty.encs ts x).map .p
 |[],_=>rfl
 |[t],x=>rfl
 |t::u::r,x=>by
  rw [show tdv (t::u::r) x=.p (.v t x.1)::tdv (u::r) x.2 from rfl,ZA,List.map_cons, ←ZA,Zyq (u::r) x.2]
  rfl
theorem Zz7 {P:Program} {g:FuncId} {ts:List Ty} {M:Ty.dens ts→Option Bool} (hok:Fs.Ok (⟨g,ts.map .v,[],ts,[⟨.ret,[(0,.v .bool)],[],[.bool]⟩],M⟩:Fs P)) {x:Ty.dens ts} (h:M x=some true):
 Con P g ((Ty.encs ts x).map .p) [] (.p (.bool true)) []:=by
 obtain ⟨args,R,H,h1,h2,h3⟩:=hok x true h
 have e:=(Zu3 ts x).symm.trans (show Sh.fills (ts.map .v) (ofD ts x)=some (args,R) from h1)
 cases e
 cases h2
 obtain ⟨r,h4,h5⟩:=h3 _ [⟨.bool,true⟩] ([.p (.v .bool true)],[]) ⟨rfl,rfl⟩ (by
  simp only [X7,shs]
  rfl)
 cases h4
 rw [←Zyq (L:=lk [])]
 exact h5
theorem ZBB {P:Program} {s:Fs P} (h:s.Ok) {M:Ty.dens s.ins→Option (XSh.sum s.xs)} (e:∀x,M x=s.M x):Fs.Ok (P:=P) { s with M:=M}:=by
 have:M=s.M:=funext e
 subst this
 exact h
def Znb (P:Program) (m:Nat):List TypeId→List Ty→Bool
 |[],[]=>true
 |t::ts,T::Ts=>ZtU P m t T&&Znb P m ts Ts
 |_,_=>false
theorem Zu4 {P:Program} {m n:Nat}:∀{ts:List TypeId} {Ts:List Ty} {xs:List Pl},Znb P m ts Ts=true→Zz6 P n ts xs→∃v:Ty.dens Ts,Ty.Wfs Ts v∧xs=Ty.encs Ts v
 |[],[],[],_,_=>⟨(),trivial,rfl⟩
 |[],[],_::_,_,h=>h.elim
 |[],_::_,_,h,_=>by cases h
 |_::_,[],_,h,_=>by cases h
 |_::_,_::_,[],_,h=>h.elim
 |t::ts,[T],x::xs,h,hw=>by
  simp only [Znb,Bool.and_eq_true] at h
  obtain ⟨v,h1,rfl⟩:=Zpa m n t T x h.1 hw.1
  cases ts with
  |nil=>cases xs with
   |nil=>exact ⟨v,h1,rfl⟩
   |cons _ _=>exact hw.2.elim
  |cons _ _=>exact absurd h.2 (by simp [Znb])
 |t::ts,T::U::Ts,x::xs,h,hw=>by
  simp only [Znb,Bool.and_eq_true] at h
  obtain ⟨v,h1,rfl⟩:=Zpa m n t T x h.1 hw.1
  obtain ⟨w,h2,rfl⟩:=Zu4 (Ts:=U::Ts) h.2 hw.2
  exact ⟨(v,w),⟨h1,h2⟩,rfl⟩
end Go.Ev
end
section
namespace Go.Ev
structure Md (N b0:Nat) (σ σ':Sg):Prop where
 leaf:Leaf σ σ'
 F:∀b o,σ'.F b o→σ.F b o
 B:∀b,σ'.B b→σ.B b
 os:σ'.w.os=σ.w.os
 tape:σ'.w.tape=σ.w.tape
 output:σ'.w.output=σ.w.output
 size:σ.w.heap.size≤σ'.w.heap.size
 block:∀b,b < N→b≠b0→(∀id:Nat,σ.m[id]? ≠some (some b))→σ'.w.heap[b]? =σ.w.heap[b]?
 same:∀id b:Nat,σ'.m[id]? =some (some b)→σ.m[id]? =some (some b)∨N≤b
theorem Md.refl {N b0:Nat} (σ:Sg):Md N b0 σ σ:=⟨Leaf.refl σ,fun _ _ h=>h,fun _ h=>h,rfl,rfl,rfl,Nat.le_refl _,fun _ _ _ _=>rfl,fun _ _ h=>.inl h⟩
theorem Md.of_to {N b0:Nat} {σ σ':Sg} (h:To σ σ') (hN:N≤σ.w.heap.size):Md N b0 σ σ' where
 leaf:=h.leaf
 F b o k:=by rw [h.F] at k;exact k
 B b k:=by rw [h.B] at k;exact k
 os:=h.os
 tape:=h.tape
 output:=h.output
 size:=h.size
 block b k1 _ k2:=h.block b (Nat.lt_of_lt_of_le k1 hN) k2
 same id b k:=by
  rcases h.same id b k with q|q
  ·exact .inl q
  ·exact .inr (Nat.le_trans hN q)
theorem Md.trans {N b0:Nat} {a b c:Sg} (h:Md N b0 a b) (k:Md N b0 b c):Md N b0 a c where
 leaf:=h.leaf.trans k.leaf
 F x o q:=h.F x o (k.F x o q)
 B x q:=h.B x (k.B x q)
 os:=k.os.trans h.os
 tape:=k.tape.trans h.tape
 output:=k.output.trans h.output
 size:=Nat.le_trans h.size k.size
 block x h1 h2 h3:=(k.block x h1 h2 (fun id q=>by
  rcases h.same id x q with r|r
  ·exact h3 id r
  ·omega)).trans (h.block x h1 h2 h3)
 same id x q:=by
  rcases k.same id x q with r|r
  ·exact h.same id x r
  ·exact .inr r
structure Pv (b0:Nat) (σ:Sg) (b:Nat):Prop where
 B:¬σ.B b
 F:∀o,¬σ.F b o
 lt:b < σ.w.heap.size
 un:∀id:Nat,σ.m[id]? ≠some (some b)
 ne:b≠b0
theorem Pv.to {b0 b:Nat} {σ σ':Sg} (h:Pv b0 σ b) (to:To σ σ'):Pv b0 σ' b where
 B:=by rw [to.B];exact h.B
 F o:=by rw [to.F];exact h.F o
 lt:=Nat.lt_of_lt_of_le h.lt to.size
 un id q:=by
  rcases to.same id b q with r|r
  ·exact h.un id r
  ·have:=h.lt
   omega
 ne:=h.ne
theorem Pv.not_stab {b0 b o:Nat} {σ:Sg} (h:Pv b0 σ b):¬σ.stab b o:=fun q=>q.1.elim (h.F o) h.B
def RowIn (σ:Sg) (s:Nat) (e:TypeId) (xs:List Pl) (v:Value) (b:Nat):Prop:=
 ∃c cur,v=.slice (some ⟨b,0,none⟩) xs.length c∧σ.w.heap[b]? =some (.cells cur e (0,0))∧cur.size=c*s∧xs.length≤c∧c≤maxLen∧allSz s xs∧repCs σ.w σ.stab xs (cur.toList.take (xs.length*s))
theorem RowIn.leaf {σ σ':Sg} {s:Nat} {e:TypeId} {xs:List Pl} {v:Value} {b:Nat} (h:RowIn σ s e xs v b) (l:Leaf σ σ') (hb:σ'.w.heap[b]? =σ.w.heap[b]?):RowIn σ' s e xs v b:=by
 obtain ⟨c,cur,h1,h2,h3,h4,h5,h6,h7⟩:=h
 exact ⟨c,cur,h1,by rw [hb];exact h2,h3,h4,h5,h6,repCs_mono l.cells _ _ h7⟩
structure MR (N b0 s:Nat) (e:TypeId) (σ:Sg) (gs:List (Pl×List Pl×Nat)) (es:Array MapEntry) (clock:Nat):Prop where
 ge:N≤σ.w.heap.size
 F:∀b o,σ.F b o→b < N
 heap:σ.w.heap[b0]? =some (.map es clock)
 un:∀id:Nat,σ.m[id]? ≠some (some b0)
 len:es.size=gs.length
 ent:∀(q:Nat) g en,gs[q]? =some g→es[q]? =some en→repDV σ (.p g.1) en.key∧RowIn σ s e g.2.1 en.val g.2.2∧en.born < clock∧Pv b0 σ g.2.2∧N≤g.2.2
 born:∀(q q':Nat) en en',es[q]? =some en→es[q']? =some en'→en.born=en'.born→q=q'
 dist:∀(q q':Nat) g g',gs[q]? =some g→gs[q']? =some g'→g.2.2=g'.2.2→q=q'
theorem Zi6 {w:World} {b:Nat} {x:Obj} (h:w.heap[b]? =some x):b < w.heap.size:=(Array.getElem?_eq_some_iff.1 h).1
theorem MR.to {N b0 s:Nat} {e:TypeId} {σ σ':Sg} {gs:List (Pl×List Pl×Nat)} {es:Array MapEntry} {clock:Nat} (h:MR N b0 s e σ gs es clock) (to:To σ σ'):MR N b0 s e σ' gs es clock where
 ge:=Nat.le_trans h.ge to.size
 F b o q:=h.F b o (by rw [to.F] at q;exact q)
 heap:=(to.block b0 (Zi6 h.heap) h.un).trans h.heap
 un id q:=by
  rcases to.same id b0 q with r|r
  ·exact h.un id r
  ·have:=Zi6 h.heap
   omega
 len:=h.len
 ent q g en h1 h2:=by
  obtain ⟨a1,a2,a3,a4,a5⟩:=h.ent q g en h1 h2
  exact ⟨Yy to.leaf a1,a2.leaf to.leaf (to.block _ a4.lt a4.un),a3,a4.to to,a5⟩
 born:=h.born
 dist:=h.dist
theorem Znc {σ:Sg} {w':World} {B':Nat→Prop} (hc:∀(b o:Nat) (v:Value),σ.w.cell? ⟨b,o,none⟩=some v→σ.stab b o→w'.heap[b]? =σ.w.heap[b]? ∧(σ.B b→B' b))
 (hm:∀id b:Nat,σ.m[id]? =some (some b)→w'.heap[b]? =σ.w.heap[b]?):Leaf σ { σ with w:=w',B:=B'}:=by
 refine ⟨fun b o v h1 h2=> ?_,fun id b h1 h2=>⟨h1,h2⟩,fun id s len A c h=> ?_,fun id b h1 h2=>⟨h1,h2⟩,fun id v s st e d h=>⟨v,st,d,h,Nat.le_refl _,fun _=>⟨rfl,fun b cur hb hc'=>⟨cur, ?_,rfl⟩⟩⟩⟩
 ·obtain ⟨q1,q2⟩:=hc b o v h1 h2
  exact ⟨by rw [World.cell?_of_block (w:=σ.w) q1];exact h1,h2.1.imp id q2,h2.2⟩
 ·obtain ⟨e,ys,h1,h2,h3⟩:=h
  refine ⟨e,ys,h1,h2,fun q=> ?_⟩
  rcases h3 q with h4|⟨b,cur,h4,h5,h6,h7⟩
  ·exact .inl h4
  ·exact .inr ⟨b,cur,h4,h5,by show w'.heap[b]? =_;rw [hm id b h4];exact h6,h7⟩
 ·show w'.heap[b]? =_
  rw [hm id b hb]
  exact hc'
theorem ZtW {σ:Sg} {w':World} {B':Nat→Prop} (ok:Ok σ) (leaf:Leaf σ { σ with w:=w',B:=B'}) (hm:∀id b:Nat,σ.m[id]? =some (some b)→w'.heap[b]? =σ.w.heap[b]?) (hs:σ.w.heap.size≤w'.heap.size)
 (hB:∀b,w'.heap.size≤b→B' b) (hB2:∀id b:Nat,σ.m[id]? =some (some b)→B' b):Ok { σ with w:=w',B:=B'} where
 len:=ok.len
 inj:=ok.inj
 lt i b h:=Nat.lt_of_lt_of_le (ok.lt i b h) hs
 ent i e a h1 h2:=WP leaf (fun b hb=>hm i b (by rw [←hb];exact h2)) (ok.ent i e a h1 h2)
 new:=hB
 own:=hB2
structure More (P:Program) (b0 s:Nat) (e t u ty:TypeId) (σ:Sg) (v S:Value) (b:Nat) (ys:List Pl) (v':Value) (w':World) (b':Nat) (B':Nat→Prop):Prop where
 run:(Builtin.append_ #[t,u] ty #[v,S]).run P σ.w=.ok v' w'
 leaf:Leaf σ { σ with w:=w',B:=B'}
 ok:Ok { σ with w:=w',B:=B'}
 row:RowIn { σ with w:=w',B:=B'} s e ys v' b'
 pv:Pv b0 { σ with w:=w',B:=B'} b'
 other:∀x,x≠b→x < σ.w.heap.size→w'.heap[x]? =σ.w.heap[x]?
 blk:b'=b∨σ.w.heap.size≤b'
 B:∀x,B' x→σ.B x
 os:w'.os=σ.w.os
 tape:w'.tape=σ.w.tape
 output:w'.output=σ.w.output
 size:σ.w.heap.size≤w'.heap.size
theorem ZkS {σ:Sg} (ok:Ok σ) {id b x:Nat} (h:σ.m[id]? =some (some b)) (hx:σ.w.heap.size≤x):b≠x:=by
 have:=ok.lt id b h
 omega
theorem Zu5 {σ:Sg} {b o:Nat} {v:Value} (h:σ.w.cell? ⟨b,o,none⟩=some v):b < σ.w.heap.size:=YI h
theorem Zsm {P:Program} {b0 s:Nat} {e t u ty:TypeId} {σ:Sg} (ok:Ok σ) (hb0:b0 < σ.w.heap.size) (hF:∀o,¬σ.F σ.w.heap.size o) {v S:Value} {b:Nat} {ys:List Pl} {cs:Array Value} {c:Nat}
 (run:(Builtin.append_ #[t,u] ty #[v,S]).run P σ.w=.ok (.slice (some ⟨σ.w.heap.size,0,none⟩) ys.length c) (σ.w.drew.alloc (.cells cs e))) (hcs:cs.size=c*s) (hle:ys.length≤c) (hcm:c≤maxLen) (hall:allSz s ys)
 (hr:repCs σ.w σ.stab ys (cs.toList.take (ys.length*s))):
 More P b0 s e t u ty σ v S b ys (.slice (some ⟨σ.w.heap.size,0,none⟩) ys.length c) (σ.w.drew.alloc (.cells cs e)) σ.w.heap.size (fun x=>σ.B x∧x≠σ.w.heap.size):=by
 have hg:=Ya σ.w (.cells cs e) none
 have hblk:∀x,x < σ.w.heap.size→(σ.w.drew.alloc (.cells cs e)).heap[x]? =σ.w.heap[x]? :=fun x hx=>hg.block x hx (by simp)
 have hnew:(σ.w.drew.alloc (.cells cs e)).heap[σ.w.heap.size]? =some (.cells cs e (0,0)):=heap_alloc_new σ.w.drew _
 have leaf:Leaf σ { σ with w:=σ.w.drew.alloc (.cells cs e),B:=fun x=>σ.B x∧x≠σ.w.heap.size}:=Znc (fun x o v h1 h2=>⟨hblk x (Zu5 h1),fun h=>⟨h,by have:=Zu5 h1;omega⟩⟩) (fun id x h=>hblk x (ok.lt id x h))
 have hlt:=Zi6 hnew
 exact { run:=run,leaf:=leaf,ok:=ZtW ok leaf (fun id x h=>hblk x (ok.lt id x h)) hg.size (fun x hx=>⟨ok.new x (by have:=hg.size;omega),by omega⟩) (fun id x h=>⟨ok.own id x h,ZkS ok h (Nat.le_refl _)⟩),
         row:=⟨c,cs,rfl,hnew,hcs,hle,hcm,hall,repCs_mono leaf.cells _ _ hr⟩,
         pv:=⟨fun h=>h.2 rfl,hF,hlt,fun id q=>ZkS ok q (Nat.le_refl _) rfl,by omega⟩,
         other:=fun x _ hx=>hblk x hx,blk:=.inr (Nat.le_refl _),B:=fun x h=>h.1,os:=hg.os,tape:=hg.tape,output:=hg.output,size:=hg.size}
theorem Zyr {P:Program} {b0 s:Nat} {e t u ty:TypeId} {i:TypeInfo} {σ:Sg} (ok:Ok σ) (hb0:b0 < σ.w.heap.size) (hF:∀o,¬σ.F σ.w.heap.size o) (ht:P.underlying t=some (.slice e)) (hi:P.info? e=some i) (hz:zOk i=true)
 (hs:i.size=s) {xs:List Pl} {v S:Value} {b:Nat} {y:Pl} (hr:RowIn σ s e xs v b) (hp:Pv b0 σ b) (hsrc:ZiB P σ s u S [y]) (hb:(xs.length+1)*i.bytes≤bytesBound) (hm:xs.length+1≤maxLen):
 ∃v' w' b' B',More P b0 s e t u ty σ v S b (xs++[y]) v' w' b' B':=by
 obtain ⟨c,cur,rfl,h2,h3,h4,h5,h6,h7⟩:=hr
 obtain ⟨news,hS,hrn,hall⟩:=hsrc
 subst hs
 have hnl:news.length=1*i.size:=hS.cells
 have hone:∀v,v∈news→v.oneCell'=true:=repCs_one _ _ hrn
 have hall2:allSz i.size (xs++[y]):=Vi h6 (hall (by simp))
 have hus:(cur.toList.take (xs.length*i.size)).length=xs.length*i.size:=by
  have hcl:cur.toList.length=c*i.size:=by simpa using h3
  rw [List.length_take,hcl]
  exact Nat.min_eq_left (Nat.mul_le_mul_right _ h4)
 have hrr:repCs σ.w σ.stab (xs++[y]) (cur.toList.take (xs.length*i.size)++news):=ZR h7 hrn
 have hlen:(xs++[y]).length=xs.length+1:=by simp
 obtain ⟨z,hzz,hzs⟩:=Qc hz
 rcases Nat.lt_or_ge c (xs.length+1) with hgr|hroom
 ·have hold:(Builtin.firstCells i.size xs.length (.slice (some ⟨b,0,none⟩) xs.length c)).run P σ.w.drew=.ok (cur.toList.take (xs.length*i.size)).toArray σ.w.drew:=by
   refine run_firstCells_some _ _ _ ⟨b,_,none⟩ _ c _ hus (fun j v hv=> ?_)
   rw [Addr.add_mk,Nat.zero_add]
   have hv2:cur[j]? =some v:=by
    rw [List.getElem?_take] at hv
    split at hv
    ·rw [←Array.getElem?_toList];exact hv
    ·cases hv
   rw [cell_of_row σ.w.drew b j cur e (0,0) h2]
   exact hv2
  have hrun:=Zcz (P:=P) (ty:=ty) ht hi hzz hS hold hgr hm hb
  have hge:=grownCap_ge σ.w (xs.length+1) c e
  have hcm:=grownCap_le_maxLen σ.w (xs.length+1) c e hm
  have hl1:xs.length+[y].length=(xs++[y]).length:=by simp
  rw [hl1] at hrun
  refine ⟨_,_,_,_,Zsm ok hb0 hF hrun ?_ (by rw [hlen];exact hge) (by rw [hlen];exact hcm) hall2 ?_⟩
  ·simp only [Array.size_append,List.size_toArray,size_zeroCells,hzs,hus,hnl, ←Nat.add_mul,hlen]
   congr 1
   have:xs.length+1≤grownCap σ.w (xs.length+1) c e:=hge
   omega
  ·have e1:(cur.toList.take (xs.length*i.size)++news).length=(xs++[y]).length*i.size:=by rw [List.length_append,hus,hnl,hlen,Nat.add_mul]
   rw [←e1]
   simp only [Array.toList_append,List.take_left',List.append_assoc]
   rw [←List.append_assoc,List.take_left' rfl]
   exact hrr
 ·have hrun:=Zfz (P:=P) (ty:=ty) ht hi hS hone h2 hroom h3
  let ncur:Array Value:=(cur.toList.take (xs.length*i.size)++news++cur.toList.drop (xs.length*i.size+news.length)).toArray
  have hblk:(σ.w.setRow b ncur).heap[b]? =some (.cells ncur e (0,0)):=setRow_heap σ.w b cur _ e _ h2
  have hoth:∀j,j≠b→(σ.w.setRow b ncur).heap[j]? =σ.w.heap[j]? :=fun j hj=>setRow_other σ.w b j _ hj
  have hfit:xs.length*i.size+news.length≤cur.size:=by rw [hnl,h3, ←Nat.add_mul];exact Nat.mul_le_mul_right _ hroom
  have hncs:ncur.size=c*i.size:=by
   simp only [ncur,List.size_toArray,List.length_append,List.length_drop,Array.length_toList,hus]
   omega
  have htk:ncur.toList.take ((xs++[y]).length*i.size)=cur.toList.take (xs.length*i.size)++news:=by
   have e1:(cur.toList.take (xs.length*i.size)++news).length=(xs++[y]).length*i.size:=by rw [List.length_append,hus,hnl,hlen,Nat.add_mul]
   rw [←e1]
   exact List.take_left
  have leaf:Leaf σ { σ with w:=σ.w.setRow b ncur,B:=σ.B}:=Znc (fun x o v h1 h2'=>⟨hoth x (fun q=>by subst q;exact hp.not_stab h2'),fun h=>h⟩) (fun id x h=>hoth x (fun q=>by subst q;exact hp.un id h))
  have hsz:(σ.w.setRow b ncur).heap.size=σ.w.heap.size:=by simp
  have hl1:xs.length+[y].length=(xs++[y]).length:=by simp
  rw [hl1] at hrun
  have ok2:Ok { σ with w:=σ.w.setRow b ncur,B:=σ.B}:=ZtW ok leaf (fun id x h=>hoth x (fun q=>by subst q;exact hp.un id h)) (by rw [hsz];exact Nat.le_refl _) (fun x hx=>ok.new x (by rw [←hsz];exact hx)) ok.own
  refine ⟨_,_,b,σ.B,hrun,leaf,ok2,⟨c,ncur,rfl,hblk,hncs,by rw [hlen];exact hroom,h5,hall2,by rw [htk];exact repCs_mono leaf.cells _ _ hrr⟩,⟨hp.B,hp.F, ?_,hp.un,hp.ne⟩,fun x hx _=>hoth x hx,.inl rfl,fun x h=>h,rfl,rfl,rfl, ?_⟩
  ·show b < (σ.w.setRow b ncur).heap.size
   rw [hsz]
   exact hp.lt
  ·exact Nat.le_of_eq hsz.symm
theorem Zys {P:Program} {b0 s:Nat} {e t u ty:TypeId} {i:TypeInfo} {σ:Sg} {a:Act} {ts:List Dv} (ok:Ok σ) (hrep:RepT σ ts a) (hb0:b0 < σ.w.heap.size) (hF:∀o,¬σ.F σ.w.heap.size o) (ht:P.underlying t=some (.slice e)) (hi:P.info? e=some i) (hz:zOk i=true)
 (hs:i.size=s) (hne:i.size≠0) {S:Operand} {y:Pl} {b:Nat} (hsrc:ZiB P σ s u (a.eval S) [y]) (hb:1*i.bytes≤bytesBound) (hm:1≤maxLen):
 ∃v' w' b' B',More P b0 s e t u ty σ (.slice none 0 0) (a.eval S) b [y] v' w' b' B':=by
 subst hs
 have hce:P.cellsOf e=i.size:=by simp [Program.cellsOf,hi]
 rcases Xy (P:=P) (ty:=ty) ok hrep ht hi hz hne (by rw [hce];exact hsrc) (by simpa using hb) (by simpa using hm) with ⟨h,_⟩|⟨news,rest,hys,hall,hr,hge,hcm,hcs,hrun⟩
 ·cases h
 ·have hnl:news.length=[y].length*i.size:=by rw [repCs_size _ _ hr,sizes_all hall]
  refine ⟨_,_,_,_,Zsm ok hb0 hF hrun hcs hge hcm hall ?_⟩
  rw [←hnl]
  simp only [Array.toList_append,List.take_left']
  exact hr
theorem Zu6 {P:Program} {σ:Sg} {kt:TypeId} {k:Pl} {F:List MapEntry→Nat→Option (Nat×Value)→Prop} (hF:Finder P σ kt k F):∀(ks:List Pl) (es:List MapEntry) (i:Nat),
 (∀(j:Nat) key en,ks[j]? =some key→es[j]? =some en→repDV σ (.p key) en.key∧fitP P 20 kt key)→ks.length=es.length→
 (∀q,ks[q]? =some k→(∀j,j < q→ks[j]? ≠some k)→∃en,es[q]? =some en∧F es i (some (i+q,en.val)))∧((∀j:Nat,ks[j]? ≠some k)→F es i none)
 |[],[],i,_,_=>⟨fun q h _=>by simp at h,fun _=>hF.nil i⟩
 |[],_::_,_,_,h=>by simp at h
 |_::_,[],_,_,h=>by simp at h
 |x::ks,e::es,i,hr,hl=>by
  obtain ⟨r1,r2⟩:=hr 0 x e rfl rfl
  obtain ⟨a1,a2⟩:=Zu6 hF ks es (i+1) (fun j key en h1 h2=>hr (j+1) key en h1 h2) (by simpa using hl)
  refine ⟨fun q hq hb=> ?_,fun hn=> ?_⟩
  ·cases q with
   |zero=>
    have hk:x=k:=by simpa using hq
    exact ⟨e,rfl,hF.eq e es i x r2 r1 hk.symm⟩
   |succ q=>
    have hne:k≠x:=fun h=>hb 0 (Nat.zero_lt_succ q) (by rw [h];rfl)
    obtain ⟨en,b1,b2⟩:=a1 q (by simpa using hq) (fun j hj=>by have:=hb (j+1) (Nat.succ_lt_succ hj);simpa using this)
    exact ⟨en,b1,by have:=hF.ne e es i x _ r2 r1 hne b2;rwa [show i+1+q=i+(q+1) by omega] at this⟩
  ·have hne:k≠x:=fun h=>hn 0 (by rw [h];rfl)
   exact hF.ne e es i x _ r2 r1 hne (a2 fun j=>by have:=hn (j+1);simpa using this)
theorem Zu7 {σ:Sg} (ok:Ok σ) {b0:Nat} {es es':Array MapEntry} {clock clock':Nat} (hb:σ.w.heap[b0]? =some (.map es clock)) (un:∀id:Nat,σ.m[id]? ≠some (some b0)):
 Leaf σ { σ with w:={ σ.w with heap:=σ.w.heap.setIfInBounds b0 (.map es' clock')}}∧Ok { σ with w:={ σ.w with heap:=σ.w.heap.setIfInBounds b0 (.map es' clock')}}:=by
 obtain ⟨g1,g2⟩:=Go.MapKept.heap_set (w:=σ.w) (o':=.map es' clock') hb
 have hm:∀id b:Nat,σ.m[id]? =some (some b)→(σ.w.heap.setIfInBounds b0 (.map es' clock'))[b]? =σ.w.heap[b]? :=fun id b h=>g2 b (fun q=>by subst q;exact un id h)
 have leaf:Leaf σ { σ with w:={ σ.w with heap:=σ.w.heap.setIfInBounds b0 (.map es' clock')},B:=σ.B}:=Znc (fun b o v h1 h2=>⟨g2 b (fun q=>by
  subst q
  simp [World.cell?,hb] at h1),fun h=>h⟩) hm
 exact ⟨leaf,ZtW ok leaf hm (by simp) (fun b h=>ok.new b (by simpa using h)) ok.own⟩
inductive GPut (gs:List (Pl×List Pl×Nat)) (k p:Pl) (b':Nat):List (Pl×List Pl×Nat)→Prop where
 |old (q:Nat) (xs:List Pl) (b:Nat) (h:gs[q]? =some (k,xs,b)) (hn:∀j g,j < q→gs[j]? =some g→g.1≠k):GPut gs k p b' (gs.set q (k,xs++[p],b'))
 |new (hn:∀(j:Nat) g,gs[j]? =some g→g.1≠k):GPut gs k p b' (gs++[(k,[p],b')])
theorem Zpc (k:Pl):∀(gs:List (Pl×List Pl×Nat)),(∃(q:Nat) (xs:List Pl) (b:Nat),gs[q]? =some (k,xs,b)∧∀(j:Nat) (g:Pl×List Pl×Nat),j < q→gs[j]? =some g→g.1≠k)∨∀(j:Nat) (g:Pl×List Pl×Nat),gs[j]? =some g→g.1≠k
 |[]=>.inr fun j g h=>by simp at h
 |x::r=>by
  by_cases hx:x.1=k
  ·exact .inl ⟨0,x.2.1,x.2.2,by rw [←hx];rfl,fun j g h=>absurd h (Nat.not_lt_zero j)⟩
  ·rcases Zpc k r with ⟨q,xs,b,h1,h2⟩|h
   ·refine .inl ⟨q+1,xs,b,by simpa using h1,fun j g hj hg=> ?_⟩
    cases j with
    |zero=>cases hg;exact hx
    |succ j=>exact h2 j g (Nat.lt_of_succ_lt_succ hj) (by simpa using hg)
   ·refine .inr fun j g hg=> ?_
    cases j with
    |zero=>cases hg;exact hx
    |succ j=>exact h j g (by simpa using hg)
theorem Zwn {es:Array MapEntry} {q:Nat} {en:MapEntry} (h:es[q]? =some en) (hb:∀(q':Nat) en',es[q']? =some en'→en'.born=en.born→q'=q):
 (es.findIdx? fun e=>(e.born:Int)==(en.born:Int))=some q:=by
 have hlt:q < es.size:=(Array.getElem?_eq_some_iff.1 h).1
 rw [Array.findIdx?_eq_some_iff_getElem]
 refine ⟨hlt, ?_,fun j hj=> ?_⟩
 ·rw [(Array.getElem?_eq_some_iff.1 h).2]
  simp
 ·have hj2:j < es.size:=by omega
  have h2:es[j]? =some es[j]:=Array.getElem?_eq_getElem hj2
  simp only [beq_iff_eq]
  intro he
  have:=hb j es[j] h2 (by exact_mod_cast he)
  omega
section
variable {P:Program} {a:Act} {σ:Sg} {ts:List Dv}
theorem Zwo {ops:Array Oper} {Q:Exit→Act→World→Prop} {p t0 t1 t2 t3 tm:Nat} {o1 o2 o3 o4 o5:Oper} (g1:ops[p]? =some o1) (g2:ops[p+1]? =some o2) (g3:ops[p+2]? =some o3) (g4:ops[p+3]? =some o4) (g5:ops[p+4]? =some o5)
 (n1:o1.guard=none) (n2:o2.guard=none) (n3:o3.guard=none) (n4:o4.guard=none) (n5:o5.guard=none) {t tt u t5 kt et e:TypeId} {k y:Operand} {c:Call}
 (h1:o1.op=.mapEntry t (.tmp tm) k) (d1:o1.dst=some t0) (h2:o2.op=.extract (.tmp t0) 0) (d2:o2.dst=some t1) (h3:o3.op=.call c) (hc:c.callee=.builtin .append) (ha:c.args.toList=[.tmp t1,y]) (hty:c.argTypes.toList=[tt,u]) (d3:o3.dst=some t2)
 (h4:o4.op=.extract (.tmp t0) 1) (d4:o4.dst=some t3) (h5:o5.op=.entryStore t5 (.tmp tm) (.tmp t3) (.tmp t2)) (d5:o5.dst=none) (q01:t0≠t1) (q02:t0≠t2) (q23:t2≠t3) (m0:tm≠t0) (m1:tm≠t1) (m2:tm≠t2) (m3:tm≠t3) (l0:t0 < ts.length) (l1:t1 < ts.length) (l2:t2 < ts.length) (l3:t3 < ts.length)
 (ok:Ok σ) (hrep:RepT σ ts a) {N b0 s:Nat} {gs:List (Pl×List Pl×Nat)} {es:Array MapEntry} {clock:Nat} (hmr:MR N b0 s e σ gs es clock) (hraw:a.eval (.tmp tm)=.map (some b0)) {kk pp:Pl} {s0:Nat} {i:TypeInfo} (hu:P.underlying t=some (.map kt et)) (hk:argD P ts kt k=.p kk)
 (hkt:keyTy P kt=true) (hfit:fitP P 20 kt kk) (hfits:∀(j:Nat) g,gs[j]? =some g→fitP P 20 kt g.1) (hzt:hasZero P et=true) (hzd:zeroD P et=.p (.sl (some false) s0 [])) (htt:P.underlying tt=some (.slice e)) (hi:P.info? e=some i) (hz:zOk i=true) (hne:i.size≠0) (hs:i.size=s)
 (hsrc:srcOf P (P.cellsOf e) u (argD P ((ts.set t0 .junk).set t1 .junk) u y)=some [pp]) (hbd:∀(j:Nat) g,gs[j]? =some g→(g.2.1.length+1)*i.bytes≤bytesBound∧g.2.1.length+1≤maxLen) (hb1:1*i.bytes≤bytesBound)
 (hQ:∀a' σ' gs' es' clock' b',GPut gs kk pp b' gs'→MR N b0 s e σ' gs' es' clock'→σ'.H=σ.H→σ'.m=σ.m→Md N b0 σ σ'→Ok σ'→RepT σ' ((((ts.set t0 .junk).set t1 .junk).set t2 .junk).set t3 .junk) a'→(∀x,x≠t0→x≠t1→x≠t2→x≠t3→a'.eval (.tmp x)=a.eval (.tmp x))→Q .normal a' σ'.w):wpOps P ops Q [p,p+1,p+2,p+3,p+4] a σ.w:=by
 have hkv:=Zk (P:=P) hrep kt k
 rw [hk] at hkv
 have hb0:=hmr.heap
 obtain ⟨F,hF,hrunF⟩:=QV (P:=P) hkt hfit hkv
 have hchk:=XD (em:=false) 20 kt kk _ hfit hkv 9980
 have hesl:es.toList.length=gs.length:=by rw [Array.length_toList];exact hmr.len
 obtain ⟨fi1,fi2⟩:=Zu6 hF (gs.map (·.1)) es.toList 0 (fun j key en k1 k2=>by
  rw [List.getElem?_map] at k1
  cases hg:gs[j]? with
  |none=>rw [hg] at k1;cases k1
  |some g=>
   rw [hg] at k1
   cases k1
   exact ⟨(hmr.ent j g en hg (by rw [←Array.getElem?_toList];exact k2)).1,hfits j g hg⟩) (by rw [List.length_map,hesl])
 obtain ⟨zv,hzv,hzr⟩:∃z,(zeroValue et).run P σ.w=.ok z σ.w∧repDV σ (zeroD P et) z:=by
  unfold hasZero at hzt
  split at hzt
  ·rename_i i hi
   cases hzz:i.zero with
   |none=>simp [hzz] at hzt
   |some z=>
    refine ⟨z,by simp [zeroValue,typeInfo,hi,hzz], ?_⟩
    unfold zeroD
    rw [hi]
    simp only [hzz]
    exact WO
  ·cases hzt
 rw [hzd] at hzr
 have hzn:=ZiC hzr
 subst hzn
 have step1:∃(es1:Array MapEntry) (clock1 q:Nat) (en1:MapEntry) (v:Value) (ys:List Pl) (b:Nat),(Instr.mapEntry t (a.eval (.tmp tm)) (a.eval k)).run P σ.w=.ok (.tuple #[v,goInt en1.born]) { σ.w with heap:=σ.w.heap.setIfInBounds b0 (.map es1 clock1)}∧
  es1[q]? =some en1∧repDV σ (.p kk) en1.key∧en1.born < clock1∧clock≤clock1∧(∀j,j≠q→es1[j]? =es[j]?)∧(∀q' en',es1[q']? =some en'→en'.born=en1.born→q'=q)∧
  ((∃xs,ys=xs++[pp]∧gs[q]? =some (kk,xs,b)∧(∀j g,j < q→gs[j]? =some g→g.1≠kk)∧RowIn σ s e xs v b∧Pv b0 σ b∧N≤b∧es1.size=es.size)∨(ys=[pp]∧v=.slice none 0 0∧(∀(j:Nat) g,gs[j]? =some g→g.1≠kk)∧q=es.size∧es1.size=es.size+1)):=by
  rcases Zpc kk gs with ⟨q,xs,b,e1,e2⟩|e1
  ·obtain ⟨en,f1,f2⟩:=fi1 q (by rw [List.getElem?_map,e1];rfl) (fun j hj h=>by
    rw [List.getElem?_map] at h
    cases hg:gs[j]? with
    |none=>rw [hg] at h;cases h
    |some g=>rw [hg] at h;exact e2 j g hj hg (Option.some.inj h))
   rw [Nat.zero_add] at f2
   have g5:=hrunF _ _ f2
   have f1':es[q]? =some en:=by rw [←Array.getElem?_toList];exact f1
   obtain ⟨r1,r2,r3,r4,r5⟩:=hmr.ent q _ en e1 f1'
   have hsame:en.key=a.eval k:=ZhW (ZbJ 20 kt kk hfit) r1 hkv
   have hbits:Instr.sameBits 10000 en.key (a.eval k)=true:=by
    rw [hsame]
    exact Zoz (ZbJ 20 kt kk hfit) hkv
   have hes:(es.modify q fun e=>{ e with key:=a.eval k})=es:=by
    apply Array.ext_getElem?
    intro j
    rw [Array.getElem?_modify]
    by_cases hj:q=j
    ·subst hj
     rw [if_pos rfl,f1']
     simp only [Option.map_some, ←hsame]
    ·rw [if_neg hj]
   refine ⟨es,clock,q,en,en.val,xs++[pp],b, ?_,f1',r1,r3,Nat.le_refl _,fun _ _=>rfl,fun q' en' h h'=>hmr.born q' q en' en h f1' h',.inl ⟨xs,rfl,e1,e2,r2,r4,r5,rfl⟩⟩
   rw [hraw]
   simp only [Instr.mapEntry,Sem.run_bind,run_underlying hu,Result.andThen_ok,YX hb0,hchk,g5,Instr.keyThatStays,f1',Option.map_some,Option.getD_some,hbits,if_true,Sem.run_pure,hes,Go.MapKept.run_setObj_map _ hb0]
  ·have g5:=hrunF _ _ (fi2 fun j h=>by
    rw [List.getElem?_map] at h
    cases hg:gs[j]? with
    |none=>rw [hg] at h;cases h
    |some g=>rw [hg] at h;exact e1 j g hg (Option.some.inj h))
   have hlast:(es.push { key:=a.eval k,val:=.slice none 0 0,born:=clock})[es.size]? =some { key:=a.eval k,val:=.slice none 0 0,born:=clock}:=by simp
   have hold:∀j,j≠es.size→(es.push { key:=a.eval k,val:=.slice none 0 0,born:=clock})[j]? =es[j]? :=fun j hj=>by
    rw [Array.getElem?_push,if_neg hj]
   refine ⟨es.push { key:=a.eval k,val:=.slice none 0 0,born:=clock},clock+1,es.size,_,.slice none 0 0,[pp],0, ?_,hlast,hkv,Nat.lt_succ_self _,Nat.le_succ _,hold,fun q' en' h h'=> ?_,.inr ⟨rfl,rfl,e1,rfl,by simp⟩⟩
   ·rw [hraw]
    simp only [Instr.mapEntry,Sem.run_bind,run_underlying hu,Result.andThen_ok,YX hb0,hchk,g5,hzv,Sem.run_pure,Go.MapKept.run_setObj_map _ hb0]
   ·by_cases hj:q'=es.size
    ·exact hj
    ·rw [hold q' hj] at h
     have hlt:q' < gs.length:=by rw [←hmr.len];exact (Array.getElem?_eq_some_iff.1 h).1
     have:=(hmr.ent q' _ en' (List.getElem?_eq_getElem hlt) h).2.2.1
     simp only at h'
     omega
 obtain ⟨es1,clock1,q,en1,v,ys,b,run1,e1q,e1k,e1c,e1cc,e1o,e1b,e1⟩:=step1
 obtain ⟨leaf1,ok1⟩:=Zu7 (es':=es1) (clock':=clock1) ok hb0 hmr.un
 obtain ⟨w1a,w1b⟩:=Go.MapKept.heap_set (w:=σ.w) (o':=.map es1 clock1) hb0
 let σ1:Sg:={ σ with w:={ σ.w with heap:=σ.w.heap.setIfInBounds b0 (.map es1 clock1)}}
 have leaf1:Leaf σ σ1:=leaf1
 have ok1:Ok σ1:=ok1
 have w1a:σ1.w.heap[b0]? =some (.map es1 clock1):=w1a
 have w1b:∀x,x≠b0→σ1.w.heap[x]? =σ.w.heap[x]? :=w1b
 have sz1:σ1.w.heap.size=σ.w.heap.size:=by show (σ.w.heap.setIfInBounds b0 (.map es1 clock1)).size=_;simp
 have x1:(execOp a.eval o1).run P σ.w=.ok (.value (.tuple #[v,goInt en1.born])) σ1.w:=by simp [execOp,h1,run1];rfl
 refine XF g1 n1 x1 ?_
 rw [d1]
 have r1:RepT σ1 (ts.set t0 .junk) (a.put (some t0) (.tuple #[v,goInt en1.born])):=Vk (hrep.to leaf1)
 have k1:(a.put (some t0) (.tuple #[v,goInt en1.born])).eval (.tmp tm)=.map (some b0):=by rw [ZX m0];exact hraw
 generalize ha1:a.put (some t0) (.tuple #[v,goInt en1.born])=a1 at r1 k1 ⊢
 have ht0:t0 < a.tmps.size:=by rw [hrep.size];exact l0
 have v1:a1.eval (.tmp t0)=.tuple #[v,goInt en1.born]:=by rw [←ha1];exact Ql ht0
 have x2:(execOp a1.eval o2).run P σ1.w=.ok (.value v) σ1.w:=by
  have:(Instr.extract (a1.eval (.tmp t0)) 0).run P σ1.w=.ok v σ1.w:=by rw [v1];simp [Instr.extract]
  simp [execOp,h2,this]
 refine XF g2 n2 x2 ?_
 rw [d2]
 have r2:RepT σ1 ((ts.set t0 .junk).set t1 .junk) (a1.put (some t1) v):=Vk r1
 have k2:(a1.put (some t1) v).eval (.tmp tm)=.map (some b0):=by rw [ZX m1];exact k1
 have s1:t1 < a1.tmps.size:=by rw [r1.size,List.length_set];exact l1
 generalize ha2:a1.put (some t1) v=a2 at r2 k2 ⊢
 have v2:a2.eval (.tmp t1)=v:=by rw [←ha2];exact Ql s1
 have v20:a2.eval (.tmp t0)=.tuple #[v,goInt en1.born]:=by rw [←ha2,ZX q01];exact v1
 have hce:P.cellsOf e=i.size:=by simp [Program.cellsOf,hi]
 have hF1:∀o,¬σ1.F σ1.w.heap.size o:=fun o h=>by
  have h1:=hmr.F _ _ h
  have h2:=hmr.ge
  omega
 have hb1lt:b0 < σ1.w.heap.size:=Zi6 w1a
 have hso:ZiB P σ1 s u (a2.eval y) [pp]:=by
  have:=WQ (P:=P) r2 hsrc
  rw [hce,hs] at this
  exact this
 have step3:∃v' w' b' B' bb,More P b0 s e tt u o3.type σ1 v (a2.eval y) bb ys v' w' b' B'∧bb≠b0∧(∀j g,j≠q→gs[j]? =some g→g.2.2≠bb)∧(N≤bb):=by
  rcases e1 with ⟨xs,rfl,f1,f2,f3,f4,f5,f6⟩|⟨rfl,rfl,f2,f3,f4⟩
  ·have hbb:=hbd q _ f1
   obtain ⟨v',w',b',B',hm⟩:=Zyr (P:=P) (u:=u) (ty:=o3.type) (S:=a2.eval y) (y:=pp) ok1 hb1lt hF1 htt hi hz hs (f3.leaf leaf1 (w1b _ f4.ne)) ⟨f4.B,f4.F,by show b < σ1.w.heap.size;rw [sz1];exact f4.lt,f4.un,f4.ne⟩ hso hbb.1 hbb.2
   exact ⟨v',w',b',B',b,hm,f4.ne,fun j g hj hg h=>hj (hmr.dist j q g _ hg f1 h),f5⟩
  ·obtain ⟨v',w',b',B',hm⟩:=Zys (P:=P) (u:=u) (ty:=o3.type) (S:=y) (y:=pp) (b:=σ1.w.heap.size) ok1 r2 hb1lt hF1 htt hi hz hs hne hso hb1 (by simp [maxLen])
   refine ⟨v',w',b',B',_,hm,by omega,fun j g hj hg h=> ?_,by rw [sz1];exact hmr.ge⟩
   have hlt:j < es.size:=by rw [hmr.len];exact (List.getElem?_eq_some_iff.1 hg).1
   have:=(hmr.ent j g _ hg (Array.getElem?_eq_getElem hlt)).2.2.2.1.lt
   rw [sz1] at h
   omega
 obtain ⟨v3,w3,b3,B3,bb,hm,hbb0,hbbo,hbbN⟩:=step3
 let σ3:Sg:={ σ1 with w:=w3,B:=B3}
 have x3:(execOp a2.eval o3).run P σ1.w=.ok (.value v3) σ3.w:=ZN (σ:=σ1) (w':=w3) h3 hc ha hty (by rw [v2];exact hm.run)
 refine XF g3 n3 x3 ?_
 rw [d3]
 have r3:RepT σ3 (((ts.set t0 .junk).set t1 .junk).set t2 .junk) (a2.put (some t2) v3):=Vk (r2.to hm.leaf)
 have k3:(a2.put (some t2) v3).eval (.tmp tm)=.map (some b0):=by rw [ZX m2];exact k2
 have s2:t2 < a2.tmps.size:=by rw [r2.size,List.length_set,List.length_set];exact l2
 generalize ha3:a2.put (some t2) v3=a3 at r3 k3 ⊢
 have v30:a3.eval (.tmp t0)=.tuple #[v,goInt en1.born]:=by rw [←ha3,ZX q02];exact v20
 have v32:a3.eval (.tmp t2)=v3:=by rw [←ha3];exact Ql s2
 have x4:(execOp a3.eval o4).run P σ3.w=.ok (.value (goInt en1.born)) σ3.w:=by
  have:(Instr.extract (a3.eval (.tmp t0)) 1).run P σ3.w=.ok (goInt en1.born) σ3.w:=by rw [v30];simp [Instr.extract]
  simp [execOp,h4,this]
 refine XF g4 n4 x4 ?_
 rw [d4]
 have r4:RepT σ3 ((((ts.set t0 .junk).set t1 .junk).set t2 .junk).set t3 .junk) (a3.put (some t3) (goInt en1.born)):=Vk r3
 have k4:(a3.put (some t3) (goInt en1.born)).eval (.tmp tm)=.map (some b0):=by rw [ZX m3];exact k3
 have s3:t3 < a3.tmps.size:=by rw [r3.size,List.length_set,List.length_set,List.length_set];exact l3
 generalize ha4:a3.put (some t3) (goInt en1.born)=a4 at r4 k4 ⊢
 have v43:a4.eval (.tmp t3)=goInt en1.born:=by rw [←ha4];exact Ql s3
 have v42:a4.eval (.tmp t2)=v3:=by rw [←ha4,ZX q23];exact v32
 have w3a:σ3.w.heap[b0]? =some (.map es1 clock1):=(hm.other b0 (Ne.symm hbb0) hb1lt).trans w1a
 have hfi:=Zwn e1q e1b
 let en5:MapEntry:={ en1 with val:=v3}
 let es5:Array MapEntry:=es1.modify q fun e=>{ e with val:=v3}
 obtain ⟨leaf5,ok5⟩:=Zu7 (es':=es5) (clock':=clock1) (σ:=σ3) hm.ok w3a hmr.un
 obtain ⟨w5a,w5b⟩:=Go.MapKept.heap_set (w:=σ3.w) (o':=.map es5 clock1) w3a
 let σ5:Sg:={ σ3 with w:={ σ3.w with heap:=σ3.w.heap.setIfInBounds b0 (.map es5 clock1)}}
 have leaf5:Leaf σ3 σ5:=leaf5
 have ok5:Ok σ5:=ok5
 have w5b:∀x,x≠b0→σ5.w.heap[x]? =σ3.w.heap[x]? :=w5b
 have sz5:σ5.w.heap.size=σ3.w.heap.size:=by show (σ3.w.heap.setIfInBounds b0 (.map es5 clock1)).size=_;simp
 have x5:(execOp a4.eval o5).run P σ3.w=.ok .skip σ5.w:=by
  have:(Instr.entryStore t5 (a4.eval (.tmp tm)) (a4.eval (.tmp t3)) (a4.eval (.tmp t2))).run P σ3.w=.ok () σ5.w:=by
   rw [k4,v43,v42]
   simp only [Instr.entryStore,goInt,asInt,asIntOf,Sem.run_bind,YX w3a,Result.andThen_ok,Sem.run_pure,hfi,Go.MapKept.run_setObj_map _ w3a]
   rfl
  simp [execOp,h5,this]
 refine Zm1 g5 n5 x5 ?_
 rw [d5]
 have hle3:σ1.w.heap.size≤σ3.w.heap.size:=hm.size
 have es5q:es5[q]? =some en5:=by
  show (es1.modify q _)[q]? =_
  rw [Array.getElem?_modify,if_pos rfl,e1q]
  rfl
 have es5o:∀j,j≠q→es5[j]? =es1[j]? :=fun j hj=>by
  show (es1.modify q _)[j]? =_
  rw [Array.getElem?_modify,if_neg (Ne.symm hj)]
 have hl5:es5.size=es1.size:=by show (es1.modify q _).size=_;simp
 have hrow5:RowIn σ5 s e ys v3 b3:=hm.row.leaf leaf5 (w5b _ hm.pv.ne)
 have hpv5:Pv b0 σ5 b3:=⟨hm.pv.B,hm.pv.F,by rw [sz5];exact hm.pv.lt,hm.pv.un,hm.pv.ne⟩
 have leaf15:Leaf σ σ5:=(leaf1.trans hm.leaf).trans leaf5
 have hb3N:N≤b3:=by
  rcases hm.blk with h|h
  ·rw [h];exact hbbN
  ·rw [sz1] at h
   exact Nat.le_trans hmr.ge h
 have hmd:Md N b0 σ σ5:=by
  refine ⟨leaf15,fun x o h=>h,fun x h=>hm.B x h, ?_, ?_, ?_, ?_,fun x h1 h2 _=> ?_,fun id x h=>.inl h⟩
  ·exact hm.os
  ·exact hm.tape
  ·exact hm.output
  ·rw [sz5]
   exact Nat.le_trans (Nat.le_of_eq sz1.symm) hle3
  ·rw [w5b x h2,hm.other x (by omega) (by rw [sz1];exact Nat.lt_of_lt_of_le h1 hmr.ge),w1b x h2]
 have hoth:∀(j:Nat) g en,j≠q→gs[j]? =some g→es[j]? =some en→repDV σ5 (.p g.1) en.key∧RowIn σ5 s e g.2.1 en.val g.2.2∧en.born < clock1∧Pv b0 σ5 g.2.2∧N≤g.2.2∧g.2.2≠b3:=by
  intro j g en hj hg he
  obtain ⟨a1,a2,a3,a4,a5⟩:=hmr.ent j g en hg he
  have hne:=hbbo j g hj hg
  have hlt:g.2.2 < σ1.w.heap.size:=by rw [sz1];exact a4.lt
  have hh:σ5.w.heap[g.2.2]? =σ.w.heap[g.2.2]? :=by rw [w5b _ a4.ne,hm.other _ hne hlt,w1b _ a4.ne]
  refine ⟨Yy leaf15 a1,a2.leaf leaf15 hh,Nat.lt_of_lt_of_le a3 e1cc,⟨fun h=>a4.B (hm.B _ h),a4.F,by rw [sz5];exact Nat.lt_of_lt_of_le hlt hle3,a4.un,a4.ne⟩,a5,fun h=> ?_⟩
  rcases hm.blk with r|r
  ·exact hne (h.trans r)
  ·omega
 have hge5:N≤σ5.w.heap.size:=by rw [sz5];exact Nat.le_trans (by rw [sz1];exact hmr.ge) hle3
 have hborn5:∀(j j':Nat) x x',es5[j]? =some x→es5[j']? =some x'→x.born=x'.born→j=j':=by
  intro j j' x x' hx hx' hb
  by_cases hj:j=q
  ·subst hj
   rw [es5q] at hx
   cases hx
   by_cases hj':j'=j
   ·exact hj'.symm
   ·rw [es5o j' hj'] at hx'
    exact (e1b j' x' hx' hb.symm).symm
  ·rw [es5o j hj] at hx
   by_cases hj':j'=q
   ·subst hj'
    rw [es5q] at hx'
    cases hx'
    exact e1b j x hx hb
   ·rw [es5o j' hj',e1o j' hj'] at hx'
    rw [e1o j hj] at hx
    exact hmr.born j j' x x' hx hx' hb
 have e5k:repDV σ5 (.p kk) en5.key:=Yy leaf15 e1k
 have kept:∀x,x≠t0→x≠t1→x≠t2→x≠t3→a4.eval (.tmp x)=a.eval (.tmp x):=fun x z0 z1 z2 z3=>by rw [←ha4,ZX z3, ←ha3,ZX z2, ←ha2,ZX z1, ←ha1,ZX z0]
 rcases e1 with ⟨xs,rfl,f1,f2,f3,f4,f5,f6⟩|⟨rfl,rfl,f2,f3,f4⟩
 ·have hql:q < gs.length:=(List.getElem?_eq_some_iff.1 f1).1
  refine hQ a4 σ5 (gs.set q (kk,xs++[pp],b3)) es5 clock1 b3 (.old q xs b f1 f2) ⟨hge5,hmr.F,w5a,hmr.un,by rw [hl5,f6,List.length_set];exact hmr.len,fun j g en hg he=> ?_,hborn5,fun j j' g g' hg hg' hb=> ?_⟩ rfl rfl hmd ok5 (r4.to leaf5) kept
  ·by_cases hj:j=q
   ·subst hj
    rw [es5q] at he
    cases he
    rw [List.getElem?_set_self hql] at hg
    cases hg
    exact ⟨e5k,hrow5,e1c,hpv5,hb3N⟩
   ·rw [es5o j hj,e1o j hj] at he
    rw [List.getElem?_set_ne (Ne.symm hj)] at hg
    obtain ⟨z1,z2,z3,z4,z5,_⟩:=hoth j g en hj hg he
    exact ⟨z1,z2,z3,z4,z5⟩
  ·have key:∀(j:Nat) g,j≠q→gs[j]? =some g→g.2.2≠b3:=fun j g hj hg=>by
    have hlt:j < es.size:=by rw [hmr.len];exact (List.getElem?_eq_some_iff.1 hg).1
    exact (hoth j g _ hj hg (Array.getElem?_eq_getElem hlt)).2.2.2.2.2
   by_cases hj:j=q
   ·subst hj
    rw [List.getElem?_set_self hql] at hg
    cases hg
    by_cases hj':j'=j
    ·exact hj'.symm
    ·rw [List.getElem?_set_ne (Ne.symm hj')] at hg'
     exact absurd hb.symm (key j' g' hj' hg')
   ·rw [List.getElem?_set_ne (Ne.symm hj)] at hg
    by_cases hj':j'=q
    ·subst hj'
     rw [List.getElem?_set_self hql] at hg'
     cases hg'
     exact absurd hb (key j g hj hg)
    ·rw [List.getElem?_set_ne (Ne.symm hj')] at hg'
     exact hmr.dist j j' g g' hg hg' hb
 ·have hqg:q=gs.length:=by rw [f3,hmr.len]
  refine hQ a4 σ5 (gs++[(kk,[pp],b3)]) es5 clock1 b3 (.new f2) ⟨hge5,hmr.F,w5a,hmr.un,by rw [hl5,f4,List.length_append,hmr.len];rfl,fun j g en hg he=> ?_,hborn5,fun j j' g g' hg hg' hb=> ?_⟩ rfl rfl hmd ok5 (r4.to leaf5) kept
  ·by_cases hj:j=q
   ·subst hj
    rw [es5q] at he
    cases he
    rw [hqg,List.getElem?_concat_length] at hg
    cases hg
    exact ⟨e5k,hrow5,e1c,hpv5,hb3N⟩
   ·rw [es5o j hj,e1o j hj] at he
    have hlt:j < gs.length:=by rw [←hmr.len];exact (Array.getElem?_eq_some_iff.1 he).1
    rw [List.getElem?_append_left hlt] at hg
    obtain ⟨z1,z2,z3,z4,z5,_⟩:=hoth j g en hj hg he
    exact ⟨z1,z2,z3,z4,z5⟩
  ·have key:∀(j:Nat) g,j < gs.length→gs[j]? =some g→g.2.2≠b3:=fun j g hj hg=>by
    have hlt:j < es.size:=by rw [hmr.len];exact hj
    exact (hoth j g _ (by omega) hg (Array.getElem?_eq_getElem hlt)).2.2.2.2.2
   have cs:∀(j:Nat) g,(gs++[(kk,[pp],b3)])[j]? =some g→(j < gs.length∧gs[j]? =some g)∨(j=gs.length∧g.2.2=b3):=fun j g hg=>by
    rcases Nat.lt_trichotomy j gs.length with h|h|h
    ·rw [List.getElem?_append_left h] at hg
     exact .inl ⟨h,hg⟩
    ·subst h
     rw [List.getElem?_concat_length] at hg
     cases hg
     exact .inr ⟨rfl,rfl⟩
    ·rw [List.getElem?_eq_none (by simp;omega)] at hg
     cases hg
   rcases cs j g hg with ⟨c1,c2⟩|⟨c1,c2⟩
   ·rcases cs j' g' hg' with ⟨c3,c4⟩|⟨c3,c4⟩
    ·exact hmr.dist j j' g g' c2 c4 hb
    ·exact absurd (hb.trans c4) (key j g c1 c2)
   ·rcases cs j' g' hg' with ⟨c3,c4⟩|⟨c3,c4⟩
    ·exact absurd (hb.symm.trans c2) (key j' g' c3 c4)
    ·rw [c1,c3]
end
theorem Zyt {a:Act} {d:Option Tmp} {v:Value} {t:Nat} (h:d≠some t):(a.put d v).eval (.tmp t)=a.eval (.tmp t):=by
 cases d with
 |none=>rfl
 |some s=>exact ZX (fun e=>h (by rw [e]))
theorem Zh8 {P:Program} {ops:Array Oper} (Q:Exit→Act→World→Prop) {ts':List Dv} (more:List Nat):∀(l:List Oper) (k:Nat) (ts:List Dv) (σ:Sg) (a:Act) (hs hs':List Hint) (C:List Prop) (H':List Ent),
 (∀(j:Nat) (x:Oper),l[j]? =some x→ops[k+j]? =some x)→Ok σ→RepT σ ts a→evOps P ops l ts σ.H hs=some (C,ts',H',hs')→AllP C→
 (∀a' σ',(∀t,(∀x,x∈l→x.dst≠some t)→a'.eval (.tmp t)=a.eval (.tmp t))→σ'.H=H'→To σ σ'→Ok σ'→RepT σ' ts' a'→wpOps P ops Q more a' σ'.w)→wpOps P ops Q (List.range' k l.length++more) a σ.w
 |[],k,ts,σ,a,hs,hs',C,H',_,ok,hrep,h,hc,hQ=>by
  simp only [evOps,Option.some.injEq,Prod.mk.injEq] at h
  obtain ⟨rfl,rfl,rfl,rfl⟩:=h
  exact hQ a σ (fun _ _=>rfl) rfl (To.refl σ) ok hrep
 |o::l,k,ts,σ,a,hs,hs',C,H',hl,ok,hrep,h,hc,hQ=>by
  simp only [evOps] at h
  split at h
  ·rename_i C1 d1 H1 hs1 h1
   split at h
   ·rename_i C2 ts2 H2 hs2 h2
    simp only [Option.some.injEq,Prod.mk.injEq] at h
    obtain ⟨rfl,rfl,rfl,rfl⟩:=h
    obtain ⟨c1,c2⟩:=Zh.1 hc
    have h0:ops[k]? =some o:=by simpa using hl 0 o rfl
    simp only [List.length_cons,List.range'_succ,List.cons_append,wpOps,h0]
    have key:=ZgO (P:=P) (ops:=ops) ok hrep h1 c1 (wpOps P ops Q (List.range' (k+1) l.length++more)) Q (fun v σ1 e1 to1 ok1 hrep1=>by
     subst e1
     exact Zh8 Q more l (k+1) _ σ1 _ hs1 _ C2 _ (fun j x hx=>by have:=hl (j+1) x (by simpa using hx);simpa [Nat.add_assoc,Nat.add_comm 1 j] using this) ok1 hrep1 h2 c2
      (fun a' σ' e0 e2 to2 ok2 hrep2=>hQ a' σ' (fun t hd=>(e0 t fun x hx=>hd x (List.mem_cons_of_mem _ hx)).trans (Zyt (hd o (List.mem_cons_self ..)))) e2 (to1.trans to2) ok2 hrep2))
    by_cases hw:Region.wanted o (yielded ops a.tmps)=true
    ·rw [if_pos hw] at key ⊢
     exact .inl key
    ·rw [if_neg hw] at key ⊢
     exact key
   ·cases h
  ·cases h
theorem ZcN {P:Program} {ops:Array Oper} {id t:Nat} {Q:Exit→Act→World→Prop} {ts ts':List Dv} {σ:Sg} {a:Act} {hs:List Hint} {C:List Prop} {H':List Ent} (hd:∀x,x∈ops.toList→x.dst≠some t) (ok:Ok σ) (hrep:RepT σ ts a)
 (h:evOps P ops ops.toList ts σ.H hs=some (C,ts',H',[])) (hc:AllP C) (hQ:∀a' σ',a'.eval (.tmp t)=a.eval (.tmp t)→σ'.H=H'→To σ σ'→Ok σ'→RepT σ' ts' a'→Q .normal a' σ'.w):(Code.region id ops false).wp P Q a σ.w:=by
 refine wp_region ?_
 have:=Zh8 (P:=P) (ops:=ops) Q [] ops.toList 0 ts σ a hs [] C H' (fun j x hx=>by simpa using hx) ok hrep h hc (fun a' σ' e0 e1 to ok' hr=>hQ a' σ' (e0 t hd) e1 to ok' hr)
 rw [List.range_eq_range']
 simpa using this
theorem Zsn (n:Nat):once (List.range n)=true:=by
 have key:∀(l:List Nat),l.Nodup→once l=true:=by
  intro l
  induction l with
  |nil=>intro _;rfl
  |cons x r ih=>
   intro h
   rw [List.nodup_cons] at h
   simp only [once,Bool.and_eq_true,Bool.not_eq_true',ih h.2,and_true]
   simpa using h.1
 exact key _ List.nodup_range
theorem Zz8 {N b0:Nat} {σ σ':Sg} (ok:Ok σ) (to:Md N b0 σ σ') (hlen:σ.m.length≤σ'.m.length) (hN:N≤σ.w.heap.size) {H:List Ent} (hin:subEnts σ'.H (List.range σ.H.length) (List.range σ.H.length)=some H):Md N b0 σ (Zdy σ' (List.range σ.H.length) H):=by
 have ho:once (List.range σ.H.length)=true:=Zsn _
 have hf:∀id,id < σ.H.length→toIds (List.range σ.H.length) id=some id:=fun id h=>idxOf?_of ho (List.getElem?_range h)
 have rn:=Zba hin
 refine ⟨⟨fun b o v h1 h2=> ?_,fun id b h1 h2=> ?_,fun id s len A c h1=> ?_,fun id b h1 h2=> ?_,fun id v s st e d h1=> ?_⟩,to.F,to.B,to.os,to.tape,to.output,to.size,fun b h1 h2 h3=>to.block b h1 h2 h3,fun id b h=> ?_⟩
 ·obtain ⟨h3,h4⟩:=to.leaf.cells b o v h1 h2
  exact ⟨h3,rn.stab b o v h3 h4⟩
 ·have hlt:id < σ.H.length:=by rw [←ok.len];exact (List.getElem?_eq_some_iff.1 h1).1
  obtain ⟨h3,h4⟩:=to.leaf.var id b h1 h2
  exact ⟨rn.m _ _ (hf id hlt) _ h3,rn.var (hf id hlt) h4⟩
 ·have hlt:id < σ.H.length:=by
   obtain ⟨e,ys,h2,_⟩:=h1
   exact (List.getElem?_eq_some_iff.1 h2).1
  exact rn.front (hf id hlt) (to.leaf.front _ _ _ _ _ h1)
 ·have hlt:id < σ.H.length:=by rw [←ok.len];exact (List.getElem?_eq_some_iff.1 h1).1
  obtain ⟨h3,h4⟩:=to.leaf.map id b h1 h2
  exact ⟨rn.m _ _ (hf id hlt) _ h3,rn.map (hf id hlt) h4⟩
 ·have hlt:id < σ.H.length:=(List.getElem?_eq_some_iff.1 h1).1
  obtain ⟨v',st',d',h5,h6,h7⟩:=to.leaf.row _ _ _ _ _ _ h1
  obtain ⟨d2,h8⟩:=rn.row (hf id hlt) h5
  refine ⟨v',st',d2,h8,h6,fun hv=> ?_⟩
  obtain ⟨h9,h10⟩:=h7 hv
  refine ⟨?_,h10⟩
  have hmm:∃x,σ.m[id]? =some x:=⟨_,List.getElem?_eq_getElem (by rw [ok.len];exact hlt)⟩
  obtain ⟨x,hx⟩:=hmm
  rw [hx]
  exact rn.m _ _ (hf id hlt) _ (by rw [h9];exact hx)
 ·obtain ⟨x,h1,h2⟩:=V0 h
  rcases to.same x b h2 with h3|h3
  ·have hlt:x < σ.H.length:=by rw [←ok.len];exact (List.getElem?_eq_some_iff.1 h3).1
   have:=idxOf?_of ho h1
   have h4:=hf x hlt
   unfold toIds at h4
   rw [this] at h4
   cases h4
   exact .inl h3
  ·exact .inr h3
theorem MR.part {N b0 s:Nat} {e:TypeId} {σ:Sg} {gs:List (Pl×List Pl×Nat)} {es:Array MapEntry} {clock:Nat} (h:MR N b0 s e σ gs es clock) {L:List Nat} {H:List Ent} (hin:subEnts σ.H L L=some H):MR N b0 s e (Zdy σ L H) gs es clock:=by
 have rn:=Zba hin
 have un:∀b,(∀id:Nat,σ.m[id]? ≠some (some b))→∀id:Nat,(Zdy σ L H).m[id]? ≠some (some b):=fun b hb id q=>by
  obtain ⟨x,_,h2⟩:=V0 q
  exact hb x h2
 refine ⟨h.ge,h.F,h.heap,un b0 h.un,h.len,fun q g en h1 h2=> ?_,h.born,h.dist⟩
 obtain ⟨a1,a2,a3,a4,a5⟩:=h.ent q g en h1 h2
 obtain ⟨c,cur,b1,b2,b3,b4,b5,b6,b7⟩:=a2
 exact ⟨ZbC rn rfl a1,⟨c,cur,b1,b2,b3,b4,b5,b6,repCs_mono rn.cells _ _ b7⟩,a3,⟨a4.B,a4.F,a4.lt,un _ a4.un,a4.ne⟩,a5⟩
inductive GS (key elt:Nat→Pl):Nat→List (Pl×List Pl×Nat)→Prop where
 |zero:GS key elt 0 []
 |succ {i b:Nat} {gs gs':List (Pl×List Pl×Nat)} (h:GS key elt i gs) (g:GPut gs (key i) (elt i) b gs'):GS key elt (i+1) gs'
theorem GS.bound {key elt:Nat→Pl} {i:Nat} {gs:List (Pl×List Pl×Nat)} (h:GS key elt i gs):∀(j:Nat) g,gs[j]? =some g→g.2.1.length≤i∧∃m,m < i∧g.1=key m:=by
 induction h with
 |zero=>intro j g hg;simp at hg
 |succ h k ih=>
  rename_i i b gs gs'
  intro j g hg
  cases k with
  |old q xs b2 h1 hn=>
   rw [List.getElem?_set] at hg
   split at hg
   ·split at hg
    ·cases hg
     have:=(ih q _ h1).1
     exact ⟨by simpa using this,i,Nat.lt_succ_self i,rfl⟩
    ·cases hg
   ·obtain ⟨a,m,b,c⟩:=ih j g hg
    exact ⟨by omega,m,by omega,c⟩
  |new hn=>
   rcases Nat.lt_trichotomy j gs.length with hj|hj|hj
   ·rw [List.getElem?_append_left hj] at hg
    obtain ⟨a,m,b,c⟩:=ih j g hg
    exact ⟨by omega,m,by omega,c⟩
   ·subst hj
    rw [List.getElem?_concat_length] at hg
    cases hg
    exact ⟨by simp,i,Nat.lt_succ_self i,rfl⟩
   ·rw [List.getElem?_eq_none (by simp;omega)] at hg
    cases hg
structure Gat (P:Program) (A B C D:Array Oper) (tc tm tq t0 t1 t2 t3:Nat) (x0:Nat) (T TA TB TC TD:Nat→List Dv) (HB:Nat→List Ent) (H1:List Ent) (keep:List Nat) (n s:Nat) (e:TypeId) (key elt:Nat→Pl):Prop where
 ha:∀i,i≤n→∃hs K,evOps P A A.toList (T i) H1 hs=some (K,TA i,H1,[])∧AllP K
 hc:∀i,i≤n→argD P (TA i) 0 (.tmp tc)=.p (.bool (decide (i < n)))
 hb:∀i,i < n→∃hs K,evOps P B B.toList (TA i) H1 hs=some (K,TB i,HB i,[])∧AllP K
 hc1:∀i,i < n→∃hs K,evOps P C ((C.toList.take 5).drop 1) ((TB i).set tq .junk) (HB i) hs=some (K,TC i,HB i,[])∧AllP K
 hd:∀i,i < n→∃hs K,evOps P D D.toList (((((TC i).set t0 .junk).set t1 .junk).set t2 .junk).set t3 .junk) (HB i) hs=some (K,TD i,HB i,[])∧AllP K
 drop:∀i,i < n→subEnts (HB i) (List.range H1.length) (List.range H1.length)=some H1∧Dv.rns (toIds (List.range H1.length)) (maskFrom keep 0 (TD i))=some (T (i+1))
 nw:∀x,x∈A.toList∨x∈B.toList∨x∈(C.toList.take 5).drop 1∨x∈D.toList→x.dst≠some tm
 nq:∀x,x∈(C.toList.take 5).drop 1→x.dst≠some tq
 mv:∃o0,C[0]? =some o0∧o0.guard=none∧o0.op=.move (.tmp tm)∧o0.dst=some tq
 lenB:∀i,i < n→tq < (TB i).length
 size:C.size=10
 len:∀i,i < n→t0 < (TC i).length∧t1 < (TC i).length∧t2 < (TC i).length∧t3 < (TC i).length
 ops:∃o1 o2 o3 o4 o5 t tt u t5 kt et k y c s0 i,C[5]? =some o1∧C[6]? =some o2∧C[7]? =some o3∧C[8]? =some o4∧C[9]? =some o5∧o1.guard=none∧o2.guard=none∧o3.guard=none∧o4.guard=none∧o5.guard=none∧
  o1.op=.mapEntry t (.tmp tq) k∧o1.dst=some t0∧o2.op=.extract (.tmp t0) 0∧o2.dst=some t1∧o3.op=.call c∧c.callee=.builtin .append∧c.args.toList=[.tmp t1,y]∧c.argTypes.toList=[tt,u]∧o3.dst=some t2∧
  o4.op=.extract (.tmp t0) 1∧o4.dst=some t3∧o5.op=.entryStore t5 (.tmp tq) (.tmp t3) (.tmp t2)∧o5.dst=none∧P.underlying t=some (.map kt et)∧keyTy P kt=true∧hasZero P et=true∧zeroD P et=.p (.sl (some false) s0 [])∧
  P.underlying tt=some (.slice e)∧P.info? e=some i∧zOk i=true∧i.size≠0∧i.size=s∧n*i.bytes≤bytesBound∧n≤maxLen∧(∀j,j < n→argD P (TC j) kt k=.p (key j))∧(∀j,j < n→fitP P 20 kt (key j))∧
  ∀j,j < n→srcOf P (P.cellsOf e) u (argD P (((TC j).set t0 .junk).set t1 .junk) u y)=some [elt j]
 ne:t0≠t1∧t0≠t2∧t2≠t3∧tm≠t0∧tm≠t1∧tm≠t2∧tm≠t3∧tq≠t0∧tq≠t1∧tq≠t2∧tq≠t3∧tm≠tq
def Qo (rA rB rC rD x0 x1:Nat) (A B C D:Array Oper) (tc:Nat):Code:=
 .seq (.region rA A false) (.seq (.cond (.tmp tc) .skip (.exit x0)) (.seq (.block x1 (.seq (.region rB B false) (.region rC C false))) (.region rD D false)))
theorem ZqG {P:Program} {A B C D:Array Oper} {tc tm tq t0 t1 t2 t3 x0:Nat} {T TA TB TC TD:Nat→List Dv} {HB:Nat→List Ent} {H1:List Ent} {keep:List Nat} {n s:Nat} {e:TypeId} {key elt:Nat→Pl}
 (G:Gat P A B C D tc tm tq t0 t1 t2 t3 x0 T TA TB TC TD HB H1 keep n s e key elt) (rA rB rC rD x1:Nat) {N b0 i:Nat} (hi:i < n) {gs:List (Pl×List Pl×Nat)} {es:Array MapEntry} {clock:Nat} {σ:Sg} {a:Act} (hgs:GS key elt i gs) (ok:Ok σ) (hH:σ.H=H1) (hrep:RepT σ (T i) a)
 (hmr:MR N b0 s e σ gs es clock) (hraw:a.eval (.tmp tm)=.map (some b0)):
 (Qo rA rB rC rD x0 x1 A B C D tc).wp P (fun ex a' w'=>ex=.normal∧∃σ' gs' es' clock',σ'.w=w'∧σ'.H=H1∧Md N b0 σ σ'∧Ok σ'∧RepT σ' (T (i+1)) a'∧GS key elt (i+1) gs'∧MR N b0 s e σ' gs' es' clock'∧a'.eval (.tmp tm)=.map (some b0)) a σ.w:=by
 obtain ⟨hsA,KA,eA,cA⟩:=G.ha i (Nat.le_of_lt hi)
 obtain ⟨hsB,KB,eB,cB⟩:=G.hb i hi
 obtain ⟨hsC,KC,eC,cC⟩:=G.hc1 i hi
 obtain ⟨hsD,KD,eD,cD⟩:=G.hd i hi
 obtain ⟨hsub,hrns⟩:=G.drop i hi
 obtain ⟨o1,o2,o3,o4,o5,t,tt,u,t5,kt,et,k,y,c,s0,inf,g1,g2,g3,g4,g5,n1,n2,n3,n4,n5,h1,d1,h2,d2,h3,hc,ha,hty,d3,h4,d4,h5,d5,hu,hkt,hzt,hzd,htt,hif,hz,hne,hs,hb1,hb2,hk,hfit,hsrc⟩:=G.ops
 obtain ⟨q01,q02,q23,m0,m1,m2,m3,z0,z1,z2,z3,zq⟩:=G.ne
 obtain ⟨o0,mv1,mv2,mv3,mv4⟩:=G.mv
 obtain ⟨l0,l1,l2,l3⟩:=G.len i hi
 unfold Qo
 rw [←hH] at eA
 refine wp_seq (ZcN (t:=tm) (fun x hx=>G.nw x (.inl hx)) ok hrep eA cA fun a1 σ1 k1 f1 to1 ok1 r1=> ?_)
 show (Code.seq (.cond (.tmp tc) .skip (.exit x0)) _).wp P _ a1 σ1.w
 have hcond:=Zk (P:=P) r1 0 (.tmp tc)
 rw [G.hc i (Nat.le_of_lt hi),decide_eq_true hi] at hcond
 refine wp_seq (wp_cond_true (ZY hcond) (wp_skip ?_))
 show (Code.seq (.block x1 _) _).wp P _ a1 σ1.w
 refine wp_seq (wp_block ?_)
 rw [←f1.trans hH] at eB
 refine wp_seq (ZcN (t:=tm) (fun x hx=>G.nw x (.inr (.inl hx))) ok1 r1 eB cB fun a2 σ2 k2 f2 to2 ok2 r2=> ?_)
 show (Code.region rC C false).wp P _ a2 σ2.w
 refine wp_region ?_
 have hrange:List.range C.size=0::(List.range' 1 ((C.toList.take 5).drop 1).length++[5,6,7,8,9]):=by
  rw [G.size,show ((C.toList.take 5).drop 1).length=4 by rw [List.length_drop,List.length_take,Array.length_toList,G.size];rfl]
  rfl
 rw [hrange]
 rw [←f2] at eC
 have hrawm:a2.eval (.tmp tm)=.map (some b0):=by rw [k2,k1];exact hraw
 have xmv:(execOp a2.eval o0).run P σ2.w=.ok (.value (.map (some b0))) σ2.w:=by
  simp [execOp,mv3,hrawm]
 refine XF mv1 mv2 xmv ?_
 rw [mv4]
 have r2q:RepT σ2 ((TB i).set tq .junk) (a2.put (some tq) (.map (some b0))):=Vk r2
 have hq:(a2.put (some tq) (.map (some b0))).eval (.tmp tq)=.map (some b0):=Ql (by rw [r2.size];exact G.lenB i hi)
 have hqm:(a2.put (some tq) (.map (some b0))).eval (.tmp tm)=.map (some b0):=by rw [ZX zq];exact hrawm
 generalize a2.put (some tq) (.map (some b0))=a2 at r2q hq hqm ⊢
 refine Zh8 (P:=P) _ _ _ 1 _ σ2 a2 hsC [] KC _ (fun j x hx=> ?_) ok2 r2q eC cC fun a3 σ3 k3 f3 to3 ok3 r3=> ?_
 ·rw [List.getElem?_drop,List.getElem?_take] at hx
  split at hx
  ·simpa [Nat.add_comm] using hx
  ·cases hx
 have to13:To σ σ3:=(to1.trans to2).trans to3
 have hmr3:=hmr.to to13
 have hraw3:a3.eval (.tmp tq)=.map (some b0):=by rw [k3 tq G.nq];exact hq
 have hraw3m:a3.eval (.tmp tm)=.map (some b0):=by rw [k3 tm fun x hx=>G.nw x (.inr (.inr (.inl hx)))];exact hqm
 have hle:∀(m:Nat),m≤n→m*inf.bytes≤bytesBound∧m≤maxLen:=fun m hm=>⟨Nat.le_trans (Nat.mul_le_mul_right _ hm) hb1,Nat.le_trans hm hb2⟩
 refine Zwo (P:=P) (ts:=TC i) g1 g2 g3 g4 g5 n1 n2 n3 n4 n5 h1 d1 h2 d2 h3 hc ha hty d3 h4 d4 h5 d5 q01 q02 q23 z0 z1 z2 z3 l0 l1 l2 l3 ok3 r3 hmr3 hraw3 hu (hk i hi) hkt (hfit i hi) (fun j g hg=> ?_) hzt hzd htt hif hz hne hs (hsrc i hi) (fun j g hg=> ?_) ?_ ?_
 ·obtain ⟨_,m,hm,e⟩:=hgs.bound j g hg
  rw [e]
  exact hfit m (by omega)
 ·have:=(hgs.bound j g hg).1
  exact hle _ (by omega)
 ·exact (hle 1 (by omega)).1
 intro a4 σ4 gs' es' clock' b' hput hmr4 f4 fm md ok4 r4 kept
 have hraw4:a4.eval (.tmp tm)=.map (some b0):=(kept tm m0 m1 m2 m3).trans hraw3m
 show (Code.region rD D false).wp P _ a4 σ4.w
 have h4B:σ4.H=HB i:=f4.trans (f3.trans f2)
 rw [←h4B] at eD
 refine ZcN (t:=tm) (fun x hx=>G.nw x (.inr (.inr (.inr hx)))) ok4 r4 eD cD fun a5 σ5 k5 f5 to5 ok5 r5=> ?_
 have hHB:σ5.H=HB i:=f5.trans h4B
 have hN:N≤σ.w.heap.size:=hmr.ge
 have md5:Md N b0 σ σ5:=((Md.of_to to13 hN).trans md).trans (Md.of_to to5 hmr4.ge)
 have hlen:σ.m.length≤σ5.m.length:=by
  have h1:=to13.len
  have h2:=to5.len
  rw [fm] at h2
  exact Nat.le_trans h1 h2
 subst hH
 rw [←hHB] at hsub
 have hpart:=Zz8 ok md5 hlen hN hsub
 refine ⟨rfl,Zdy σ5 (List.range σ.H.length) σ.H,gs',es',clock',rfl,rfl,hpart,ZlI ok5 (Zsn _) hsub,ZiK (Zba hsub) hrns (Qe keep r5),.succ hgs hput,(hmr4.to to5).part hsub,by rw [k5];exact hraw4⟩
theorem Zhr {P:Program} {A B C D:Array Oper} {tc tm tq t0 t1 t2 t3 x0:Nat} {T TA TB TC TD:Nat→List Dv} {HB:Nat→List Ent} {H1:List Ent} {keep:List Nat} {n s:Nat} {e:TypeId} {key elt:Nat→Pl}
 (G:Gat P A B C D tc tm tq t0 t1 t2 t3 x0 T TA TB TC TD HB H1 keep n s e key elt) (rA rB rC rD x1:Nat) {N b0:Nat}:∀(m i:Nat),i+m=n→∀{gs:List (Pl×List Pl×Nat)} {es:Array MapEntry} {clock:Nat} {σ:Sg} {a:Act},GS key elt i gs→Ok σ→σ.H=H1→RepT σ (T i) a→
 MR N b0 s e σ gs es clock→a.eval (.tmp tm)=.map (some b0)→∀(b:Frame) (k:List Item) (cs:List Frame),
 ∃ex a' w',(ex=Exit.exit x0∧∃σ' gs' es' clock',σ'.w=w'∧σ'.H=H1∧Md N b0 σ σ'∧Ok σ'∧RepT σ' (TA n) a'∧GS key elt n gs'∧MR N b0 s e σ' gs' es' clock'∧a'.eval (.tmp tm)=.map (some b0))∧
  Arrives P (lone (b.at a (.code (Qo rA rB rC rD x0 x1 A B C D tc)::.inLoop (Qo rA rB rC rD x0 x1 A B C D tc)::k)) cs σ.w) b k cs ex a' w'
 |0,i,him,gs,es,clock,σ,a,hgs,ok,hH,hrep,hmr,hraw,b,k,cs=>by
  have hin:i=n:=by omega
  subst hin
  obtain ⟨hsA,KA,eA,cA⟩:=G.ha i (Nat.le_refl i)
  rw [←hH] at eA
  have hbody:(Qo rA rB rC rD x0 x1 A B C D tc).wp P (fun ex a' w'=>ex=Exit.exit x0∧∃σ' gs' es' clock',σ'.w=w'∧σ'.H=H1∧Md N b0 σ σ'∧Ok σ'∧RepT σ' (TA i) a'∧GS key elt i gs'∧MR N b0 s e σ' gs' es' clock'∧a'.eval (.tmp tm)=.map (some b0)) a σ.w:=by
   unfold Qo
   refine wp_seq (ZcN (t:=tm) (fun x hx=>G.nw x (.inl hx)) ok hrep eA cA fun a1 σ1 k1 f1 to1 ok1 r1=> ?_)
   show (Code.seq (.cond (.tmp tc) .skip (.exit x0)) _).wp P _ a1 σ1.w
   have hcond:=Zk (P:=P) r1 0 (.tmp tc)
   rw [G.hc i (Nat.le_refl i),decide_eq_false (Nat.lt_irrefl i)] at hcond
   refine wp_seq (wp_cond_false (ZY hcond) (wp_exit ?_))
   exact ⟨rfl,σ1,gs,es,clock,rfl,f1.trans hH,Md.of_to to1 hmr.ge,ok1,r1,hgs,hmr.to to1,by rw [k1];exact hraw⟩
  obtain ⟨ex,a1,w1,⟨rfl,hq⟩,harr⟩:=hbody b (.inLoop (Qo rA rB rC rD x0 x1 A B C D tc)::k) cs
  exact ⟨_,a1,w1,⟨rfl,hq⟩,.pass (x:=.inLoop (Qo rA rB rC rD x0 x1 A B C D tc)) rfl (fun _ _=>.inl (by simp)) harr⟩
 |m+1,i,him,gs,es,clock,σ,a,hgs,ok,hH,hrep,hmr,hraw,b,k,cs=>by
  obtain ⟨ex,a1,w1,⟨rfl,σ1,gs1,es1,clock1,rfl,f1,md1,ok1,r1,hgs1,hmr1,hraw1⟩,harr⟩:=ZqG G rA rB rC rD x1 (by omega:i < n) hgs ok hH hrep hmr hraw b (.inLoop (Qo rA rB rC rD x0 x1 A B C D tc)::k) cs
  obtain ⟨ex,a2,w2,⟨rfl,σ2,gs2,es2,clock2,rfl,f2,md2,ok2,r2,hgs2,hmr2,hraw2⟩,harr2⟩:=Zhr G rA rB rC rD x1 m (i+1) (by omega) hgs1 ok1 f1 r1 hmr1 hraw1 b k cs
  exact ⟨_,a2,_,⟨rfl,σ2,gs2,es2,clock2,rfl,f2,md1.trans md2,ok2,r2,hgs2,hmr2,hraw2⟩,.of_steps (Steps.trans harr (.one step_inLoop)) harr2⟩
def Zhs (id:Nat) (j:Nat):Option Nat:=if j=id then none else some j
theorem Zso {σ:Sg} {ts:List Dv} {a:Act} (h:RepT σ ts a) {t:Nat} {d:Dv} (hd:repDV σ d (a.tmps.getD t undef)):RepT σ (ts.set t d) a:=by
 refine ⟨by rw [List.length_set];exact h.size,fun i x hx=> ?_,h.defers⟩
 rw [List.getElem?_set] at hx
 split at hx
 ·rename_i he
  subst he
  split at hx
  ·cases hx
   exact hd
  ·cases hx
 ·exact h.at_ i x hx
theorem Zyu {w:World} {b o:Nat} {es:Array MapEntry} {clock:Nat} {v:Value} (h:w.heap[b]? =some (.map es clock)) (hc:w.cell? ⟨b,o,none⟩=some v):False:=by
 simp [World.cell?,h] at hc
theorem Zsp {P:Program} {A B C D:Array Oper} {tc tm tq t0 t1 t2 t3 x0:Nat} {T TA TB TC TD:Nat→List Dv} {HB:Nat→List Ent} {H1:List Ent} {keep:List Nat} {n s:Nat} {e:TypeId} {key elt:Nat→Pl}
 (G:Gat P A B C D tc tm tq t0 t1 t2 t3 x0 T TA TB TC TD HB H1 keep n s e key elt) (rA rB rC rD x1:Nat) {id:Nat} {tid:TypeId} {ts0:List Dv} {H0:List Ent} (keepE:List Nat) {KV:List (Pl×List Pl)} (hdet:∀gs,GS key elt n gs→gs.map (fun g=>(g.1,g.2.1))=KV)
 (hid:H0[id]? =some (.map tid [])) (htm:ts0[tm]? =some (.mp id)) (h1:H1=H0.set id .gone) (hT:Dv.rns (Zhs id) (ts0.set tm .junk)=some (T 0)) (hent:∀(j:Nat) x,j≠id→H0[j]? =some x→x.rn (Zhs id)=some x):
 Xf P (.loop (Qo rA rB rC rD x0 x1 A B C D tc)) ts0 H0 (.exit x0) ((maskFrom keepE 0 (TA n)).set tm (.mp id)) (H0.set id (.map tid (KV.map fun q=>(q.1,.sl none s q.2)))):=by
 intro σ a ok hH hrep b k cs
 subst hH
 have hmv:=hrep.at_ tm _ htm
 obtain ⟨b0,hmb,hmv⟩:=ZhX hmv
 have hraw:a.eval (.tmp tm)=.map (some b0):=hmv
 obtain ⟨b',es,clock,e1,hbk,hkr⟩:=ok.ent id _ _ hid hmb
 cases e1
 have hes:es.size=0:=by
  have:=ZgM _ _ hkr
  simpa using this
 have hidl:id < σ.m.length:=(List.getElem?_eq_some_iff.1 hmb).1
 have hidH:id < σ.H.length:=(List.getElem?_eq_some_iff.1 hid).1
 have hb0lt:=Zi6 hbk
 let σ1:Sg:={ F:=fun b o=>σ.F b o∧b < σ.w.heap.size,B:=σ.B,m:=σ.m.set id none,H:=H1,w:=σ.w}
 have m1:∀j,j≠id→σ1.m[j]? =σ.m[j]? :=fun j hj=>getElem?_set_ne' (Ne.symm hj)
 have m1i:σ1.m[id]? =some none:=getElem?_set_eq' hmb
 have H1e:∀j,j≠id→σ1.H[j]? =σ.H[j]? :=fun j hj=>by
  show H1[j]? =_
  rw [h1]
  exact getElem?_set_ne' (Ne.symm hj)
 have H1i:σ1.H[id]? =some .gone:=by
  show H1[id]? =_
  rw [h1]
  exact getElem?_set_eq' hid
 have stab1:∀(b o:Nat) (v:Value),σ.w.cell? ⟨b,o,none⟩=some v→σ.stab b o→σ1.stab b o:=fun b o v hc hs=>by
  refine ⟨hs.1.imp (fun h=>⟨h,YI hc⟩) (fun h=>h),fun j x hj hx=> ?_⟩
  by_cases hji:j=id
  ·subst hji
   rw [H1i] at hx
   cases hx
   trivial
  ·rw [m1 j hji] at hj
   rw [H1e j hji] at hx
   exact hs.2 j x hj hx
 have rn:Rn (Zhs id) σ σ1:=by
  refine ⟨rfl,stab1,fun j j' hj x hx=> ?_,fun j j' hj x hx=> ?_⟩
  ·unfold Zhs at hj
   split at hj
   ·cases hj
   ·cases hj
    rename_i hne
    rw [m1 j hne]
    exact hx
  ·unfold Zhs at hj
   split at hj
   ·cases hj
   ·cases hj
    rename_i hne
    exact ⟨x,by rw [H1e j hne];exact hx,hent j x hne hx⟩
 have ok1:Ok σ1:=by
  refine ⟨by show (σ.m.set id none).length=H1.length;rw [h1,List.length_set,List.length_set];exact ok.len,fun i j x hi hj=> ?_,fun i x hi=> ?_,fun i x y hx hy=> ?_,ok.new,fun i x hi=> ?_⟩
  ·have hii:i≠id:=fun q=>by subst q;rw [m1i] at hi;cases hi
   have hjj:j≠id:=fun q=>by subst q;rw [m1i] at hj;cases hj
   rw [m1 i hii] at hi
   rw [m1 j hjj] at hj
   exact ok.inj i j x hi hj
  ·have hii:i≠id:=fun q=>by subst q;rw [m1i] at hi;cases hi
   rw [m1 i hii] at hi
   exact ok.lt i x hi
  ·by_cases hii:i=id
   ·subst hii
    rw [H1i] at hx
    cases hx
    trivial
   ·rw [H1e i hii] at hx
    rw [m1 i hii] at hy
    exact ZiG rn (hent i x hii hx) (ok.ent i x y hx hy)
  ·have hii:i≠id:=fun q=>by subst q;rw [m1i] at hi;cases hi
   rw [m1 i hii] at hi
   exact ok.own i x hi
 have rep1:RepT σ1 (T 0) a:=ZiK rn hT (Zso hrep Yz)
 have un1:∀j:Nat,σ1.m[j]? ≠some (some b0):=fun j hj=>by
  have hjj:j≠id:=fun q=>by subst q;rw [m1i] at hj;cases hj
  rw [m1 j hjj] at hj
  exact hjj (ok.inj j id b0 hj hmb)
 have mr1:MR σ.w.heap.size b0 s e σ1 [] es clock:=⟨Nat.le_refl _,fun b o h=>h.2,hbk,un1,hes,fun q g en h _=>by simp at h,fun q q' en en' h _ _=>by
  have:=(Array.getElem?_eq_some_iff.1 h).1
  omega,fun q q' g g' h _ _=>by simp at h⟩
 obtain ⟨ex,a2,w2,⟨rfl,σ2,gs,es2,clock2,rfl,f2,md,ok2,rep2,hgs,mr2,hraw2⟩,harr⟩:=Zhr G rA rB rC rD x1 n 0 (by omega) .zero ok1 rfl rep1 mr1 hraw b k cs
 have hKV:=hdet gs hgs
 have len2:σ2.m.length=σ.m.length:=by rw [ok2.len,f2,h1,List.length_set,ok.len]
 let σf:Sg:={ F:=σ.F,B:=σ.B,m:=σ2.m.set id (some b0),H:=σ.H.set id (.map tid (KV.map fun q=>(q.1,.sl none s q.2))),w:=σ2.w}
 have mfe:∀j,j≠id→σf.m[j]? =σ2.m[j]? :=fun j hj=>getElem?_set_ne' (Ne.symm hj)
 have mfi:σf.m[id]? =some (some b0):=by
  show (σ2.m.set id (some b0))[id]? =_
  rw [List.getElem?_set_self (by rw [len2];exact hidl)]
 have Hfe:∀j,j≠id→σf.H[j]? =σ2.H[j]? :=fun j hj=>by
  show (σ.H.set id _)[j]? =_
  rw [getElem?_set_ne' (Ne.symm hj),f2]
  exact (H1e j hj).symm
 have Hfi:σf.H[id]? =some (.map tid (KV.map fun q=>(q.1,.sl none s q.2))):=getElem?_set_eq' hid
 have H2i:σ2.H[id]? =some .gone:=by rw [f2];exact H1i
 have leafF:Leaf σ2 σf:=by
  refine ⟨fun x o v hc hs=>⟨hc, ?_,fun j y hj hy=> ?_⟩,fun j x hj hx=> ?_,fun j s' len A' c h=> ?_,fun j x hj hx=> ?_,fun j v s' st e' d h=> ?_⟩
  ·exact hs.1.imp (fun h=>(md.F _ _ h).1) (fun h=>md.B _ h)
  ·by_cases hji:j=id
   ·subst hji
    rw [mfi] at hj
    cases hj
    exact (Zyu mr2.heap hc).elim
   ·rw [mfe j hji] at hj
    rw [Hfe j hji] at hy
    exact hs.2 j y hj hy
  ·have hji:j≠id:=fun q=>by subst q;obtain ⟨d,st,hx⟩:=hx;rw [H2i] at hx;cases hx
   rw [mfe j hji,Hfe j hji]
   exact ⟨hj,hx⟩
  ·obtain ⟨e',ys,h2,h3⟩:=h
   have hji:j≠id:=fun q=>by subst q;rw [H2i] at h2;cases h2
   exact ⟨e',ys,by rw [Hfe j hji];exact h2,by rw [mfe j hji];exact h3⟩
  ·have hji:j≠id:=fun q=>by subst q;obtain ⟨d,st,hx⟩:=hx;rw [H2i] at hx;cases hx
   rw [mfe j hji,Hfe j hji]
   exact ⟨hj,hx⟩
  ·have hji:j≠id:=fun q=>by subst q;rw [H2i] at h;cases h
   exact ⟨v,st,d,by rw [Hfe j hji];exact h,Nat.le_refl _,fun _=>⟨mfe j hji,fun b cur _ hc=>⟨cur,hc,rfl⟩⟩⟩
 have un2:∀x:Nat,x≠b0→(∀j:Nat,σ2.m[j]? ≠some (some x))→∀j:Nat,σf.m[j]? ≠some (some x):=fun x hx hu j hj=>by
  by_cases hji:j=id
  ·subst hji
   rw [mfi] at hj
   cases hj
   exact hx rfl
  ·rw [mfe j hji] at hj
   exact hu j hj
 have hkv:V8 σf (KV.map fun q=>(q.1,.sl none s q.2)) es2.toList:=by
  rw [←hKV,List.map_map]
  have key:∀(l:List (Pl×List Pl×Nat)) (el:List MapEntry),l.length=el.length→(∀(q:Nat) g en,l[q]? =some g→el[q]? =some en→repDV σf (.p g.1) en.key∧repDV σf (.p (.sl none s g.2.1)) en.val)→V8 σf (l.map ((fun q=>(q.1,.sl none s q.2)) ∘ fun g=>(g.1,g.2.1))) el:=by
   intro l
   induction l with
   |nil=>intro el hl _;cases el with
    |nil=>trivial
    |cons _ _=>simp at hl
   |cons g l ih=>intro el hl h;cases el with
    |nil=>simp at hl
    |cons en el=>
     obtain ⟨z1,z2⟩:=h 0 g en rfl rfl
     exact ⟨z1,z2,ih el (by simpa using hl) fun q g' en' y1 y2=>h (q+1) g' en' (by simpa using y1) (by simpa using y2)⟩
  refine key gs es2.toList (by rw [Array.length_toList];exact mr2.len.symm) fun q g en hg he=> ?_
  obtain ⟨z1,⟨c,cur,rfl_,y2,y3,y4,y5,y6,y7⟩,z3,z4,z5⟩:=mr2.ent q g en hg (by rw [←Array.getElem?_toList];exact he)
  refine ⟨Yy leafF z1, ?_⟩
  rw [rfl_]
  refine Z6 y6 y4 y5 (ZK _) (fun h=>by cases h) fun _=>⟨_,_,_,rfl,repCs_mono leafF.cells _ _ y7, ?_⟩
  refine QT y2 (fun o _=>⟨.inr (ok.new _ z5),fun j y hj _=>absurd hj (un2 _ z4.ne z4.un j)⟩) ?_
  rw [List.length_take,Array.length_toList,Nat.min_eq_left (by rw [y3];exact Nat.mul_le_mul_right _ y4)]
 have okf:Ok σf:=by
  refine ⟨by show (σ2.m.set id (some b0)).length=(σ.H.set id _).length;rw [List.length_set,List.length_set,len2];exact ok.len,fun i j x hi hj=> ?_,fun i x hi=> ?_,fun i x y hx hy=> ?_,fun x hx=>ok.new x (Nat.le_trans md.size hx),fun i x hi=> ?_⟩
  ·by_cases hii:i=id
   ·subst hii
    rw [mfi] at hi
    cases hi
    by_cases hjj:j=i
    ·exact hjj.symm
    ·rw [mfe j hjj] at hj
     exact absurd hj (mr2.un j)
   ·rw [mfe i hii] at hi
    by_cases hjj:j=id
    ·subst hjj
     rw [mfi] at hj
     cases hj
     exact absurd hi (mr2.un i)
    ·rw [mfe j hjj] at hj
     exact ok2.inj i j x hi hj
  ·by_cases hii:i=id
   ·subst hii
    rw [mfi] at hi
    cases hi
    exact Nat.lt_of_lt_of_le hb0lt md.size
   ·rw [mfe i hii] at hi
    exact ok2.lt i x hi
  ·by_cases hii:i=id
   ·subst hii
    rw [Hfi] at hx
    rw [mfi] at hy
    cases hx
    cases hy
    exact ⟨b0,es2,clock2,rfl,mr2.heap,hkv⟩
   ·rw [Hfe i hii] at hx
    rw [mfe i hii] at hy
    exact WP leafF (fun b _=>rfl) (ok2.ent i x y hx hy)
  ·by_cases hii:i=id
   ·subst hii
    rw [mfi] at hi
    cases hi
    exact ok.own _ _ hmb
   ·rw [mfe i hii] at hi
    exact md.B _ (ok2.own i x hi)
 have leaf0:Leaf σ σf:=by
  refine ⟨fun x o v hc hs=> ?_,fun j x hj hx=> ?_,fun j s' len A' c h=> ?_,fun j x hj hx=> ?_,fun j v s' st e' d h=> ?_⟩
  ·obtain ⟨h3,h4⟩:=md.leaf.cells x o v hc (stab1 x o v hc hs)
   exact leafF.cells x o v h3 h4
  ·have hji:j≠id:=fun q=>by subst q;obtain ⟨d,st,hx⟩:=hx;rw [hid] at hx;cases hx
   obtain ⟨h3,h4⟩:=md.leaf.var j x (by rw [m1 j hji];exact hj) (by rw [H1e j hji];exact hx)
   exact leafF.var j x h3 h4
  ·have hji:j≠id:=fun q=>by subst q;obtain ⟨e',ys,h2,_⟩:=h;rw [hid] at h2;cases h2
   refine leafF.front j s' len A' c (md.leaf.front j s' len A' c ?_)
   obtain ⟨e',ys,h2,h3⟩:=h
   exact ⟨e',ys,by rw [H1e j hji];exact h2,by rw [m1 j hji];exact h3⟩
  ·by_cases hji:j=id
   ·subst hji
    rw [hmb] at hj
    cases hj
    exact ⟨mfi,_,_,Hfi⟩
   ·obtain ⟨h3,h4⟩:=md.leaf.map j x (by rw [m1 j hji];exact hj) (by rw [H1e j hji];exact hx)
    exact leafF.map j x h3 h4
  ·have hji:j≠id:=fun q=>by subst q;rw [hid] at h;cases h
   obtain ⟨v1,st1,d1,h3,h4,h5⟩:=md.leaf.row j v s' st e' d (by rw [H1e j hji];exact h)
   obtain ⟨v2,st2,d2,h6,h7,h8⟩:=leafF.row j v1 s' st1 e' d1 h3
   refine ⟨v2,st2,d2,h6,Nat.le_trans h4 h7,fun hv=> ?_⟩
   have q1:v1=v:=by omega
   have q2:v2=v1:=by omega
   obtain ⟨p1,p2⟩:=h5 q1
   obtain ⟨p3,p4⟩:=h8 q2
   refine ⟨p3.trans (p1.trans (m1 j hji)),fun b cur hb hc=> ?_⟩
   obtain ⟨cur1,c1,c2⟩:=p2 b cur (by rw [m1 j hji];exact hb) hc
   obtain ⟨cur2,c3,c4⟩:=p4 b cur1 (by rw [p1,m1 j hji];exact hb) c1
   exact ⟨cur2,c3,by rw [c4,c2]⟩
 have to0:To σ σf:=by
  refine ⟨leaf0,rfl,rfl,md.os,md.tape,md.output,md.size,fun x hx hu=> ?_,fun j x hj=> ?_,by show σ.m.length≤(σ2.m.set id _).length;rw [List.length_set,len2];exact Nat.le_refl _⟩
  ·refine md.block x hx (fun q=> ?_) (fun j hj=> ?_)
   ·subst q
    exact hu id hmb
   ·have hji:j≠id:=fun q=>by subst q;rw [m1i] at hj;cases hj
    rw [m1 j hji] at hj
    exact hu j hj
  ·by_cases hji:j=id
   ·subst hji
    rw [mfi] at hj
    cases hj
    exact .inl hmb
   ·rw [mfe j hji] at hj
    rcases md.same j x hj with h|h
    ·rw [m1 j hji] at h
     exact .inl h
    ·exact .inr h
 refine ⟨_,a2,_,⟨rfl,σf,rfl,rfl,to0,okf,Zso ((Qe keepE rep2).to leafF) ?_⟩,.of_steps (.one step_loop) harr⟩
 have:a2.tmps.getD tm undef=.map (some b0):=hraw2
 rw [this,Zg rfl]
 simp only [repD]
 exact ⟨b0,mfi,⟨_,_,Hfi⟩,rfl⟩
end Go.Ev
end
section
namespace Go.Ev
def Zz9 {K V:Type} [DecidableEq K] (kf:V→K) (m:List (K×List V)) (p:V):List (K×List V):=ZfH m (kf p) ((V6 m (kf p)).getD []++[p])
def Zbf {K V:Type} [DecidableEq K] (kf:V→K) (l:List V):List (K×List V):=l.foldl (Zz9 kf) []
theorem Zpd {K V:Type} [DecidableEq K] (kf:V→K) (l:List V) (p:V):Zbf kf (l++[p])=Zz9 kf (Zbf kf l) p:=by unfold Zbf;rw [List.foldl_append];rfl
def Zg5 {K V:Type} (ek:K→Pl) (ev:V→Pl) (m:List (K×List V)):List (Pl×List Pl):=m.map fun q=>(ek q.1,q.2.map ev)
theorem Zu8 {K V:Type} [DecidableEq K] {ek:K→Pl} {ev:V→Pl} (hi:∀x y,ek x=ek y↔x=y) (k:K) (p:V):∀(m:List (K×List V)) (gs:List (Pl×List Pl×Nat)) (q:Nat) (xs:List Pl) (b b':Nat),gs.map (fun g=>(g.1,g.2.1))=Zg5 ek ev m→
 gs[q]? =some (ek k,xs,b)→(∀j g,j < q→gs[j]? =some g→g.1≠ek k)→(gs.set q (ek k,xs++[ev p],b')).map (fun g=>(g.1,g.2.1))=Zg5 ek ev (ZfH m k ((V6 m k).getD []++[p]))
 |[],gs,q,xs,b,b',h,h1,h2=>by
  have:gs=[]:=by simpa [Zg5] using h
  subst this
  simp at h1
 |x::m,[],q,xs,b,b',h,h1,h2=>by simp at h1
 |x::m,g::gs,q,xs,b,b',h,h1,h2=>by
  simp only [Zg5,List.map_cons,List.cons.injEq,Prod.mk.injEq] at h
  obtain ⟨⟨e1,e2⟩,e3⟩:=h
  cases q with
  |zero=>
   have hg:g=(ek k,xs,b):=by simpa using h1
   subst hg
   have hk:k=x.1:=(hi _ _).1 e1
   have hxs:xs=x.2.map ev:=e2
   simp only [List.set_cons_zero,List.map_cons,ZfH,V6,if_pos hk,Zg5,Option.getD_some,List.map_append,List.map_nil,hxs]
   congr 1
  |succ q=>
   have hne:k≠x.1:=fun hk=>h2 0 g (Nat.zero_lt_succ q) rfl (by rw [e1,hk])
   have ih:=Zu8 hi k p m gs q xs b b' e3 (by simpa using h1) (fun j g' hj hg=>h2 (j+1) g' (Nat.succ_lt_succ hj) (by simpa using hg))
   simp only [List.set_cons_succ,List.map_cons,ZfH,V6,if_neg hne,Zg5]
   rw [show (g.1,g.2.1)=(ek x.1,x.2.map ev) by rw [e1,e2]]
   congr 1
theorem Zu9 {K V:Type} [DecidableEq K] {ek:K→Pl} {ev:V→Pl} (hi:∀x y,ek x=ek y↔x=y) (k:K) (p:V) (b':Nat):∀(m:List (K×List V)) (gs:List (Pl×List Pl×Nat)),gs.map (fun g=>(g.1,g.2.1))=Zg5 ek ev m→
 (∀(j:Nat) g,gs[j]? =some g→g.1≠ek k)→(gs++[(ek k,[ev p],b')]).map (fun g=>(g.1,g.2.1))=Zg5 ek ev (ZfH m k ((V6 m k).getD []++[p]))
 |[],gs,h,h2=>by
  have:gs=[]:=by simpa [Zg5] using h
  subst this
  rfl
 |x::m,[],h,h2=>by simp [Zg5] at h
 |x::m,g::gs,h,h2=>by
  simp only [Zg5,List.map_cons,List.cons.injEq,Prod.mk.injEq] at h
  obtain ⟨⟨e1,e2⟩,e3⟩:=h
  have hne:k≠x.1:=fun hk=>h2 0 g rfl (by rw [e1,hk])
  have ih:=Zu9 hi k p b' m gs e3 (fun j g' hg=>h2 (j+1) g' (by simpa using hg))
  simp only [List.cons_append,List.map_cons,ZfH,V6,if_neg hne,Zg5]
  rw [show (g.1,g.2.1)=(ek x.1,x.2.map ev) by rw [e1,e2]]
  congr 1
theorem Zva {K V:Type} [DecidableEq K] {ek:K→Pl} {ev:V→Pl} (hi:∀x y,ek x=ek y↔x=y) (kf:V→K) (l:List V) {key elt:Nat→Pl} (hk:∀(i:Nat) p,l[i]? =some p→key i=ek (kf p)∧elt i=ev p):∀(n:Nat) (gs:List (Pl×List Pl×Nat)),n≤l.length→GS key elt n gs→
 gs.map (fun g=>(g.1,g.2.1))=Zg5 ek ev (Zbf kf (l.take n))
 |0,gs,_,h=>by cases h;rfl
 |n+1,gs',hn,h=>by
  cases h with
  |succ h g=>
   rename_i b gs
   have ih:=Zva hi kf l hk n gs (by omega) h
   have hp:l[n]? =some l[n]:=List.getElem?_eq_getElem (by omega)
   obtain ⟨e1,e2⟩:=hk n _ hp
   rw [List.take_add_one,hp,Option.toList_some,Zpd]
   unfold Zz9
   rw [e1,e2] at g
   cases g with
   |old q xs b2 h1 hne=>exact Zu8 hi _ _ _ _ q xs b2 b ih h1 hne
   |new hne=>exact Zu9 hi _ _ b _ _ ih hne
section
variable {P:Program}
def Zod (P:Program) (hi:HI) (ops:Array Oper) (l:List Oper) (a:List TD) (h:List TEnt):Option (List TD×List TEnt):=Zr3 P hi { l:=[]} ops l a h fun a h _=>some (a,h)
theorem Zer {hi:HI} {ops:Array Oper} {l:List Oper} {a a':List TD} {h h':List TEnt} (k:Zod P hi ops l a h=some (a',h')):a'.length=a.length∧∃hs C,evOps P ops l (TD.ers (lk h) a) (erH h) hs=some (C,TD.ers (lk h') a',erH h',[])∧AllP C:=by
 obtain ⟨a1,h1,hs,C,k1,k2,k3,k4⟩:=ZgX (okS (l:=[]) trivial) _ _ _ _ k
 cases k1
 have:=k4 []
 rw [List.append_nil] at this
 exact ⟨k2,hs,C,this,k3⟩
theorem Zvb {f:Nat→Option Nat}:∀{l l':List TEnt},TEnt.rns f l=some l'→∀(j:Nat) x,l[j]? =some x→∃y,l'[j]? =some y∧x.rn f=some y
 |[],_,_,j,x,hx=>by simp at hx
 |z::l,l',h,j,x,hx=>by
  simp only [TEnt.rns] at h
  split at h
  ·rename_i y ys h1 h2
   cases h
   cases j with
   |zero=>cases hx;exact ⟨y,rfl,h1⟩
   |succ j=>exact Zvb h2 j x (by simpa using hx)
  ·cases h
def Zyv {K V O:Type} (i0 nn:Int) (l:List V) (m:List (K×List V)) (b:Nat) (out:O):Option O:=if (decide (i0=0)&&decide (nn=(l.length:Int))&&m.isEmpty&&lenB l.length b)=true then some out else none
theorem Zwp {K V O:Type} {i0 nn:Int} {l:List V} {m:List (K×List V)} {b:Nat} {out o:O} (h:Zyv i0 nn l m b out=some o):i0=0∧nn=(l.length:Int)∧m=[]∧l.length*b≤bytesBound∧l.length≤maxLen∧o=out:=by
 unfold Zyv at h
 obtain ⟨h1,h2⟩:=Za h
 cases h2
 simp only [Bool.and_eq_true,decide_eq_true_eq,List.isEmpty_iff] at h1
 obtain ⟨⟨⟨h1,h2⟩,h3⟩,h4⟩:=h1
 exact ⟨h1,h2,h3,(WU h4).1,(WU h4).2,rfl⟩
theorem ZBC {α:Type} {l:List α} {j:Nat} {p:α} (h:l[j]? =some p):idx l (j:Int)=some p:=by
 unfold idx
 rw [if_pos (Int.natCast_nonneg j),Int.toNat_natCast]
 exact h
def gA:Code→Array Oper
 |.seq (.region _ A _) _=>A
 |_=> #[]
def gB:Code→Array Oper
 |.seq _ (.seq _ (.seq (.block _ (.seq (.region _ B _) _)) _))=>B
 |_=> #[]
def gC:Code→Array Oper
 |.seq _ (.seq _ (.seq (.block _ (.seq _ (.region _ C _))) _))=>C
 |_=> #[]
def gD:Code→Array Oper
 |.seq _ (.seq _ (.seq _ (.region _ D _)))=>D
 |_=> #[]
def Znd (C:Array Oper) (j:Nat):Oper:=(C[j]?).getD default
def ZBD (o:Oper):Call:=match o.op with
 |.call c=>c
 |_=>default
def ZBE (P:Program) (e:TypeId):TypeInfo:=(P.info? e).getD default
theorem ZBF {N:Nat} {body:Code} {sl sl2:Slots} {es es2:List ESh} {I ty2:List Ty} {L:Ty.dens I→Option (Ty.dens ty2)} (rA rB rC rD x0 x1 tc tm tq ti t0 t1 t2 t3 id n0:Nat) (A B C D:Array Oper) (hbody:body=Qo rA rB rC rD x0 x1 A B C D tc)
 {K T:Ty} {tid e kt t tt u t5 et:TypeId} (hi:HI) (keep keepE:List Nat) (st:Ty.dens I→List TD×List TEnt) (lst:Ty.dens I→List T.den) (kf:T.den→K.den) (i0 nn:Ty.dens I→Int) (mp:Ty.dens I→List (K.den×List T.den)) (fin:Ty.dens I→Ty.dens ty2) (o1 o2 o3 o4 o5:Oper) (k y:Operand) (c:Call) (s0:Nat) (i:TypeInfo)
 (aA:Ty.dens I→Int→List TD) (aB aC aD:Ty.dens I→Int→T.den→List TD) (hB:Ty.dens I→Int→T.den→List TEnt)
 (hL:∀v,L v=@Zyv K.den T.den (Ty.dens ty2) (i0 v) (nn v) (lst v) (mp v) i.bytes (fin v))
 (h0:∀v,X7 N sl es (ofD I v)=some (st v))
 (hX:∀v,X7 N sl2 es2 (ofD ty2 (fin v))=some ((ZaY keepE 0 (aA v (nn v))).set tm (.mp id),(st v).2.set id (.map tid K (.sl T) (@Zbf K.den T.den (Ty.deq K) kf (lst v)))))
 (f0:∀v,(st v).1[ti]? =some (.p (.v (.int .i64) (i0 v)))∧(st v).1[tm]? =some (.mp id)∧(st v).2[id]? =some (.map tid K (.sl T) (mp v))∧(st v).1.length=N∧(st v).2.length=n0)
 (f1:∀v,TD.rns (Zhs id) ((st v).1.set tm .junk)=some ((st v).1.set tm .junk)∧TEnt.rns (Zhs id) ((st v).2.set id .gone)=some ((st v).2.set id .gone))
 (fA:∀v z,Zod P hi A A.toList (((st v).1.set tm .junk).set ti (.p (.v (.int .i64) z))) ((st v).2.set id .gone)=some (aA v z,(st v).2.set id .gone))
 (fc:∀v z,arT P (aA v z) 0 (.tmp tc)=some (.p (.v .bool (decide (z < nn v)))))
 (fB:∀v (j:Nat) p,(lst v)[j]? =some p→Zod P hi B B.toList (aA v (j:Int)) ((st v).2.set id .gone)=some (aB v (j:Int) p,hB v (j:Int) p))
 (fC:∀v z p,Zod P hi C ((C.toList.take 5).drop 1) ((aB v z p).set tq .junk) (hB v z p)=some (aC v z p,hB v z p))
 (fk:∀v z p,arT P (aC v z p) kt k=some (.p (.v K (kf p))))
 (fy:∀v z p,(arT P (((aC v z p).set t0 .junk).set t1 .junk) u y).bind (Zn3 (lk (hB v z p)) P T u)=some [p])
 (fD:∀v z p,Zod P hi D D.toList (((((aC v z p).set t0 .junk).set t1 .junk).set t2 .junk).set t3 .junk) (hB v z p)=some (aD v z p,hB v z p))
 (fd:∀v z p,XE (hB v z p) (List.range n0) (List.range n0)=some ((st v).2.set id .gone)∧TD.rns (toIds (List.range n0)) (ZaY keep 0 (aD v z p))=some (((st v).1.set tm .junk).set ti (.p (.v (.int .i64) (wi (z+1))))))
 (nw:(A.toList++B.toList++(C.toList.take 5).drop 1++D.toList).all (fun x=>x.dst !=some tm)=true) (nq:((C.toList.take 5).drop 1).all (fun x=>x.dst !=some tq)=true) (mv:(Znd C 0).guard=none∧(Znd C 0).op=.move (.tmp tm)∧(Znd C 0).dst=some tq) (size:C.size=10) (lt:tq < N∧t0 < N∧t1 < N∧t2 < N∧t3 < N)
 (g:C[5]? =some o1∧C[6]? =some o2∧C[7]? =some o3∧C[8]? =some o4∧C[9]? =some o5∧o1.guard=none∧o2.guard=none∧o3.guard=none∧o4.guard=none∧o5.guard=none∧
   o1.op=.mapEntry t (.tmp tq) k∧o1.dst=some t0∧o2.op=.extract (.tmp t0) 0∧o2.dst=some t1∧o3.op=.call c∧c.callee=.builtin .append∧c.args.toList=[.tmp t1,y]∧c.argTypes.toList=[tt,u]∧o3.dst=some t2∧
   o4.op=.extract (.tmp t0) 1∧o4.dst=some t3∧o5.op=.entryStore t5 (.tmp tq) (.tmp t3) (.tmp t2)∧o5.dst=none)
 (pt:P.underlying t=some (.map kt et)∧hasZero P et=true∧zeroD P et=.p (.sl (some false) s0 [])∧P.underlying tt=some (.slice e)∧P.info? e=some i) (pz:(zOk i&&(i.size !=0)&&decide (i.size=T.size))=true) (pk:ZfL P kt K=true)
 (ne:t0≠t1∧t0≠t2∧t2≠t3∧tm≠t0∧tm≠t1∧tm≠t2∧tm≠t3∧tq≠t0∧tq≠t1∧tq≠t2∧tq≠t3∧tm≠tq):Lp.Ok P N body ⟨sl,es,I,[⟨.exit x0,sl2,es2,ty2⟩],L⟩:=by
 intro v o hv s hs ex vs s' hsel hf
 letI:=Ty.deq K
 subst hbody
 obtain ⟨rfl,rfl⟩:=hsel
 have hv:L v=some o:=hv
 rw [hL v] at hv
 obtain ⟨e1,e2,e3,e4,e5,rfl⟩:=Zwp hv
 have hs:X7 N sl es (ofD I v)=some s:=hs
 rw [h0 v] at hs
 cases hs
 have hf:X7 N sl2 es2 (ofD ty2 (fin v))=some s':=hf
 rw [hX v] at hf
 cases hf
 obtain ⟨i1,i2,i3,i4,i5⟩:=f0 v
 obtain ⟨j1,j2⟩:=f1 v
 rw [e1] at i1
 rw [e3] at i3
 simp only [Bool.and_eq_true,bne_iff_ne,decide_eq_true_eq] at pz
 obtain ⟨⟨pz1,pz2⟩,pz3⟩:=pz
 obtain ⟨pt1,pt2,pt3,pt4,pt5⟩:=pt
 have hce:P.cellsOf e=T.size:=by rw [←pz3];simp [Program.cellsOf,pt5]
 let h1:List TEnt:=(st v).2.set id .gone
 have hlk:lk h1=lk (st v).2:=WV i3 rfl rfl
 have herH1:erH h1=(erH (st v).2).set id .gone:=Y7 hlk
 have hset:∀(L:Lk) (l:List TD) (j:Nat) (d:TD),TD.ers L (l.set j d)=(TD.ers L l).set j (d.er L):=fun L l j d=>by rw [ZA,ZA,List.map_set]
 let pp:Nat→Option T.den:=fun j=>(lst v)[j]?
 let T0:Nat→List Dv:=fun j=>TD.ers (lk h1) (((st v).1.set tm .junk).set ti (.p (.v (.int .i64) (j:Int))))
 let TA:Nat→List Dv:=fun j=>TD.ers (lk h1) (aA v (j:Int))
 let TB:Nat→List Dv:=fun j=>match pp j with
  |some p=>TD.ers (lk (hB v (j:Int) p)) (aB v (j:Int) p)
  |none=>[]
 let TC:Nat→List Dv:=fun j=>match pp j with
  |some p=>TD.ers (lk (hB v (j:Int) p)) (aC v (j:Int) p)
  |none=>[]
 let TD':Nat→List Dv:=fun j=>match pp j with
  |some p=>TD.ers (lk (hB v (j:Int) p)) (aD v (j:Int) p)
  |none=>[]
 let HB:Nat→List Ent:=fun j=>match pp j with
  |some p=>erH (hB v (j:Int) p)
  |none=>[]
 let key:Nat→Pl:=fun j=>match pp j with
  |some p=>K.enc (kf p)
  |none=>.ptr0
 let elt:Nat→Pl:=fun j=>match pp j with
  |some p=>T.enc p
  |none=>.ptr0
 have hpp:∀(j:Nat),j < (lst v).length→∃p,pp j=some p∧(lst v)[j]? =some p∧idx (lst v) (j:Int)=some p:=fun j hj=>by
  have:(lst v)[j]? =some (lst v)[j]:=List.getElem?_eq_getElem hj
  refine ⟨_,this,this, ?_⟩
  unfold idx
  rw [if_pos (Int.natCast_nonneg j),Int.toNat_natCast]
  exact this
 have hbit:∀(j:Nat),j≤(lst v).length→decide ((j:Int) < nn v)=decide (j < (lst v).length):=fun j _=>by
  rw [e2]
  exact decide_eq_decide.2 Int.ofNat_lt
 have hBl:∀(j:Nat) p,(lst v)[j]? =some p→Zod P hi B B.toList (aA v (j:Int)) h1=some (aB v (j:Int) p,hB v (j:Int) p):=fun j p hp=>fB v j p hp
 have lenA:∀z,(aA v z).length=N:=fun z=>by
  rw [(Zer (fA v z)).1,List.length_set,List.length_set,i4]
 have lenB:∀(j:Nat) p,(lst v)[j]? =some p→(aB v (j:Int) p).length=N:=fun j p hp=>by
  rw [(Zer (hBl j p hp)).1,lenA]
 have lenC:∀(j:Nat) p,(lst v)[j]? =some p→(aC v (j:Int) p).length=N:=fun j p hp=>by
  rw [(Zer (fC v (j:Int) p)).1,List.length_set,lenB j p hp]
 have G:Gat P A B C D tc tm tq t0 t1 t2 t3 x0 T0 TA TB TC TD' HB (erH h1) keep (lst v).length T.size e key elt:=by
  refine ⟨fun j hj=> ?_,fun j hj=> ?_,fun j hj=> ?_,fun j hj=> ?_,fun j hj=> ?_,fun j hj=> ?_,fun x hx=> ?_,fun x hx=> ?_,⟨Znd C 0, ?_,mv.1,mv.2.1,mv.2.2⟩,fun j hj=> ?_,size,fun j hj=> ?_,⟨o1,o2,o3,o4,o5,t,tt,u,t5,kt,et,k,y,c,s0,i, ?_⟩,ne⟩
  ·exact (Zer (fA v (j:Int))).2
  ·have:=Zm (L:=lk h1) (fc v (j:Int))
   rw [hbit j hj] at this
   exact this
  ·obtain ⟨p,q1,q2,q3⟩:=hpp j hj
   simp only [TB,HB,q1]
   exact (Zer (hBl j p q2)).2
  ·obtain ⟨p,q1,q2,q3⟩:=hpp j hj
   simp only [TB,TC,HB,q1]
   have:=(Zer (fC v (j:Int) p)).2
   simp only [hset] at this
   exact this
  ·obtain ⟨p,q1,q2,q3⟩:=hpp j hj
   simp only [TC,TD',HB,q1]
   have:=(Zer (fD v (j:Int) p)).2
   simp only [hset] at this
   exact this
  ·obtain ⟨p,q1,q2,q3⟩:=hpp j hj
   simp only [TD',HB,q1]
   obtain ⟨d1,d2⟩:=fd v (j:Int) p
   have hl1:(erH h1).length=n0:=by rw [ZE,List.length_set,i5]
   rw [hl1]
   refine ⟨X8 (ZaX d1) d1, ?_⟩
   rw [←ZdF]
   have:=rns_er (ZaX d1) _ _ d2
   rw [this]
   congr 1
   have hw:wi ((j:Int)+1)=((j+1:Nat):Int):=by
    have:j+1≤maxLen:=by omega
    simp only [maxLen] at this
    exact Yp (by omega) (by omega)
   show TD.ers (lk h1) _=T0 (j+1)
   rw [hw]
  ·have:=List.all_eq_true.1 nw x (by
    simp only [List.mem_append]
    rcases hx with h|h|h|h
    ·exact .inl (.inl (.inl h))
    ·exact .inl (.inl (.inr h))
    ·exact .inl (.inr h)
    ·exact .inr h)
   simpa using this
  ·have:=List.all_eq_true.1 nq x hx
   simpa using this
  ·have h0:0 < C.size:=by omega
   unfold Znd
   rw [Array.getElem?_eq_getElem h0]
   rfl
  ·obtain ⟨p,q1,q2,q3⟩:=hpp j hj
   simp only [TB,q1]
   rw [ZcE,lenB j p q2]
   exact lt.1
  ·obtain ⟨p,q1,q2,q3⟩:=hpp j hj
   simp only [TC,q1]
   rw [ZcE,lenC j p q2]
   exact lt.2
  ·obtain ⟨g1,g2,g3,g4,g5,n1,n2,n3,n4,n5,r1,r2,r3,r4,r5,r6,r7,r8,r9,r10,r11,r12,r13⟩:=g
   refine ⟨g1,g2,g3,g4,g5,n1,n2,n3,n4,n5,r1,r2,r3,r4,r5,r6,r7,r8,r9,r10,r11,r12,r13,pt1,Zkb pk,pt2,pt3,pt4,pt5,pz1,pz2,pz3,e4,e5,fun j hj=> ?_,fun j hj=> ?_,fun j hj=> ?_⟩
   ·obtain ⟨p,q1,q2,q3⟩:=hpp j hj
    simp only [TC,key,q1]
    exact Zm (fk v (j:Int) p)
   ·obtain ⟨p,q1,q2,q3⟩:=hpp j hj
    simp only [key,q1]
    exact Zaa pk _
   ·obtain ⟨p,q1,q2,q3⟩:=hpp j hj
    simp only [TC,elt,q1]
    obtain ⟨d,d1,d2⟩:=Option.bind_eq_some_iff.1 (fy v (j:Int) p)
    have:=Zm (L:=lk (hB v (j:Int) p)) d1
    simp only [hset] at this
    rw [hce]
    show srcOf P T.size u (argD P (((TD.ers (lk (hB v (j:Int) p)) (aC v (j:Int) p)).set t0 .junk).set t1 .junk) u y)=_
    have e9:TD.er (lk (hB v (j:Int) p)) TD.junk=.junk:=rfl
    rw [e9] at this
    rw [this]
    exact ZcK d2
 have hdet:∀gs,GS key elt (lst v).length gs→gs.map (fun g=>(g.1,g.2.1))=Zg5 K.enc T.enc (Zbf kf (lst v)):=fun gs hgs=>by
  have:=Zva (ek:=K.enc) (ev:=T.enc) (ZiZ pk) kf (lst v) (key:=key) (elt:=elt) (fun j p hp=>by
   have:pp j=some p:=hp
   simp only [key,elt,this]
   exact ⟨trivial,trivial⟩) _ gs (Nat.le_refl _) hgs
  rw [List.take_length] at this
  exact this
 have hHid:(erH (st v).2)[id]? =some (.map tid []):=by rw [ZU i3];rfl
 have htm:(TD.ers (lk (st v).2) (st v).1)[tm]? =some (.mp id):=by rw [Zbb i2];rfl
 have hti:((st v).1.set tm .junk).set ti (.p (.v (.int .i64) ((0:Nat):Int)))=(st v).1.set tm .junk:=by
  refine List.ext_getElem? fun j=> ?_
  rw [List.getElem?_set]
  split
  ·rename_i hj
   subst hj
   have hne:tm≠ti:=fun q=>by rw [q,i1] at i2;cases i2
   rw [List.getElem?_set_ne hne,i1,if_pos (by rw [List.length_set];exact (List.getElem?_eq_some_iff.1 i1).1)]
   rfl
  ·rfl
 have hrcid:Rc (Zhs id) (lk h1) (lk h1):=fun x j t' hx=>by
  unfold Zhs at hx
  split at hx
  ·cases hx
  ·cases hx
   rfl
 have main:=Zsp G rA rB rC rD x1 (id:=id) (tid:=tid) (ts0:=TD.ers (lk (st v).2) (st v).1) (H0:=erH (st v).2) keepE hdet hHid htm herH1 (by
  have:=rns_er hrcid _ _ j1
  rw [hset] at this
  rw [hlk] at this
  show Dv.rns (Zhs id) _=some (TD.ers (lk h1) _)
  rw [hti,hset,hlk]
  exact this) (fun j x hj hx=>by
  have hx':(erH h1)[j]? =some x:=by
   rw [herH1,List.getElem?_set_ne (Ne.symm hj)]
   exact hx
  unfold erH at hx'
  rw [List.getElem?_map] at hx'
  cases hy:h1[j]? with
  |none=>rw [hy] at hx';cases hx'
  |some z=>
   rw [hy] at hx'
   cases hx'
   obtain ⟨y',y1,y2⟩:=Zvb j2 j z hy
   have:y'=z:=by
    have:h1[j]? =some y':=y1
    rw [hy] at this
    exact (Option.some.inj this).symm
   subst this
   exact ZtE hrcid y2)
 have eH:erH ((st v).2.set id (.map tid K (.sl T) (Zbf kf (lst v))))=(erH (st v).2).set id (.map tid ((Zg5 K.enc T.enc (Zbf kf (lst v))).map fun q=>(q.1,.sl none T.size q.2))):=by
  have hl2:lk ((st v).2.set id (.map tid K (.sl T) (Zbf kf (lst v))))=lk (st v).2:=WV i3 rfl rfl
  rw [Y7 hl2]
  show (erH (st v).2).set id (Ent.map tid (kvl K.enc (Ty.sl T).enc (Zbf kf (lst v))))=_
  unfold Zg5 kvl
  rw [List.map_map]
  rfl
 have eT:TD.ers (lk ((st v).2.set id (.map tid K (.sl T) (Zbf kf (lst v))))) ((ZaY keepE 0 (aA v (nn v))).set tm (.mp id))=(maskFrom keepE 0 (TA (lst v).length)).set tm (.mp id):=by
  have hl2:lk ((st v).2.set id (.map tid K (.sl T) (Zbf kf (lst v))))=lk (st v).2:=WV i3 rfl rfl
  rw [hset,ZdF,hl2, ←hlk,e2]
  rfl
 show Xf P (.loop _) (TD.ers (lk (st v).2) (st v).1) (erH (st v).2) (.exit x0) (TD.ers (lk ((st v).2.set id (.map tid K (.sl T) (Zbf kf (lst v))))) ((ZaY keepE 0 (aA v (nn v))).set tm (.mp id))) (erH ((st v).2.set id (.map tid K (.sl T) (Zbf kf (lst v)))))
 rw [eH,eT]
 exact main
end
end Go.Ev
end
section
namespace Go.Proofs.YtehgcchjaamddaaGreat
open Go.Ev Go.RowKit Go.Lib
theorem ZtX (w:World):Calls Tryz.prog 134 #[.slice none 0 0,.int .i64 0] w fun e w'=>e=.returned (.slice none 0 0)∧w'=w:=by
 go_enter Tryz.func134,Tryz.ntmps134
 go_wp2
 go_ret
 exact ⟨rfl,rfl⟩
theorem Zwq (n:Nat) (w:World) (h0:0 < n) (hn:n≤bytesBound):Calls Tryz.prog 134 #[.slice none 0 0,.int .i64 n] w fun e w'=>e=.returned (.slice (some ⟨w.heap.size,0,none⟩) 0 (grownCap w n 0 5))∧
 w'=w.drew.alloc (.cells (Builtin.zeroCells #[.int .u8 0] n++Builtin.zeroCells #[.int .u8 0] (grownCap w n 0 5 - n)) 5):=by
 have hb:n≤140737488355328:=hn
 have h1:¬((n:Int) < 0):=by omega
 have h3:wrap64 ((n:Int) - ((0:Int) - (0:Int)))=(n:Int):=by unfold wrap64;omega
 have h3':wrap64 ((n:Int) - 0)=(n:Int):=by unfold wrap64;omega
 have h3'':wrap64 (n:Int)=(n:Int):=by unfold wrap64;omega
 have h4:(n:Int) > 0:=by omega
 have hi:∃i,Tryz.prog.info? 5=some i∧i.zero=some (.int .u8 0)∧i.size=1∧i.bytes=1:=by
  have h:(Tryz.prog.info? 5).map (fun i=>(i.zero,i.size,i.bytes))=some (some (.int .u8 0),1,1):=by kernel_rfl
  obtain ⟨i,h1,h2⟩:=Option.map_eq_some_iff.1 h
  simp only [Prod.mk.injEq] at h2
  exact ⟨i,h1,h2.1,h2.2.1,h2.2.2⟩
 obtain ⟨i,hi1,hi2,hi3,hi4⟩:=hi
 have hrz:∀ty,(Builtin.append_ #[34,3] ty #[.slice none 0 0,.int .i64 n]).run Tryz.prog w=
  .ok (.slice (some ⟨w.heap.size,0,none⟩) n (grownCap w n 0 5)) (w.drew.alloc (.cells (Builtin.zeroCells #[.int .u8 0] n++Builtin.zeroCells #[.int .u8 0] (grownCap w n 0 5 - n)) 5)):=fun ty=>by
  have h:=Lib.run_append_grow_zeros (P:=Tryz.prog) w 34 3 ty 5 i (.int .u8 0) .i64 .i64 Tryz.underlying34 Tryz.underlying3 hi1 hi2 none 0 0 [] (by rw [hi3];simp [Builtin.firstCells]) n h0 (by omega) (by omega) (by omega)
   (by rw [hi4];omega) (by rw [Nat.zero_add];exact growslice_fits h0 (by rw [hi4];omega))
  simpa [Value.cells] using h
 obtain ⟨G,hG⟩:∃G,G=grownCap w n 0 5:=⟨_,rfl⟩
 have hGn:=grownCap_ge w n 0 5
 have hG63:=grownCap_le_maxLen w n 0 5 (by unfold maxLen;omega)
 unfold maxLen at hG63
 rw [←hG] at hrz hGn hG63 ⊢
 clear hG
 go_enter Tryz.func134,Tryz.ntmps134
 go_wp2_with (at_builtin;refine Lib.wpList_append_run _ rfl _ _ _ _ rfl _ _ rfl rfl _ _ (hrz _) ?_)
 all_goals (go_ret;exact ⟨rfl,rfl⟩)
theorem Zyw (n:Nat) (hn:n≤bytesBound):Con Tryz.prog 134 [.p (.sl (some false) 1 []),.p (.int .i64 (n:Int))] [] (.own 0 none 1 []) [.log 1 5 []]:=by
 intro σ vs ok hH hvs
 simp only [repVs] at hvs
 obtain ⟨v,_,rfl,hv,v2,_,rfl,hv2,rfl⟩:=hvs
 obtain rfl:=ZiC hv
 obtain rfl:v2=.int .i64 n:=by
  have:=hv2.2 rfl
  simpa [repD,repC] using this
 have hm:σ.m=[]:=List.eq_nil_of_length_eq_zero (by rw [ok.len,hH];rfl)
 rcases Nat.eq_zero_or_pos n with rfl|h0
 ·refine (ZtX σ.w).mono fun e w' ⟨he,hw⟩=> ?_
  subst he;subst hw
  obtain ⟨to,ok'⟩:=XU (σ':={ σ with m:=σ.m++[none],H:=σ.H++[.log 1 5 []]}) ok rfl rfl rfl rfl (World.grownBy.refl σ.w none) (.inl rfl) (fun _=>.inl ⟨rfl,rfl⟩)
  refine ⟨_,{ σ with m:=σ.m++[none],H:=σ.H++[.log 1 5 []]},rfl,rfl,by simp [hH],to,ok', ?_⟩
  rw [Zg rfl]
  simp only [repD]
  exact ⟨fun _ hx=>(by cases hx),none,0,rfl,Nat.le_refl _,by simp [maxLen],ZK _,fun _=>rfl,fun h=>absurd rfl h,5,[],by simp [hH],Nat.le_refl _,fun _=>.inl ⟨by simp [hm],rfl,rfl⟩⟩
 ·refine (Zwq n σ.w h0 hn).mono fun e w' ⟨he,hw⟩=> ?_
  subst he;subst hw
  have hge:=grownCap_ge σ.w n 0 5
  have hcm:=grownCap_le_maxLen σ.w n 0 5 (by have:n≤140737488355328:=hn;unfold maxLen;omega)
  have hsz:(Builtin.zeroCells #[.int .u8 0] n++Builtin.zeroCells #[.int .u8 0] (grownCap σ.w n 0 5 - n):Array Value).size=grownCap σ.w n 0 5*1:=by
   simp only [Array.size_append,size_zeroCells]
   simp
   omega
  let cs:Array Value:=Builtin.zeroCells #[.int .u8 0] n++Builtin.zeroCells #[.int .u8 0] (grownCap σ.w n 0 5 - n)
  let σ':Sg:={ σ with m:=σ.m++[some σ.w.heap.size],H:=σ.H++[.log 1 5 []],w:=σ.w.drew.alloc (.cells cs 5)}
  have hblk:σ'.w.heap[σ.w.heap.size]? =some (.cells cs 5 (0,0)):=heap_alloc_new σ.w.drew _
  obtain ⟨to,ok'⟩:=XU (σ':=σ') ok rfl rfl rfl rfl (Ya σ.w (.cells cs 5) none) (.inr ⟨_,rfl,Nat.le_refl _,by simp [σ']⟩)
   (fun leaf=>.inr ⟨σ.w.heap.size,_,grownCap σ.w n 0 5,rfl,hblk,hsz,Nat.zero_le _,hcm,fun _ hx=>(by cases hx),by simp [repCs]⟩)
  refine ⟨_,σ',rfl,rfl,by simp [σ',hH],to,ok', ?_⟩
  rw [Zg rfl]
  simp only [repD]
  exact ⟨fun _ hx=>(by cases hx),_,_,rfl,Nat.zero_le _,hcm,ZK _,fun h=>(by cases h),fun h=>absurd rfl h,5,[],by simp [σ',hH],Nat.le_refl _,fun _=>.inr ⟨_,_,by simp [σ',hm],rfl,hblk,hsz⟩⟩
end Go.Proofs.YtehgcchjaamddaaGreat
end
section
set_option maxRecDepth 4000
namespace Go.Proofs.YtehgcchjaamddaaGreat
open Go Go.Ev
noncomputable section
abbrev Zb:Ty:=(.st [(.arr 16 .u8),(.sl .u8)])
abbrev Zf:Type:=((List UInt8)×(List UInt8))
abbrev Zf.Hint (x:Zf):(List UInt8):=x.1
def Zh9 (F:Nat) (a0:Int) (a1:Int):Option (Unit⊕(Int×Int×Unit×(List Zf))):=
 if (decide (a0 < 0))=true then
  some (.inl ())
 else
 if (decide (a1 < 0))=true then
  some (.inl ())
 else
 if (decide (a1 > 4096))=true then
  some (.inl ())
 else
 some (.inr (a0,a1,(),([]:List Zf)))
def Zes (F:Nat):Fs Tryz.prog:=⟨8,[.v (.int .i64),.v (.int .i64)],[],[(.int .i64),(.int .i64)],[⟨.ret,[(0,.ptr0)],[],[]⟩,⟨.ret,[(0,.ref 0 [])],[.var (.agg [.v (.int .i64),.v (.int .i64),.own 1 Zb,.iface 69 (.v (.st []))]) true,.log Zb 36],[(.int .i64),(.int .i64),(.st []),(.sl Zb)]⟩],fun x=>Zh9 F x.1 x.2⟩
def ZkT:Fs Tryz.prog:=Zes fuel
theorem Zi7:ZkT.Ok:=Zn (fi:={ hi:={ still:=[4],ghost:=[(20,[([2],Zb,36)])]},lp:=[]}) (specs:={ l:=[]}) (okS trivial) trivial (by decide+kernel) (fun x=>by kernel_rfl)
def ZO (F:Nat) (a0:(List UInt8)):Option ((List UInt8)):=
 if (apB 0 a0.length 1)=true then
  some a0
 else
 none
def Xw (F:Nat):Fs Tryz.prog:=⟨66,[.sl true .u8],[],[(.sl .u8)],[⟨.ret,[(0,.v (.sl .u8))],[],[(.sl .u8)]⟩],fun x=>ZO F x⟩
def Zc5:Fs Tryz.prog:=Xw fuel
theorem Vn:Zc5.Ok:=Zn (fi:={ hi:={ own:=[5,7],still:=[2]},lp:=[]}) (specs:={ l:=[]}) (okS trivial) trivial (by decide+kernel) (fun x=>by kernel_rfl)
def WW (F:Nat):Option ((List UInt8)):=
 some ([]:List UInt8)
def YY (F:Nat):Fs Tryz.prog:=⟨66,[.nil .u8],[],[],[⟨.ret,[(0,.v (.sl .u8))],[],[(.sl .u8)]⟩],fun x=>WW F⟩
def Zbg:Fs Tryz.prog:=YY fuel
theorem Ww:Zbg.Ok:=Zn (fi:={ hi:={ own:=[5,7],still:=[2]},lp:=[]}) (specs:={ l:=[]}) (okS trivial) trivial (by decide+kernel) (fun x=>by kernel_rfl)
def Y8 (F:Nat):Fs Tryz.prog:=⟨66,[.v (.sl .u8)],[],[(.sl .u8)],[⟨.ret,[(0,.v (.sl .u8))],[],[(.sl .u8)]⟩],fun x=>ZO F x⟩
def Xm:Fs Tryz.prog:=Y8 fuel
theorem Y9:Xm.Ok:=ZqB (t:=.u8) (xs:=[⟨.ret,[(0,.v (.sl .u8))],[],[(.sl .u8)]⟩]) (MA:=fun (x:(List UInt8))=>ZO fuel x) (MB:=fun _=>WW fuel) Vn Ww rfl
def ZcO (F:Nat):Option ((List UInt32)):=
 some ([1779033703,3144134277,1013904242,2773480762,1359893119,2600822924,528734635,1541459225]:List UInt32)
def Zc6 (F:Nat):Fs Tryz.prog:=⟨68,[],[],[],[⟨.ret,[(0,.v (.arr 8 .u32))],[],[(.arr 8 .u32)]⟩],fun x=>ZcO F⟩
def Zi8:Fs Tryz.prog:=Zc6 fuel
theorem Zht:Zi8.Ok:=Zn (fi:={ hi:={},lp:=[]}) (specs:={ l:=[]}) (okS trivial) trivial (by decide+kernel) (fun x=>by kernel_rfl)
def Zx (F:Nat) (a0:UInt32) (a1:Int):Option (UInt32):=
 let y2:UInt32:=ZfJ a0 (min (((w64 a1)&&&31).toNat:Int).toNat 32)
 let y3:UInt32:=Ze1 a0 (min ((32 - ((w64 a1)&&&31)).toNat:Int).toNat 32)
 some (y2|||y3)
def WX (F:Nat):Fs Tryz.prog:=⟨108,[.v .u32,.v (.int .i64)],[],[.u32,(.int .i64)],[⟨.ret,[(0,.v .u32)],[],[.u32]⟩],fun x=>Zx F x.1 x.2⟩
def Vq:Fs Tryz.prog:=WX fuel
theorem WY:Vq.Ok:=Zn (fi:={ hi:={ still:=[4]},lp:=[]}) (specs:={ l:=[]}) (okS trivial) trivial (by decide+kernel) (fun x=>by kernel_rfl)
def Zbh (F:Nat) (a0:(List UInt8)):Option (UInt32):=
 (idx a0 0).bind fun e4=>
 (idx a0 1).bind fun e5=>
 let y6:UInt32:=(ZfJ (UInt32.ofNat e4.toNat) 24)|||(ZfJ (UInt32.ofNat e5.toNat) 16)
 (idx a0 2).bind fun e7=>
 (idx a0 3).bind fun e8=>
 let y9:UInt32:=(y6|||(ZfJ (UInt32.ofNat e7.toNat) 8))|||(UInt32.ofNat e8.toNat)
 some y9
def ZbQ (F:Nat):Fs Tryz.prog:=⟨128,[.v (.sl .u8)],[],[(.sl .u8)],[⟨.ret,[(0,.v .u32)],[],[.u32]⟩],fun x=>Zbh F x⟩
def Zhu:Fs Tryz.prog:=ZbQ fuel
theorem ZfR:Zhu.Ok:=Zn (fi:={ hi:={ still:=[2]},lp:=[]}) (specs:={ l:=[]}) (okS trivial) trivial (by decide+kernel) (fun x=>by kernel_rfl)
def WK (F:Nat) (s:((List UInt8)×Int×(List UInt32))):Option (((List UInt8)×Int×(List UInt32))⊕(List UInt32)):=
 if (decide (s.2.1 < 64))=true then
  if (decide (s.2.1 < 16))=true then
   if (Vw s.1.length (some (wi (4*s.2.1))) none)=true then
    (Zbh F (s.1.drop ((wi (4*s.2.1)).toNat))).bind fun o10=>
    if (inB s.2.1 64)=true then
     (s.2.2[s.2.1.toNat]?).bind fun e11=>
     some (.inl (s.1,wi (s.2.1+1),s.2.2.set s.2.1.toNat o10))
    else
    none
   else
   none
  else
  if (inB (wi (s.2.1 - 15)) 64)=true then
   (s.2.2[(wi (s.2.1 - 15)).toNat]?).bind fun e12=>
   if (inB (wi (s.2.1 - 2)) 64)=true then
    (s.2.2[(wi (s.2.1 - 2)).toNat]?).bind fun e13=>
    (Zx F e12 (-7:Int)).bind fun o14=>
    (Zx F e12 (-18:Int)).bind fun o15=>
    (Zx F e13 (-17:Int)).bind fun o16=>
    (Zx F e13 (-19:Int)).bind fun o17=>
    if (inB (wi (s.2.1 - 16)) 64)=true then
     (s.2.2[(wi (s.2.1 - 16)).toNat]?).bind fun e18=>
     if (inB (wi (s.2.1 - 7)) 64)=true then
      (s.2.2[(wi (s.2.1 - 7)).toNat]?).bind fun e19=>
      let y20:UInt32:=((e18+((o14^^^o15)^^^(Ze1 e12 3)))+e19)+((o16^^^o17)^^^(Ze1 e13 10))
      if (inB s.2.1 64)=true then
       (s.2.2[s.2.1.toNat]?).bind fun e21=>
       some (.inl (s.1,wi (s.2.1+1),s.2.2.set s.2.1.toNat y20))
      else
      none
     else
     none
    else
    none
   else
   none
  else
  none
 else
 some (.inr s.2.2)
def ZdH:Lp:=⟨[(0,.v (.sl .u8)),(2,.ref 0 []),(8,.v (.int .i64))],[.var (.v (.arr 64 .u32)) true],[(.sl .u8),(.int .i64),(.arr 64 .u32)],[⟨.exit 0,[(2,.ref 0 [])],[.var (.v (.arr 64 .u32)) true],[(.arr 64 .u32)]⟩],Zj (WK fuel) fuel⟩
theorem Zg6:ZdH.Ok Tryz.prog (Zr Tryz.prog 106) (Zp Tryz.prog 106 0):=Zo (fi:={ hi:={ still:=[17,28,30,36,38]},lp:=[]}) (specs:={ l:=[Zhu,Vq]}) (okS ⟨ZfR,WY,trivial⟩) trivial (by kernel_rfl) (fun v=>by kernel_rfl)
def Qp (F:Nat) (a0:(List UInt8)):Option ((List UInt32)):=
 (Zj (WK F) F (a0,(0:Int),([0,0,0,0,0,0,0,0,0,0,0,0,0,0,0,0,0,0,0,0,0,0,0,0,0,0,0,0,0,0,0,0,0,0,0,0,0,0,0,0,0,0,0,0,0,0,0,0,0,0,0,0,0,0,0,0,0,0,0,0,0,0,0,0]:List UInt32))).bind fun o22=>
 some o22
def QY (F:Nat):Fs Tryz.prog:=⟨106,[.v (.sl .u8)],[],[(.sl .u8)],[⟨.ret,[(0,.v (.arr 64 .u32))],[],[(.arr 64 .u32)]⟩],fun x=>Qp F x⟩
def Ze4:Fs Tryz.prog:=QY fuel
theorem ZdI:Ze4.Ok:=Zn (fi:={ hi:={ still:=[17,28,30,36,38]},lp:=[(0,ZdH)]}) (specs:={ l:=[]}) (okS trivial) ⟨Zg6,trivial⟩ (by decide+kernel) (fun x=>by kernel_rfl)
def ZfS (F:Nat):Option ((List UInt32)):=
 some ([1116352408,1899447441,3049323471,3921009573,961987163,1508970993,2453635748,2870763221,3624381080,310598401,607225278,1426881987,1925078388,2162078206,2614888103,3248222580,3835390401,4022224774,264347078,604807628,770255983,1249150122,1555081692,1996064986,2554220882,2821834349,2952996808,3210313671,3336571891,3584528711,113926993,338241895,666307205,773529912,1294757372,1396182291,1695183700,1986661051,2177026350,2456956037,2730485921,2820302411,3259730800,3345764771,3516065817,3600352804,4094571909,275423344,430227734,506948616,659060556,883997877,958139571,1322822218,1537002063,1747873779,1955562222,2024104815,2227730452,2361852424,2428436474,2756734187,3204031479,3329325298]:List UInt32)
def Zc7 (F:Nat):Fs Tryz.prog:=⟨107,[],[],[],[⟨.ret,[(0,.v (.arr 64 .u32))],[],[(.arr 64 .u32)]⟩],fun x=>ZfS F⟩
def Zi9:Fs Tryz.prog:=Zc7 fuel
theorem Zhv:Zi9.Ok:=Zn (fi:={ hi:={},lp:=[]}) (specs:={ l:=[]}) (okS trivial) trivial (by decide+kernel) (fun x=>by kernel_rfl)
def Wh (F:Nat) (s:(Int×(List UInt32)×(List UInt32)×(List UInt32)×(List UInt32)×(List UInt32))):Option ((Int×(List UInt32)×(List UInt32)×(List UInt32)×(List UInt32)×(List UInt32))⊕((List UInt32)×(List UInt32)×(List UInt32)×(List UInt32)×(List UInt32))):=
 if (decide (s.1 < 64))=true then
  (s.2.2.2.2.2[4]?).bind fun e25=>
  (Zx F e25 (-6:Int)).bind fun o26=>
  (s.2.2.2.2.2[4]?).bind fun e27=>
  (Zx F e27 (-11:Int)).bind fun o28=>
  (s.2.2.2.2.2[4]?).bind fun e29=>
  (Zx F e29 (-25:Int)).bind fun o30=>
  (s.2.2.2.2.2[7]?).bind fun e31=>
  (s.2.2.2.2.2[6]?).bind fun e32=>
  (s.2.2.2.2.2[4]?).bind fun e33=>
  (s.2.2.2.2.2[5]?).bind fun e34=>
  (s.2.2.2.2.2[6]?).bind fun e35=>
  let y36:UInt32:=(e31+((o26^^^o28)^^^o30))+(e32^^^(e33&&&(e34^^^e35)))
  if (inB s.1 64)=true then
   (s.2.2.2.2.1[s.1.toNat]?).bind fun e37=>
   if (inB s.1 64)=true then
    (s.2.2.2.1[s.1.toNat]?).bind fun e38=>
    (s.2.2.2.2.2[0]?).bind fun e39=>
    (Zx F e39 (-2:Int)).bind fun o40=>
    (s.2.2.2.2.2[0]?).bind fun e41=>
    (Zx F e41 (-13:Int)).bind fun o42=>
    (s.2.2.2.2.2[0]?).bind fun e43=>
    (Zx F e43 (-22:Int)).bind fun o44=>
    (s.2.2.2.2.2[0]?).bind fun e45=>
    (s.2.2.2.2.2[1]?).bind fun e46=>
    (s.2.2.2.2.2[2]?).bind fun e47=>
    (s.2.2.2.2.2[0]?).bind fun e48=>
    (s.2.2.2.2.2[1]?).bind fun e49=>
    let y50:UInt32:=(((y36+e37)+e38)+((o40^^^o42)^^^o44))+((e45&&&e46)|||(e47&&&(e48|||e49)))
    (s.2.2.2.2.2[0]?).bind fun e51=>
    (s.2.2.2.2.2[1]?).bind fun e52=>
    (s.2.2.2.2.2[2]?).bind fun e53=>
    (s.2.2.2.2.2[3]?).bind fun e54=>
    (s.2.2.2.2.2[4]?).bind fun e55=>
    (s.2.2.2.2.2[5]?).bind fun e56=>
    (s.2.2.2.2.2[6]?).bind fun e57=>
    some (.inl (wi (s.1+1),s.2.1,s.2.2.1,s.2.2.2.1,s.2.2.2.2.1,([y50,e51,e52,e53,e54+((y36+e37)+e38),e55,e56,e57]:List UInt32)))
   else
   none
  else
  none
 else
 some (.inr (s.2.1,s.2.2.1,s.2.2.2.1,s.2.2.2.2.1,s.2.2.2.2.2))
def ZcP:Lp:=⟨[(2,.ref 0 []),(4,.ref 1 []),(5,.ref 2 []),(6,.ref 3 []),(7,.ref 4 []),(18,.v (.int .i64))],[.var (.v (.arr 8 .u32)) true,.var (.v (.arr 8 .u32)) true,.var (.v (.arr 64 .u32)) true,.var (.v (.arr 64 .u32)) true,.var (.v (.arr 8 .u32)) true],[(.int .i64),(.arr 8 .u32),(.arr 8 .u32),(.arr 64 .u32),(.arr 64 .u32),(.arr 8 .u32)],[⟨.exit 0,[(2,.ref 0 []),(4,.ref 1 []),(7,.ref 4 [])],[.var (.v (.arr 8 .u32)) true,.var (.v (.arr 8 .u32)) true,.var (.v (.arr 64 .u32)) true,.var (.v (.arr 64 .u32)) true,.var (.v (.arr 8 .u32)) true],[(.arr 8 .u32),(.arr 8 .u32),(.arr 64 .u32),(.arr 64 .u32),(.arr 8 .u32)]⟩],Zj (Wh fuel) fuel⟩
theorem ZfT:ZcP.Ok Tryz.prog (Zr Tryz.prog 69) (Zp Tryz.prog 69 0):=Zo (fi:={ hi:={ still:=[14,22,25,29,57,60,64]},lp:=[]}) (specs:={ l:=[Vq]}) (okS ⟨WY,trivial⟩) trivial (by kernel_rfl) (fun v=>by kernel_rfl)
def Wi (F:Nat) (s:(Int×(List UInt32)×(List UInt32)×(List UInt32)×(List UInt32)×(List UInt32))):Option ((Int×(List UInt32)×(List UInt32)×(List UInt32)×(List UInt32)×(List UInt32))⊕((List UInt32)×(List UInt32)×(List UInt32)×(List UInt32)×(List UInt32))):=
 if (decide (s.1 < 8))=true then
  if (inB s.1 8)=true then
   (s.2.2.2.2.2[s.1.toNat]?).bind fun e59=>
   if (inB s.1 8)=true then
    (s.2.1[s.1.toNat]?).bind fun e60=>
    if (inB s.1 8)=true then
     (s.2.2.2.2.2[s.1.toNat]?).bind fun e61=>
     some (.inl (wi (s.1+1),s.2.1,s.2.2.1,s.2.2.2.1,s.2.2.2.2.1,s.2.2.2.2.2.set s.1.toNat (e59+e60)))
    else
    none
   else
   none
  else
  none
 else
 some (.inr (s.2.1,s.2.2.1,s.2.2.2.1,s.2.2.2.2.1,s.2.2.2.2.2))
def ZcQ:Lp:=⟨[(2,.ref 0 []),(4,.ref 1 []),(7,.ref 4 []),(104,.v (.int .i64))],[.var (.v (.arr 8 .u32)) true,.var (.v (.arr 8 .u32)) true,.var (.v (.arr 64 .u32)) true,.var (.v (.arr 64 .u32)) true,.var (.v (.arr 8 .u32)) true],[(.int .i64),(.arr 8 .u32),(.arr 8 .u32),(.arr 64 .u32),(.arr 64 .u32),(.arr 8 .u32)],[⟨.exit 2,[(4,.ref 1 []),(7,.ref 4 [])],[.var (.v (.arr 8 .u32)) true,.var (.v (.arr 8 .u32)) true,.var (.v (.arr 64 .u32)) true,.var (.v (.arr 64 .u32)) true,.var (.v (.arr 8 .u32)) true],[(.arr 8 .u32),(.arr 8 .u32),(.arr 64 .u32),(.arr 64 .u32),(.arr 8 .u32)]⟩],Zj (Wi fuel) fuel⟩
theorem ZfU:ZcQ.Ok Tryz.prog (Zr Tryz.prog 69) (Zp Tryz.prog 69 1):=Zo (fi:={ hi:={ still:=[14,22,25,29,57,60,64]},lp:=[]}) (specs:={ l:=[]}) (okS trivial) trivial (by kernel_rfl) (fun v=>by kernel_rfl)
def Xz (F:Nat) (a0:(List UInt32)) (a1:(List UInt8)):Option ((List UInt32)):=
 (Qp F a1).bind fun o23=>
 (ZfS F).bind fun o24=>
 (Zj (Wh F) F ((0:Int),a0,([0,0,0,0,0,0,0,0]:List UInt32),o23,o24,a0)).bind fun o58=>
 (Zj (Wi F) F ((0:Int),o58.1,o58.2.1,o58.2.2.1,o58.2.2.2.1,o58.2.2.2.2)).bind fun o62=>
 some o62.2.2.2.2
def Qq (F:Nat):Fs Tryz.prog:=⟨69,[.v (.arr 8 .u32),.v (.sl .u8)],[],[(.arr 8 .u32),(.sl .u8)],[⟨.ret,[(0,.v (.arr 8 .u32))],[],[(.arr 8 .u32)]⟩],fun x=>Xz F x.1 x.2⟩
def QZ:Fs Tryz.prog:=Qq fuel
theorem Qr:QZ.Ok:=Zn (fi:={ hi:={ still:=[14,22,25,29,57,60,64]},lp:=[(0,ZcP),(1,ZcQ)]}) (specs:={ l:=[Ze4,Zi9]}) (okS ⟨ZdI,Zhv,trivial⟩) ⟨ZfT,ZfU,trivial⟩ (by decide+kernel) (fun x=>by kernel_rfl)
def Zy (F:Nat) (a0:(List UInt8)):Option ((List UInt8)):=
 if (apB 0 a0.length 1)=true then
  some a0
 else
 none
def YZ (F:Nat):Fs Tryz.prog:=⟨66,[.sl true .u8],[],[(.sl .u8)],[⟨.ret,[(0,.own 0 .u8)],[.log .u8 5],[(.sl .u8)]⟩],fun x=>Zy F x⟩
def Zbi:Fs Tryz.prog:=YZ fuel
theorem Wx:Zbi.Ok:=Zn (fi:={ hi:={ own:=[2,5,7]},lp:=[]}) (specs:={ l:=[]}) (okS trivial) trivial (by decide+kernel) (fun x=>by kernel_rfl)
def WZ (F:Nat):Option ((List UInt8)):=
 some ([]:List UInt8)
def Y0 (F:Nat):Fs Tryz.prog:=⟨66,[.nil .u8],[],[],[⟨.ret,[(0,.own 0 .u8)],[.log .u8 5],[(.sl .u8)]⟩],fun x=>WZ F⟩
def Zbj:Fs Tryz.prog:=Y0 fuel
theorem Wy:Zbj.Ok:=Zn (fi:={ hi:={ own:=[2,5,7]},lp:=[]}) (specs:={ l:=[]}) (okS trivial) trivial (by decide+kernel) (fun x=>by kernel_rfl)
def YC (F:Nat):Fs Tryz.prog:=⟨66,[.v (.sl .u8)],[],[(.sl .u8)],[⟨.ret,[(0,.own 0 .u8)],[.log .u8 5],[(.sl .u8)]⟩],fun x=>Zy F x⟩
def X9:Fs Tryz.prog:=YC fuel
theorem X0:X9.Ok:=ZqB (t:=.u8) (xs:=[⟨.ret,[(0,.own 0 .u8)],[.log .u8 5],[(.sl .u8)]⟩]) (MA:=fun (x:(List UInt8))=>Zy fuel x) (MB:=fun _=>WZ fuel) Wx Wy rfl
def WC (F:Nat) (s:((List UInt8)×(List UInt8)×(List UInt8))):Option (((List UInt8)×(List UInt8)×(List UInt8))⊕((List UInt8)×(List UInt8)×(List UInt8))):=
 if ((Int.tmod (s.2.2.length:Int) 64)!=56)=true then
  if (apB s.2.2.length 1 1)=true then
   some (.inl (s.1,s.2.1,s.2.2++([0]:List UInt8)))
  else
  none
 else
 some (.inr (s.1,s.2.1,s.2.2))
def Zja:Lp:=⟨[(0,.v (.sl .u8)),(2,.ref 0 []),(3,.own 1 .u8)],[.var (.v (.arr 32 .u8)) true,.log .u8 5],[(.sl .u8),(.arr 32 .u8),(.sl .u8)],[⟨.exit 0,[(0,.v (.sl .u8)),(2,.ref 0 []),(3,.own 1 .u8)],[.var (.v (.arr 32 .u8)) true,.log .u8 5],[(.sl .u8),(.arr 32 .u8),(.sl .u8)]⟩],Zj (WC fuel) fuel⟩
theorem Zls:Zja.Ok Tryz.prog (Zr Tryz.prog 33) (Zp Tryz.prog 33 0):=Zo (fi:={ hi:={ own:=[3,14,16,21,23,24,28,43],still:=[13,24,27,35,37,44,46]},lp:=[]}) (specs:={ l:=[]}) (okS trivial) trivial (by kernel_rfl) (fun v=>by kernel_rfl)
def YD (F:Nat) (s:(Int×Int×(List UInt8)×(List UInt8))):Option ((Int×Int×(List UInt8)×(List UInt8))⊕((List UInt8)×(List UInt8))):=
 if (decide (s.2.1 ≥ 0))=true then
  if (decide (0≤s.2.1))=true then
   if (apB s.2.2.1.length 1 1)=true then
    let y66:(List UInt8):=s.2.2.1++([w8 (Int.fdiv s.1 (2 ^ (min s.2.1.toNat 64)))]:List UInt8)
    some (.inl (s.1,wi (s.2.1 - 8),y66,s.2.2.2))
   else
   none
  else
  none
 else
 some (.inr (s.2.2.1,s.2.2.2))
def Ze5:Lp:=⟨[(0,.own 0 .u8),(1,.v (.int .i64)),(5,.v (.int .i64))],[.log .u8 5,.log .u8 5],[(.int .i64),(.int .i64),(.sl .u8),(.sl .u8)],[⟨.exit 0,[(0,.own 0 .u8)],[.log .u8 5,.log .u8 5],[(.sl .u8),(.sl .u8)]⟩],Zj (YD fuel) fuel⟩
theorem Zia:Ze5.Ok Tryz.prog (Zr Tryz.prog 67) (Zp Tryz.prog 67 0):=Zo (fi:={ hi:={ own:=[0,4,10,16,17]},lp:=[]}) (specs:={ l:=[]}) (okS trivial) trivial (by kernel_rfl) (fun v=>by kernel_rfl)
def YJ (F:Nat) (a1:Int) (s0:(List UInt8)):Option ((List UInt8)):=
 (Zj (YD F) F (a1,(56:Int),s0,([]:List UInt8))).bind fun o67=>
 some o67.1
def Wz (F:Nat):Fs Tryz.prog:=⟨67,[.own 0 .u8,.v (.int .i64)],[.log .u8 5],[(.int .i64),(.sl .u8)],[⟨.ret,[(0,.own 0 .u8)],[.log .u8 5],[(.sl .u8)]⟩],fun x=>YJ F x.1 x.2⟩
def ZbR:Fs Tryz.prog:=Wz fuel
theorem VF:ZbR.Ok:=Zn (fi:={ hi:={ own:=[0,4,10,16,17]},lp:=[(0,Ze5)]}) (specs:={ l:=[]}) (okS trivial) ⟨Zia,trivial⟩ (by decide+kernel) (fun x=>by kernel_rfl)
def WD (F:Nat) (s:((List UInt8)×(List UInt8)×(List UInt8)×(List UInt32))):Option (((List UInt8)×(List UInt8)×(List UInt8)×(List UInt32))⊕((List UInt8)×(List UInt8)×(List UInt32))):=
 if (decide ((s.1.length:Int) ≥ 64))=true then
  if (Vw s.1.length none (some 64))=true then
   (Xz F s.2.2.2 (s.1.take 64)).bind fun o70=>
   if (Vw s.1.length (some 64) none)=true then
    some (.inl (s.1.drop 64,s.2.1,s.2.2.1,o70))
   else
   none
  else
  none
 else
 some (.inr (s.2.1,s.2.2.1,s.2.2.2))
def Zjb:Lp:=⟨[(0,.v (.sl .u8)),(2,.ref 0 []),(3,.own 1 .u8),(4,.ref 2 [])],[.var (.v (.arr 32 .u8)) true,.log .u8 5,.var (.v (.arr 8 .u32)) true],[(.sl .u8),(.arr 32 .u8),(.sl .u8),(.arr 8 .u32)],[⟨.exit 2,[(2,.ref 0 []),(3,.own 1 .u8),(4,.ref 2 [])],[.var (.v (.arr 32 .u8)) true,.log .u8 5,.var (.v (.arr 8 .u32)) true],[(.arr 32 .u8),(.sl .u8),(.arr 8 .u32)]⟩],Zj (WD fuel) fuel⟩
theorem Zlt:Zjb.Ok Tryz.prog (Zr Tryz.prog 33) (Zp Tryz.prog 33 1):=Zo (fi:={ hi:={ own:=[3,14,16,21,23,24,28,43],still:=[13,24,27,35,37,44,46]},lp:=[]}) (specs:={ l:=[QZ]}) (okS ⟨Qr,trivial⟩) trivial (by kernel_rfl) (fun v=>by kernel_rfl)
def WE (F:Nat) (s:((List UInt8)×(List UInt8)×(List UInt8)×(List UInt32))):Option (((List UInt8)×(List UInt8)×(List UInt8)×(List UInt32))⊕((List UInt8)×(List UInt8)×(List UInt32))):=
 if (decide ((s.1.length:Int) > 0))=true then
  if (Vw s.1.length none (some 64))=true then
   (Xz F s.2.2.2 (s.1.take 64)).bind fun o73=>
   if (Vw s.1.length (some 64) none)=true then
    some (.inl (s.1.drop 64,s.2.1,s.2.2.1,o73))
   else
   none
  else
  none
 else
 some (.inr (s.2.1,s.2.2.1,s.2.2.2))
def Zjc:Lp:=⟨[(2,.ref 0 []),(3,.v (.sl .u8)),(4,.ref 2 [])],[.var (.v (.arr 32 .u8)) true,.log .u8 5,.var (.v (.arr 8 .u32)) true],[(.sl .u8),(.arr 32 .u8),(.sl .u8),(.arr 8 .u32)],[⟨.exit 4,[(2,.ref 0 []),(4,.ref 2 [])],[.var (.v (.arr 32 .u8)) true,.log .u8 5,.var (.v (.arr 8 .u32)) true],[(.arr 32 .u8),(.sl .u8),(.arr 8 .u32)]⟩],Zj (WE fuel) fuel⟩
theorem Zlu:Zjc.Ok Tryz.prog (Zr Tryz.prog 33) (Zp Tryz.prog 33 2):=Zo (fi:={ hi:={ own:=[3,14,16,21,23,24,28,43],still:=[13,24,27,35,37,44,46]},lp:=[]}) (specs:={ l:=[QZ]}) (okS ⟨Qr,trivial⟩) trivial (by kernel_rfl) (fun v=>by kernel_rfl)
def XS (F:Nat) (s:(Int×(List UInt8)×(List UInt8)×(List UInt32))):Option ((Int×(List UInt8)×(List UInt8)×(List UInt32))⊕((List UInt8)×(List UInt8)×(List UInt32))):=
 if (decide (s.1 < 32))=true then
  if (inB (wi (Int.tdiv s.1 4)) 8)=true then
   (s.2.2.2[(wi (Int.tdiv s.1 4)).toNat]?).bind fun e75=>
   if (decide (0≤wi (24 - (wi (8*(Int.tmod s.1 4))))))=true then
    let y76:UInt32:=Ze1 e75 (min (wi (24 - (wi (8*(Int.tmod s.1 4))))).toNat 32)
    if (inB s.1 32)=true then
     (s.2.1[s.1.toNat]?).bind fun e77=>
     some (.inl (wi (s.1+1),s.2.1.set s.1.toNat (w8 (y76.toNat:Int)),s.2.2.1,s.2.2.2))
    else
    none
   else
   none
  else
  none
 else
 some (.inr (s.2.1,s.2.2.1,s.2.2.2))
def Zjd:Lp:=⟨[(2,.ref 0 []),(4,.ref 2 []),(48,.v (.int .i64))],[.var (.v (.arr 32 .u8)) true,.log .u8 5,.var (.v (.arr 8 .u32)) true],[(.int .i64),(.arr 32 .u8),(.sl .u8),(.arr 8 .u32)],[⟨.exit 6,[(2,.ref 0 [])],[.var (.v (.arr 32 .u8)) true,.log .u8 5,.var (.v (.arr 8 .u32)) true],[(.arr 32 .u8),(.sl .u8),(.arr 8 .u32)]⟩],Zj (XS fuel) fuel⟩
theorem Zlv:Zjd.Ok Tryz.prog (Zr Tryz.prog 33) (Zp Tryz.prog 33 3):=Zo (fi:={ hi:={ own:=[3,14,16,21,23,24,28,43],still:=[13,24,27,35,37,44,46]},lp:=[]}) (specs:={ l:=[]}) (okS trivial) trivial (by kernel_rfl) (fun v=>by kernel_rfl)
def VO (F:Nat) (a0:(List UInt8)):Option ((List UInt8)):=
 let y63:Int:=wi ((a0.length:Int) - (Int.tmod (a0.length:Int) 64))
 if (Vw a0.length (some y63) none)=true then
  (Zy F (a0.drop y63.toNat)).bind fun o64=>
  if (apB o64.length 1 1)=true then
   (Zj (WC F) F (a0,([0,0,0,0,0,0,0,0,0,0,0,0,0,0,0,0,0,0,0,0,0,0,0,0,0,0,0,0,0,0,0,0]:List UInt8),o64++([128]:List UInt8))).bind fun o65=>
   (YJ F (wi (8*(o65.1.length:Int))) o65.2.2).bind fun o68=>
   (ZcO F).bind fun o69=>
   (Zj (WD F) F (o65.1,o65.2.1,o68,o69)).bind fun o71=>
   (Zj (WE F) F (o71.2.1,o71.1,o71.2.1,o71.2.2)).bind fun o74=>
   (Zj (XS F) F ((0:Int),o74.1,o74.2.1,o74.2.2)).bind fun o78=>
   some o78.1
  else
  none
 else
 none
def Zet (F:Nat):Fs Tryz.prog:=⟨33,[.v (.sl .u8)],[],[(.sl .u8)],[⟨.ret,[(0,.v (.arr 32 .u8))],[],[(.arr 32 .u8)]⟩],fun x=>VO F x⟩
def Zsq:Fs Tryz.prog:=Zet fuel
theorem ZqH:Zsq.Ok:=Zn (fi:={ hi:={ own:=[3,14,16,21,23,24,28,43],still:=[13,24,27,35,37,44,46]},lp:=[(0,Zja),(1,Zjb),(2,Zjc),(3,Zjd)]}) (specs:={ l:=[ZbR,X9,Zi8]}) (okS ⟨VF,X0,Zht,trivial⟩) ⟨Zls,Zlt,Zlu,Zlv,trivial⟩ (by decide+kernel) (fun x=>by kernel_rfl)
end
end Go.Proofs.YtehgcchjaamddaaGreat
end
section
namespace Go.Sha
open Go.Ev
noncomputable def Vx {α:Type} (n:Nat) (k:Nat→α):α:=Nat.rec (motive:=fun _=>α) (k 0) (fun m _=>k (Nat.succ m)) n
theorem YO {α:Type} (n:Nat) (k:Nat→α):Vx n k=k n:=by cases n <;> rfl
def dbl (x:Nat):Nat:=Nat.mul x 4294967297
def s0 (x:Nat):Nat:=Nat.xor (Nat.xor (Nat.shiftRight (dbl x) 7) (Nat.shiftRight (dbl x) 18)) (Nat.shiftRight x 3)
def s1 (x:Nat):Nat:=Nat.xor (Nat.xor (Nat.shiftRight (dbl x) 17) (Nat.shiftRight (dbl x) 19)) (Nat.shiftRight x 10)
def S0 (x:Nat):Nat:=Nat.xor (Nat.xor (Nat.shiftRight (dbl x) 2) (Nat.shiftRight (dbl x) 13)) (Nat.shiftRight (dbl x) 22)
def S1 (x:Nat):Nat:=Nat.xor (Nat.xor (Nat.shiftRight (dbl x) 6) (Nat.shiftRight (dbl x) 11)) (Nat.shiftRight (dbl x) 25)
def ch (e f g:Nat):Nat:=Nat.xor g (Nat.land e (Nat.xor f g))
def mj (a b c:Nat):Nat:=Nat.lor (Nat.land a b) (Nat.land c (Nat.lor a b))
def lo (x:Nat):Nat:=Nat.mod x 4294967296
def kw (W:Nat):Nat:=lo (Nat.add (Nat.add (Nat.add (Nat.shiftRight W 480) (s0 (lo (Nat.shiftRight W 448)))) (lo (Nat.shiftRight W 192))) (s1 (lo (Nat.shiftRight W 32))))
def kn (W:Nat):Nat:=Nat.mod (Nat.add (Nat.mul W 4294967296) (kw W)) (Nat.pow 2 512)
noncomputable def kst (k:Nat) (ih:Nat→Nat→Nat→Nat→Nat→Nat→Nat→Nat→Nat→Nat) (W a b c d e f g h:Nat):Nat:=
 Vx (Nat.add (Nat.add (Nat.add (Nat.add h (S1 e)) (ch e f g)) k) (Nat.shiftRight W 480)) fun t=>
     Vx (lo (Nat.add (Nat.add t (S0 a)) (mj a b c))) fun a'=>Vx (lo (Nat.add d t)) fun e'=>Vx (kn W) fun W'=>ih W' a' a b c e' e f g
noncomputable def kgo (ks:List Nat) (K:Nat→Nat→Nat→Nat→Nat→Nat→Nat→Nat→Nat):Nat→Nat→Nat→Nat→Nat→Nat→Nat→Nat→Nat→Nat:=
 List.rec (motive:=fun _=>Nat→Nat→Nat→Nat→Nat→Nat→Nat→Nat→Nat→Nat) (fun _=>K) (fun k _ ih=>kst k ih) ks
def ks:List Nat:=[1116352408,1899447441,3049323471,3921009573,961987163,1508970993,2453635748,2870763221,3624381080,310598401,607225278,1426881987,1925078388,2162078206,2614888103,3248222580,3835390401,4022224774,264347078,604807628,770255983,1249150122,1555081692,1996064986,2554220882,2821834349,2952996808,3210313671,3336571891,3584528711,113926993,338241895,666307205,773529912,1294757372,1396182291,1695183700,1986661051,2177026350,2456956037,2730485921,2820302411,3259730800,3345764771,3516065817,3600352804,4094571909,275423344,430227734,506948616,659060556,883997877,958139571,1322822218,1537002063,1747873779,1955562222,2024104815,2227730452,2361852424,2428436474,2756734187,3204031479,3329325298]
def w32 (H i:Nat):Nat:=lo (Nat.shiftRight H i)
def cat (H x:Nat):Nat:=Nat.add (Nat.mul H 4294967296) (lo x)
noncomputable def ZAa (H B:Nat):Nat:=
 Vx (w32 H 224) fun a=>Vx (w32 H 192) fun b=>Vx (w32 H 160) fun c=>Vx (w32 H 128) fun d=>Vx (w32 H 96) fun e=>Vx (w32 H 64) fun f=>Vx (w32 H 32) fun g=>Vx (w32 H 0) fun h=>
  kgo ks (fun a' b' c' d' e' f' g' h'=>cat (cat (cat (cat (cat (cat (cat (cat 0 (Nat.add a' a)) (Nat.add b' b)) (Nat.add c' c)) (Nat.add d' d)) (Nat.add e' e)) (Nat.add f' f)) (Nat.add g' g)) (Nat.add h' h)) B a b c d e f g h
noncomputable def pk (l:List Nat) (n:Nat):Nat:=List.rec (motive:=fun _=>Nat→Nat) (fun n=>n) (fun x _ ih n=>Vx (Nat.add (Nat.mul n 256) x) ih) l n
noncomputable def ZBG (n:Nat) (l:List Nat) (H:Nat):Nat:=
 Nat.rec (motive:=fun _=>List Nat→Nat→Nat) (fun _ H=>H) (fun _ ih l H=>Vx (ZAa H (pk (l.take 64) 0)) fun H'=>ih (l.drop 64) H') n l H
noncomputable def outs (H:Nat) (l:List Nat):List UInt8:=List.rec (motive:=fun _=>List UInt8) [] (fun s _ ih=>Vx (Nat.mod (Nat.shiftRight H s) 256) fun x=>UInt8.ofNat x::ih) l
def ZtY:List Nat:=[248,240,232,224,216,208,200,192,184,176,168,160,152,144,136,128,120,112,104,96,88,80,72,64,56,48,40,32,24,16,8,0]
def be8 (n:Nat):List Nat:=[n / 2 ^ 56 % 256,n / 2 ^ 48 % 256,n / 2 ^ 40 % 256,n / 2 ^ 32 % 256,n / 2 ^ 24 % 256,n / 2 ^ 16 % 256,n / 2 ^ 8 % 256,n % 256]
def zs (n:Nat):Nat:=(119 - n % 64) % 64
def H0:Nat:=cat (cat (cat (cat (cat (cat (cat (cat 0 1779033703) 3144134277) 1013904242) 2773480762) 1359893119) 2600822924) 528734635) 1541459225
noncomputable def sha (l:List UInt8):List UInt8:=
 Vx l.length fun n=>Vx (ZBG (Nat.div (Nat.add n 72) 64) (l.map UInt8.toNat++(128::(List.replicate (zs n) 0++be8 (8*n)))) H0) fun H=>outs H ZtY
theorem ZfV (x y:UInt32):(x+y).toNat=lo (x.toNat+y.toNat):=by rw [UInt32.toNat_add];rfl
theorem Zhw (x y:UInt32):(x^^^y).toNat=Nat.xor x.toNat y.toNat:=UInt32.toNat_xor ..
theorem Zyx (x y:UInt32):(x&&&y).toNat=Nat.land x.toNat y.toNat:=UInt32.toNat_and ..
theorem Zwr (x y:UInt32):(x|||y).toNat=Nat.lor x.toNat y.toNat:=UInt32.toNat_or ..
theorem ZBH (x:UInt32):x.toNat < 4294967296:=x.toNat_lt
theorem Zsr (x:UInt32) (n:Nat):(Ze1 x n).toNat=Nat.shiftRight x.toNat n:=by
 unfold Ze1
 rw [UInt32.toNat_ofNat',show Nat.shiftRight x.toNat n=x.toNat >>> n from rfl,Nat.shiftRight_eq_div_pow]
 exact Nat.mod_eq_of_lt (Nat.lt_of_le_of_lt (Nat.div_le_self _ _) (ZBH x))
theorem ZAx (x:Nat):lo x < 4294967296:=Nat.mod_lt _ (by omega)
theorem QM {x:Nat} (h:x < 4294967296):lo x=x:=Nat.mod_eq_of_lt h
theorem ZB9 (x:UInt32) {n k:Nat} (h:n+k=32) (hn:0 < n):(ZfJ x k|||Ze1 x n).toNat=lo (Nat.shiftRight (dbl x.toNat) n):=by
 rw [Zwr,Zsr]
 unfold ZfJ
 have hx:=ZBH x
 generalize x.toNat=m at hx
 have hp:2 ^ n*2 ^ k=4294967296:=by rw [←Nat.pow_add,h]
 rw [UInt32.toNat_ofNat',show Nat.shiftRight m n=m >>> n from rfl,Nat.shiftRight_eq_div_pow,show Nat.shiftRight (dbl m) n=(dbl m) >>> n from rfl,Nat.shiftRight_eq_div_pow]
 have e1:m*2 ^ k % 2 ^ 32=2 ^ k*(m % 2 ^ n):=by
  rw [show (2:Nat) ^ 32=2 ^ n*2 ^ k from hp.symm,Nat.mul_mod_mul_right]
  exact Nat.mul_comm ..
 have hd:m / 2 ^ n < 2 ^ k:=by
  rw [Nat.div_lt_iff_lt_mul (Nat.two_pow_pos n),Nat.mul_comm,hp]
  exact hx
 rw [e1,show Nat.lor (2 ^ k*(m % 2 ^ n)) (m / 2 ^ n)=2 ^ k*(m % 2 ^ n)|||m / 2 ^ n from rfl, ←Nat.two_pow_add_eq_or_of_lt hd]
 have e2:dbl m=2 ^ n*(m*2 ^ k)+m:=by
  unfold dbl
  rw [Nat.mul_left_comm,hp,show Nat.mul m 4294967297=m*4294967297 from rfl]
  omega
 rw [e2,Nat.mul_add_div (Nat.two_pow_pos n)]
 unfold lo
 rw [show Nat.mod (m*2 ^ k+m / 2 ^ n) 4294967296=(m*2 ^ k+m / 2 ^ n) % 4294967296 from rfl,Nat.add_mod,show m*2 ^ k % 4294967296=2 ^ k*(m % 2 ^ n) from e1,Nat.mod_eq_of_lt (a:=m / 2 ^ n) (b:=4294967296) (by rw [←hp];exact Nat.lt_of_lt_of_le hd (Nat.le_mul_of_pos_left _ (Nat.two_pow_pos n)))]
 refine (Nat.mod_eq_of_lt ?_).symm
 have hm:m % 2 ^ n < 2 ^ n:=Nat.mod_lt _ (Nat.two_pow_pos n)
 calc 2 ^ k*(m % 2 ^ n)+m / 2 ^ n < 2 ^ k*(m % 2 ^ n)+2 ^ k:=by omega
  _=2 ^ k*(m % 2 ^ n+1):=by rw [Nat.mul_add,Nat.mul_one]
  _≤2 ^ k*2 ^ n:=Nat.mul_le_mul_left _ hm
  _=4294967296:=by rw [Nat.mul_comm,hp]
theorem ZfW (x y:Nat):lo (Nat.xor x y)=Nat.xor (lo x) (lo y):=Nat.xor_mod_two_pow (n:=32)
theorem Zyy (x:UInt32) (n:Nat):lo (Nat.shiftRight x.toNat n)=Nat.shiftRight x.toNat n:=by
 rw [←Zsr]
 exact QM (ZBH _)
theorem ZCe (x:UInt32) {a b:UInt32} (ha:a.toNat=lo (Nat.shiftRight (dbl x.toNat) 7)) (hb:b.toNat=lo (Nat.shiftRight (dbl x.toNat) 18)):((a^^^b)^^^Ze1 x 3).toNat=lo (s0 x.toNat):=by
 unfold s0
 rw [Zhw,Zhw,Zsr,ha,hb,ZfW,ZfW,Zyy]
theorem ZCf (x:UInt32) {a b:UInt32} (ha:a.toNat=lo (Nat.shiftRight (dbl x.toNat) 17)) (hb:b.toNat=lo (Nat.shiftRight (dbl x.toNat) 19)):((a^^^b)^^^Ze1 x 10).toNat=lo (s1 x.toNat):=by
 unfold s1
 rw [Zhw,Zhw,Zsr,ha,hb,ZfW,ZfW,Zyy]
theorem ZCg (x:UInt32) {a b c:UInt32} (ha:a.toNat=lo (Nat.shiftRight (dbl x.toNat) 2)) (hb:b.toNat=lo (Nat.shiftRight (dbl x.toNat) 13)) (hc:c.toNat=lo (Nat.shiftRight (dbl x.toNat) 22)):((a^^^b)^^^c).toNat=lo (S0 x.toNat):=by
 unfold S0
 rw [Zhw,Zhw,ha,hb,hc,ZfW,ZfW]
theorem ZCh (x:UInt32) {a b c:UInt32} (ha:a.toNat=lo (Nat.shiftRight (dbl x.toNat) 6)) (hb:b.toNat=lo (Nat.shiftRight (dbl x.toNat) 11)) (hc:c.toNat=lo (Nat.shiftRight (dbl x.toNat) 25)):((a^^^b)^^^c).toNat=lo (S1 x.toNat):=by
 unfold S1
 rw [Zhw,Zhw,ha,hb,hc,ZfW,ZfW]
theorem ZCi (e f g:UInt32):(g^^^(e&&&(f^^^g))).toNat=ch e.toNat f.toNat g.toNat:=by
 unfold ch
 rw [Zhw,Zyx,Zhw]
theorem ZCj (a b c:UInt32):((a&&&b)|||(c&&&(a|||b))).toNat=mj a.toNat b.toNat c.toNat:=by
 unfold mj
 rw [Zwr,Zyx,Zyx,Zwr]
theorem ZCk (a b c d:Nat):lo (lo (lo (a+lo b)+c)+lo d)=lo (a+b+c+d):=by
 show (((a+b % 4294967296) % 4294967296+c) % 4294967296+d % 4294967296) % 4294967296=(a+b+c+d) % 4294967296
 omega
theorem ZCl (a b c d e:Nat):lo (lo (lo (lo (a+lo b)+c)+d)+e)=lo (Nat.add (Nat.add (Nat.add (Nat.add a b) c) d) e):=by
 show ((((a+b % 4294967296) % 4294967296+c) % 4294967296+d) % 4294967296+e) % 4294967296=(a+b+c+d+e) % 4294967296
 omega
theorem ZCm (t s m:Nat):lo (lo (lo t+lo s)+m)=lo (Nat.add (Nat.add t s) m):=by
 show ((t % 4294967296+s % 4294967296) % 4294967296+m) % 4294967296=(t+s+m) % 4294967296
 omega
theorem ZCn (d t:Nat):lo (d+lo t)=lo (Nat.add d t):=by
 show (d+t % 4294967296) % 4294967296=(d+t) % 4294967296
 omega
def pw (n:Nat) (l:List Nat):Nat:=l.foldl (fun n x=>n*4294967296+x) n
theorem ZtZ:∀(l:List Nat) (n:Nat),(∀x,x∈l→x < 4294967296)→pw n l / 2 ^ (32*l.length)=n
 |[],n,_=>by simp [pw]
 |x::r,n,h=>by
  have ih:=ZtZ r (n*4294967296+x) (fun y hy=>h y (List.mem_cons_of_mem _ hy))
  have hx:=h x (List.mem_cons_self ..)
  rw [show pw n (x::r)=pw (n*4294967296+x) r from rfl,List.length_cons,show 32*(r.length+1)=32*r.length+32 by omega,Nat.pow_add, ←Nat.div_div_eq_div_mul,ih]
  omega
theorem Zje:∀(l:List Nat) (n:Nat),pw n l=n*2 ^ (32*l.length)+pw 0 l
 |[],n=>by simp [pw]
 |x::r,n=>by
  rw [show pw n (x::r)=pw (n*4294967296+x) r from rfl,show pw 0 (x::r)=pw (0*4294967296+x) r from rfl,Zje r (n*4294967296+x),Zje r (0*4294967296+x),List.length_cons,show 32*(r.length+1)=32+32*r.length by omega,Nat.pow_add,Nat.zero_mul,
   Nat.zero_add,Nat.add_mul, ←Nat.mul_assoc,Nat.add_assoc]
theorem ZAy:∀(l:List Nat),(∀x,x∈l→x < 4294967296)→pw 0 l < 2 ^ (32*l.length)
 |[],_=>by simp [pw]
 |x::r,h=>by
  have ih:=ZAy r (fun y hy=>h y (List.mem_cons_of_mem _ hy))
  have hx:=h x (List.mem_cons_self ..)
  rw [show pw 0 (x::r)=pw (0*4294967296+x) r from rfl,Zje,List.length_cons,show 32*(r.length+1)=32+32*r.length by omega,Nat.pow_add,Nat.zero_mul,Nat.zero_add]
  have:(x+1)*2 ^ (32*r.length)≤2 ^ 32*2 ^ (32*r.length):=Nat.mul_le_mul_right _ (by omega)
  rw [Nat.add_mul,Nat.one_mul] at this
  omega
theorem ZAz {n x s:Nat} {r:List Nat} (h:∀y,y∈r→y < 4294967296) (hs:s=32*r.length):Nat.shiftRight (pw n (x::r)) s=n*4294967296+x:=by
 subst hs
 rw [show Nat.shiftRight (pw n (x::r)) (32*r.length)=pw n (x::r) >>> (32*r.length) from rfl,Nat.shiftRight_eq_div_pow]
 exact ZtZ r (n*4294967296+x) h
theorem ZAA {n x s:Nat} {r:List Nat} (hx:x < 4294967296) (h:∀y,y∈r→y < 4294967296) (hs:s=32*r.length):lo (Nat.shiftRight (pw n (x::r)) s)=x:=by
 rw [ZAz h hs]
 show (n*4294967296+x) % 4294967296=x
 omega
theorem Zt0 (n:Nat) (l r:List Nat):pw n (l++r)=pw (pw n l) r:=List.foldl_append ..
theorem Zvc (n x:Nat) (r:List Nat):pw n (x::r)=pw (n*4294967296+x) r:=rfl
theorem ZcR {v l r:List Nat} {x s:Nat} (e:v=l++x::r) (h:∀y,y∈v→y < 4294967296) (hs:s=32*r.length):lo (Nat.shiftRight (pw 0 v) s)=x:=by
 rw [e] at h ⊢
 rw [Zt0]
 exact ZAA (h x (by simp)) (fun y hy=>h y (by simp [hy])) hs
def wd (ws:List Nat) (n:Nat):Nat:=if h:n < 16 then lo (ws.getD n 0) else lo (wd ws (n - 16)+s0 (wd ws (n - 15))+wd ws (n - 7)+s1 (wd ws (n - 2)))
termination_by n
decreasing_by all_goals omega
theorem ZCa (ws:List Nat) (n:Nat):wd ws n < 4294967296:=by
 rw [wd]
 split <;> exact ZAx _
theorem Zvd (ws:List Nat) (n:Nat):wd ws (n+16)=lo (wd ws n+s0 (wd ws (n+1))+wd ws (n+9)+s1 (wd ws (n+14))):=by
 rw [wd,dif_neg (by omega)]
 simp only [Nat.add_sub_cancel,show n+16 - 15=n+1 by omega,show n+16 - 7=n+9 by omega,show n+16 - 2=n+14 by omega]
def win (ws:List Nat) (i:Nat):List Nat:=[wd ws i,wd ws (i+1),wd ws (i+2),wd ws (i+3),wd ws (i+4),wd ws (i+5),wd ws (i+6),wd ws (i+7),wd ws (i+8),wd ws (i+9),wd ws (i+10),wd ws (i+11),wd ws (i+12),wd ws (i+13),wd ws (i+14),wd ws (i+15)]
theorem Zt1 {ws:List Nat} {i:Nat} {l:List Nat} (h:∀x,x∈l→∃j,x=wd ws j):∀x,x∈l→x < 4294967296:=fun x hx=>by
 obtain ⟨j,rfl⟩:=h x hx
 exact ZCa _ _
theorem Zve (ws:List Nat) (i:Nat):Nat.shiftRight (pw 0 (win ws i)) 480=wd ws i:=by
 have h:=ZAz (n:=0) (x:=wd ws i) (s:=480) (r:=(win ws i).tail) (Zt1 (ws:=ws) (i:=i) (fun x hx=>by
  simp only [win,List.tail_cons,List.mem_cons,List.not_mem_nil,or_false] at hx
  rcases hx with h|h|h|h|h|h|h|h|h|h|h|h|h|h|h <;> exact ⟨_,h⟩)) rfl
 rw [Nat.zero_mul,Nat.zero_add] at h
 exact h
theorem ZBI (ws:List Nat) (i:Nat):kw (pw 0 (win ws i))=wd ws (i+16):=by
 have key:∀(l r:List Nat) (x s:Nat),win ws i=l++x::r→s=32*r.length→lo (Nat.shiftRight (pw 0 (win ws i)) s)=x:=by
  intro l r x s e hs
  have hall:∀y,y∈win ws i→y < 4294967296:=Zt1 (i:=i) fun x hx=>by
   simp only [win,List.mem_cons,List.not_mem_nil,or_false] at hx
   rcases hx with h|h|h|h|h|h|h|h|h|h|h|h|h|h|h|h <;> exact ⟨_,h⟩
  rw [e] at hall ⊢
  rw [Zt0]
  exact ZAA (hall x (by simp)) (fun y hy=>hall y (by simp [hy])) hs
 unfold kw
 rw [Zve,key [_] _ (wd ws (i+1)) 448 rfl rfl,key [_,_,_,_,_,_,_,_,_] _ (wd ws (i+9)) 192 rfl rfl,key [_,_,_,_,_,_,_,_,_,_,_,_,_,_] _ (wd ws (i+14)) 32 rfl rfl,Zvd]
 rfl
theorem ZAb (a b m:Nat) (h:b < 2 ^ m):Nat.mod (a*2 ^ m+b) (Nat.pow 2 m)=b:=by
 show (a*2 ^ m+b) % 2 ^ m=b
 rw [Nat.mul_comm,Nat.mul_add_mod]
 exact Nat.mod_eq_of_lt h
theorem ZBJ (ws:List Nat) (i:Nat):kn (pw 0 (win ws i))=pw 0 (win ws (i+1)):=by
 have e:Nat.add (Nat.mul (pw 0 (win ws i)) 4294967296) (kw (pw 0 (win ws i)))=pw (wd ws i) (win ws (i+1)):=by
  rw [ZBI]
  show pw 0 (win ws i)*4294967296+wd ws (i+16)=pw (wd ws i) (win ws (i+1))
  rw [show wd ws i=0*4294967296+wd ws i by omega]
  rfl
 unfold kn
 rw [e,Zje]
 have hl:(win ws (i+1)).length=16:=rfl
 have hlt:=ZAy (win ws (i+1)) (Zt1 (i:=i+1) fun x hx=>by
  simp only [win,List.mem_cons,List.not_mem_nil,or_false] at hx
  rcases hx with h|h|h|h|h|h|h|h|h|h|h|h|h|h|h|h <;> exact ⟨_,h⟩)
 rw [show 512=32*(win ws (i+1)).length by rw [hl]]
 exact ZAb _ _ _ hlt
def rnd (v:List Nat) (k w:Nat):List Nat:=match v with
 |[a,b,c,d,e,f,g,h]=>[lo (Nat.add (Nat.add (Nat.add (Nat.add (Nat.add (Nat.add h (S1 e)) (ch e f g)) k) w) (S0 a)) (mj a b c)),a,b,c,lo (Nat.add d (Nat.add (Nat.add (Nat.add (Nat.add h (S1 e)) (ch e f g)) k) w)),e,f,g]
 |_=>[]
def rs (ws v:List Nat):Nat→List Nat
 |0=>v
 |i+1=>rnd (rs ws v i) (ks.getD i 0) (wd ws i)
theorem ZAc {v:List Nat} (h:v.length=8) (k w:Nat):(rnd v k w).length=8:=by
 match v,h with
 |[a,b,c,d,e,f,g,h],_=>rfl
theorem ZqI {ws v:List Nat} (h:v.length=8):∀i,(rs ws v i).length=8
 |0=>h
 |i+1=>ZAc (ZqI h i) _ _
noncomputable def Zyz (f:Nat→Nat→Nat→Nat→Nat→Nat→Nat→Nat→Nat) (v:List Nat):Nat:=match v with
 |[a,b,c,d,e,f',g,h]=>f a b c d e f' g h
 |_=>0
theorem Zg0 {F:Nat→Nat→Nat→Nat→Nat→Nat→Nat→Nat→Nat} {a b c d e f g h:Nat}:Zyz F [a,b,c,d,e,f,g,h]=F a b c d e f g h:=rfl
theorem ZyA (k:Nat) (l:List Nat) (K:Nat→Nat→Nat→Nat→Nat→Nat→Nat→Nat→Nat):kgo (k::l) K=kst k (kgo l K):=rfl
theorem Zss (a b c d e f g h k w:Nat):rnd [a,b,c,d,e,f,g,h] k w=[lo (Nat.add (Nat.add (Nat.add (Nat.add (Nat.add (Nat.add h (S1 e)) (ch e f g)) k) w) (S0 a)) (mj a b c)),a,b,c,lo (Nat.add d (Nat.add (Nat.add (Nat.add (Nat.add h (S1 e)) (ch e f g)) k) w)),e,f,g]:=rfl
theorem ZBK (k:Nat) (ih:Nat→Nat→Nat→Nat→Nat→Nat→Nat→Nat→Nat→Nat) (W a b c d e f g h:Nat):kst k ih W a b c d e f g h=
 ih (kn W) (lo (Nat.add (Nat.add (Nat.add (Nat.add (Nat.add (Nat.add h (S1 e)) (ch e f g)) k) (Nat.shiftRight W 480)) (S0 a)) (mj a b c))) a b c (lo (Nat.add d (Nat.add (Nat.add (Nat.add (Nat.add h (S1 e)) (ch e f g)) k) (Nat.shiftRight W 480)))) e f g:=by
 unfold kst
 rw [YO,YO,YO,YO]
theorem ZyB {ws v:List Nat} {K:Nat→Nat→Nat→Nat→Nat→Nat→Nat→Nat→Nat} {k w:Nat} {l:List Nat} (hv:v.length=8) {W:Nat} (hW:Nat.shiftRight W 480=w):Zyz (kgo (k::l) K W) v=Zyz (kgo l K (kn W)) (rnd v k w):=by
 match v,hv with
 |[a,b,c,d,e,f,g,h],_=>
  rw [ZyA,Zg0,ZBK,hW,Zss,Zg0]
theorem Zvf {ws v:List Nat} {K:Nat→Nat→Nat→Nat→Nat→Nat→Nat→Nat→Nat} (hv:v.length=8):∀(m i:Nat),i+m=64→Zyz (kgo (ks.drop i) K (pw 0 (win ws i))) (rs ws v i)=Zyz K (rs ws v 64)
 |0,i,h=>by
  have e:i=64:=by omega
  subst e
  rw [show ks.drop 64=[] from rfl]
  generalize pw 0 (win ws 64)=W
  rfl
 |m+1,i,h=>by
  have hi:i < ks.length:=by show i < 64;omega
  rw [List.drop_eq_getElem_cons hi,ZyB (ws:=ws) (ZqI hv i) (Zve ws i),ZBJ]
  have:=Zvf (ws:=ws) (K:=K) hv m (i+1) (by omega)
  rw [show rs ws v (i+1)=rnd (rs ws v i) (ks.getD i 0) (wd ws i) from rfl,show ks.getD i 0=ks[i] by rw [List.getD_eq_getElem?_getD,List.getElem?_eq_getElem hi];rfl] at this
  exact this
def Zjf (v ws:List Nat):List Nat:=List.zipWith (fun x y=>lo (x+y)) (rs ws v 64) v
theorem ZdJ {v ws:List Nat} (h:v.length=8):(Zjf v ws).length=8:=by
 rw [Zjf,List.length_zipWith,ZqI h,h]
 rfl
theorem Zvg {v ws:List Nat}:∀x,x∈Zjf v ws→x < 4294967296:=by
 intro x hx
 unfold Zjf at hx
 rw [List.mem_iff_getElem] at hx
 obtain ⟨i,hi,rfl⟩:=hx
 rw [List.getElem_zipWith]
 exact ZAx _
theorem ZAd {v ws:List Nat} (hv:v.length=8) (hlt:∀x,x∈v→x < 4294967296) (hw:ws.length=16) (hwl:∀x,x∈ws→x < 4294967296):ZAa (pw 0 v) (pw 0 ws)=pw 0 (Zjf v ws):=by
 have e0:ws=win ws 0:=by
  match ws,hw with
  |[a0,a1,a2,a3,a4,a5,a6,a7,a8,a9,a10,a11,a12,a13,a14,a15],_=>
   simp only [List.mem_cons,List.not_mem_nil,or_false,forall_eq_or_imp,forall_eq] at hwl
   obtain ⟨h0,h1,h2,h3,h4,h5,h6,h7,h8,h9,h10,h11,h12,h13,h14,h15⟩:=hwl
   have hs:∀n,n < 16→wd [a0,a1,a2,a3,a4,a5,a6,a7,a8,a9,a10,a11,a12,a13,a14,a15] n=lo ([a0,a1,a2,a3,a4,a5,a6,a7,a8,a9,a10,a11,a12,a13,a14,a15].getD n 0):=fun n hn=>by rw [wd,dif_pos hn]
   unfold win
   rw [hs 0 (by omega),hs (0+1) (by omega),hs (0+2) (by omega),hs (0+3) (by omega),hs (0+4) (by omega),hs (0+5) (by omega),hs (0+6) (by omega),hs (0+7) (by omega),hs (0+8) (by omega),hs (0+9) (by omega),hs (0+10) (by omega),hs (0+11) (by omega),hs (0+12) (by omega),hs (0+13) (by omega),hs (0+14) (by omega),hs (0+15) (by omega)]
   show _=[lo a0,lo a1,lo a2,lo a3,lo a4,lo a5,lo a6,lo a7,lo a8,lo a9,lo a10,lo a11,lo a12,lo a13,lo a14,lo a15]
   rw [QM h0,QM h1,QM h2,QM h3,QM h4,QM h5,QM h6,QM h7,QM h8,QM h9,QM h10,QM h11,QM h12,QM h13,QM h14,QM h15]
 match v,hv with
 |[a,b,c,d,e,f,g,h],hv=>
  have ea:w32 (pw 0 [a,b,c,d,e,f,g,h]) 224=a:=ZcR (l:=[]) (r:=[b,c,d,e,f,g,h]) rfl hlt rfl
  have eb:w32 (pw 0 [a,b,c,d,e,f,g,h]) 192=b:=ZcR (l:=[a]) (r:=[c,d,e,f,g,h]) rfl hlt rfl
  have ec:w32 (pw 0 [a,b,c,d,e,f,g,h]) 160=c:=ZcR (l:=[a,b]) (r:=[d,e,f,g,h]) rfl hlt rfl
  have ed:w32 (pw 0 [a,b,c,d,e,f,g,h]) 128=d:=ZcR (l:=[a,b,c]) (r:=[e,f,g,h]) rfl hlt rfl
  have ee:w32 (pw 0 [a,b,c,d,e,f,g,h]) 96=e:=ZcR (l:=[a,b,c,d]) (r:=[f,g,h]) rfl hlt rfl
  have ef:w32 (pw 0 [a,b,c,d,e,f,g,h]) 64=f:=ZcR (l:=[a,b,c,d,e]) (r:=[g,h]) rfl hlt rfl
  have eg:w32 (pw 0 [a,b,c,d,e,f,g,h]) 32=g:=ZcR (l:=[a,b,c,d,e,f]) (r:=[h]) rfl hlt rfl
  have eh:w32 (pw 0 [a,b,c,d,e,f,g,h]) 0=h:=ZcR (l:=[a,b,c,d,e,f,g]) (r:=[]) rfl hlt rfl
  unfold ZAa
  rw [ea,eb,ec,ed,ee,ef,eg,eh,YO,YO,YO,YO,YO,YO,YO,YO]
  have hr:=Zvf (ws:=ws) (v:=[a,b,c,d,e,f,g,h]) (K:=fun a' b' c' d' e' f' g' h'=>cat (cat (cat (cat (cat (cat (cat (cat 0 (Nat.add a' a)) (Nat.add b' b)) (Nat.add c' c)) (Nat.add d' d)) (Nat.add e' e)) (Nat.add f' f)) (Nat.add g' g)) (Nat.add h' h)) rfl 64 0 rfl
  rw [←e0,show ks.drop 0=ks from rfl,show rs ws [a,b,c,d,e,f,g,h] 0=[a,b,c,d,e,f,g,h] from rfl,Zg0] at hr
  rw [hr]
  unfold Zjf
  generalize rs ws [a,b,c,d,e,f,g,h] 64=q,ZqI (ws:=ws) hv 64=hq
  match q,hq with
  |[a',b',c',d',e',f',g',h'],_=>
   rw [Zg0]
   simp only [List.zipWith_cons_cons,List.zipWith_nil_right,Zvc,cat]
   rfl
theorem ZlQ (x:Nat) (l:List Nat) (n:Nat):pk (x::l) n=pk l (n*256+x):=by
 show Vx (Nat.add (Nat.mul n 256) x) (pk l)=_
 rw [YO]
 rfl
def YK:List Nat→List Nat
 |a::b::c::d::r=>(((a*256+b)*256+c)*256+d)::YK r
 |_=>[]
theorem Zst:∀(m:Nat) (l:List Nat) (n:Nat),l.length=4*m→pk l n=pw n (YK l)
 |0,[],n,_=>rfl
 |0,_::_,_,h=>by simp at h
 |m+1,[],_,h=>by simp at h
 |m+1,[_],_,h=>by simp at h;omega
 |m+1,[_,_],_,h=>by simp at h;omega
 |m+1,[_,_,_],_,h=>by simp at h;omega
 |m+1,a::b::c::d::r,n,h=>by
  rw [ZlQ,ZlQ,ZlQ,ZlQ,YK]
  rw [Zst m r _ (by simp at h;omega),Zvc]
  have e:(((n*256+a)*256+b)*256+c)*256+d=n*4294967296+(((a*256+b)*256+c)*256+d):=by omega
  rw [e]
theorem ZkU:∀(m:Nat) (l:List Nat),l.length=4*m→(YK l).length=m
 |0,[],_=>rfl
 |0,_::_,h=>by simp at h
 |m+1,[],h=>by simp at h
 |m+1,[_],h=>by simp at h;omega
 |m+1,[_,_],h=>by simp at h;omega
 |m+1,[_,_,_],h=>by simp at h;omega
 |m+1,a::b::c::d::r,h=>by
  rw [YK,List.length_cons,ZkU m r (by simp at h;omega)]
theorem Zne:∀(m:Nat) (l:List Nat),l.length=4*m→(∀x,x∈l→x < 256)→∀x,x∈YK l→x < 4294967296
 |0,[],_,_,x,hx=>by simp [YK] at hx
 |0,_::_,h,_,_,_=>by simp at h
 |m+1,[],h,_,_,_=>by simp at h
 |m+1,[_],h,_,_,_=>by simp at h;omega
 |m+1,[_,_],h,_,_,_=>by simp at h;omega
 |m+1,[_,_,_],h,_,_,_=>by simp at h;omega
 |m+1,a::b::c::d::r,h,hl,x,hx=>by
  rw [YK] at hx
  have h1:=hl a (by simp)
  have h2:=hl b (by simp)
  have h3:=hl c (by simp)
  have h4:=hl d (by simp)
  rcases List.mem_cons.1 hx with rfl|hx
  ·omega
  ·exact Zne m r (by simp at h;omega) (fun y hy=>hl y (by simp [hy])) x hx
theorem ZkV:∀(i:Nat) (l:List Nat) (a b c d:Nat),l[4*i]? =some a→l[4*i+1]? =some b→l[4*i+2]? =some c→l[4*i+3]? =some d→(YK l)[i]? =some (((a*256+b)*256+c)*256+d)
 |0,[],_,_,_,_,h,_,_,_=>by simp at h
 |0,[_],_,_,_,_,_,h,_,_=>by simp at h
 |0,[_,_],_,_,_,_,_,_,h,_=>by simp at h
 |0,[_,_,_],_,_,_,_,_,_,_,h=>by simp at h
 |0,a::b::c::d::r,_,_,_,_,h1,h2,h3,h4=>by
  simp at h1 h2 h3 h4
  subst h1 h2 h3 h4
  rfl
 |i+1,[],_,_,_,_,h,_,_,_=>by simp at h
 |i+1,[_],_,_,_,_,h,_,_,_=>by simp [show 4*(i+1)=4*i+3+1 by omega] at h
 |i+1,[_,_],_,_,_,_,h,_,_,_=>by simp [show 4*(i+1)=4*i+2+1+1 by omega] at h
 |i+1,[_,_,_],_,_,_,_,h,_,_,_=>by simp [show 4*(i+1)=4*i+1+1+1+1 by omega] at h
 |i+1,a::b::c::d::r,_,_,_,_,h1,h2,h3,h4=>by
  rw [YK,List.getElem?_cons_succ]
  exact ZkV i r _ _ _ _ (by simpa [show 4*(i+1)=4*i+1+1+1+1 by omega] using h1) (by simpa [show 4*(i+1)+1=4*i+1+1+1+1+1 by omega] using h2)
   (by simpa [show 4*(i+1)+2=4*i+2+1+1+1+1 by omega] using h3) (by simpa [show 4*(i+1)+3=4*i+3+1+1+1+1 by omega] using h4)
def ZdK:Nat→List Nat→List Nat→List Nat
 |0,_,v=>v
 |n+1,l,v=>ZdK n (l.drop 64) (Zjf v (YK (l.take 64)))
theorem Zvh:∀(n:Nat) (l v:List Nat),l.length=64*n→(∀x,x∈l→x < 256)→v.length=8→(∀x,x∈v→x < 4294967296)→ZBG n l (pw 0 v)=pw 0 (ZdK n l v)
 |0,l,v,_,_,_,_=>rfl
 |n+1,l,v,h1,h2,h3,h4=>by
  show Vx (ZAa (pw 0 v) (pk (l.take 64) 0)) (ZBG n (l.drop 64))=_
  have hl:(l.take 64).length=4*16:=by rw [List.length_take];omega
  rw [YO,Zst 16 _ 0 hl,ZAd h3 h4 (ZkU 16 _ hl) (Zne 16 _ hl fun x hx=>h2 x (List.mem_of_mem_take hx))]
  exact Zvh n (l.drop 64) _ (by rw [List.length_drop];omega) (fun x hx=>h2 x (List.mem_of_mem_drop hx)) (ZdJ h3) Zvg
theorem Zsu:∀(n:Nat) (l v:List Nat),v.length=8→(ZdK n l v).length=8
 |0,_,_,h=>h
 |n+1,l,v,h=>Zsu n _ _ (ZdJ h)
theorem Zvi:∀(n:Nat) (l v:List Nat),(∀x,x∈v→x < 4294967296)→∀x,x∈ZdK n l v→x < 4294967296
 |0,_,_,h=>h
 |n+1,l,v,h=>Zvi n _ _ Zvg
theorem Znf:∀(n m:Nat) (l r v:List Nat),l.length=64*n→ZdK (n+m) (l++r) v=ZdK m r (ZdK n l v)
 |0,m,l,r,v,h=>by
  have:l=[]:=List.length_eq_zero_iff.1 (by omega)
  subst this
  rw [Nat.zero_add]
  rfl
 |n+1,m,l,r,v,h=>by
  rw [show n+1+m=(n+m)+1 by omega,ZdK,List.drop_append_of_le_length (by omega),List.take_append_of_le_length (by omega),Znf n m _ r _ (by rw [List.length_drop];omega)]
  rfl
theorem Zki:∀(c:Nat) (l v:List Nat),ZdK (c+1) l v=Zjf (ZdK c l v) (YK ((l.drop (64*c)).take 64))
 |0,l,v=>by rw [Nat.mul_zero,List.drop_zero];rfl
 |c+1,l,v=>by
  rw [show ZdK (c+1+1) l v=ZdK (c+1) (l.drop 64) (Zjf v (YK (l.take 64))) from rfl,Zki c,List.drop_drop,show 64+64*c=64*(c+1) by omega]
  rfl
theorem ZyC (ws:List Nat) {n x:Nat} (hn:n < 16) (h:ws[n]? =some x) (hx:x < 4294967296):wd ws n=x:=by
 rw [wd,dif_pos hn,List.getD_eq_getElem?_getD,h]
 exact QM hx
def ZyD (v:List Nat) (k:Nat):UInt8:=UInt8.ofNat (v.getD (k / 4) 0 / 2 ^ (24 - 8*(k % 4)))
theorem ZAe {v:List Nat} (hv:v.length=8) (hlt:∀x,x∈v→x < 4294967296):outs (pw 0 v) ZtY=(List.range 32).map (ZyD v):=by
 have hgo:∀(H:Nat) (l:List Nat),outs H l=l.map fun s=>UInt8.ofNat (H / 2 ^ s % 256):=by
  intro H l
  induction l with
  |nil=>rfl
  |cons s r ih=>
   show Vx (Nat.mod (Nat.shiftRight H s) 256) (fun x=>UInt8.ofNat x::outs H r)=_
   rw [YO,ih,List.map_cons,show Nat.shiftRight H s=H >>> s from rfl,Nat.shiftRight_eq_div_pow]
   rfl
 have hb:∀(l r:List Nat) (x j s:Nat),v=l++x::r→j≤24→s=32*r.length+j→UInt8.ofNat (pw 0 v / 2 ^ s % 256)=UInt8.ofNat (x / 2 ^ j):=by
  intro l r x j s e hj hs
  have hall:=hlt
  rw [e] at hall
  have h1:pw 0 v / 2 ^ (32*r.length)=pw 0 l*4294967296+x:=by
   rw [e,Zt0]
   exact ZtZ r _ (fun y hy=>hall y (by simp [hy]))
  rw [hs,Nat.pow_add, ←Nat.div_div_eq_div_mul,h1]
  have h2:pw 0 l*4294967296+x=2 ^ j*(pw 0 l*2 ^ (24 - j)*256)+x:=by
   rw [show (4294967296:Nat)=2 ^ j*2 ^ (24 - j)*256 by rw [←Nat.pow_add,show j+(24 - j)=24 by omega]]
   congr 1
   ac_rfl
  rw [h2,Nat.mul_add_div (Nat.two_pow_pos j),Nat.mul_comm (pw 0 l*2 ^ (24 - j)) 256,Nat.mul_add_mod]
  exact UInt8.toNat_inj.1 (by simp)
 match v,hv with
 |[a,b,c,d,e,f,g,h],_=>
  rw [hgo]
  simp only [ZtY,List.map_cons,List.map_nil]
  rw [hb [] [b,c,d,e,f,g,h] a 24 248 rfl (by omega) rfl,hb [] [b,c,d,e,f,g,h] a 16 240 rfl (by omega) rfl,hb [] [b,c,d,e,f,g,h] a 8 232 rfl (by omega) rfl,hb [] [b,c,d,e,f,g,h] a 0 224 rfl (by omega) rfl,
   hb [a] [c,d,e,f,g,h] b 24 216 rfl (by omega) rfl,hb [a] [c,d,e,f,g,h] b 16 208 rfl (by omega) rfl,hb [a] [c,d,e,f,g,h] b 8 200 rfl (by omega) rfl,hb [a] [c,d,e,f,g,h] b 0 192 rfl (by omega) rfl,
   hb [a,b] [d,e,f,g,h] c 24 184 rfl (by omega) rfl,hb [a,b] [d,e,f,g,h] c 16 176 rfl (by omega) rfl,hb [a,b] [d,e,f,g,h] c 8 168 rfl (by omega) rfl,hb [a,b] [d,e,f,g,h] c 0 160 rfl (by omega) rfl,
   hb [a,b,c] [e,f,g,h] d 24 152 rfl (by omega) rfl,hb [a,b,c] [e,f,g,h] d 16 144 rfl (by omega) rfl,hb [a,b,c] [e,f,g,h] d 8 136 rfl (by omega) rfl,hb [a,b,c] [e,f,g,h] d 0 128 rfl (by omega) rfl,
   hb [a,b,c,d] [f,g,h] e 24 120 rfl (by omega) rfl,hb [a,b,c,d] [f,g,h] e 16 112 rfl (by omega) rfl,hb [a,b,c,d] [f,g,h] e 8 104 rfl (by omega) rfl,hb [a,b,c,d] [f,g,h] e 0 96 rfl (by omega) rfl,
   hb [a,b,c,d,e] [g,h] f 24 88 rfl (by omega) rfl,hb [a,b,c,d,e] [g,h] f 16 80 rfl (by omega) rfl,hb [a,b,c,d,e] [g,h] f 8 72 rfl (by omega) rfl,hb [a,b,c,d,e] [g,h] f 0 64 rfl (by omega) rfl,
   hb [a,b,c,d,e,f] [h] g 24 56 rfl (by omega) rfl,hb [a,b,c,d,e,f] [h] g 16 48 rfl (by omega) rfl,hb [a,b,c,d,e,f] [h] g 8 40 rfl (by omega) rfl,hb [a,b,c,d,e,f] [h] g 0 32 rfl (by omega) rfl,
   hb [a,b,c,d,e,f,g] [] h 24 24 rfl (by omega) rfl,hb [a,b,c,d,e,f,g] [] h 16 16 rfl (by omega) rfl,hb [a,b,c,d,e,f,g] [] h 8 8 rfl (by omega) rfl,hb [a,b,c,d,e,f,g] [] h 0 0 rfl (by omega) rfl]
  rfl
def Zeu (l:List UInt8):List Nat:=l.map UInt8.toNat++(128::(List.replicate (zs l.length) 0++be8 (8*l.length)))
def Zev:List Nat:=[1779033703,3144134277,1013904242,2773480762,1359893119,2600822924,528734635,1541459225]
theorem Zt2 (l:List UInt8):(Zeu l).length=64*((l.length+72) / 64):=by
 unfold Zeu
 simp only [List.length_append,List.length_map,List.length_cons,List.length_replicate,be8,List.length_nil,zs]
 omega
theorem Zws (l:List UInt8):∀x,x∈Zeu l→x < 256:=by
 intro x hx
 unfold Zeu at hx
 simp only [List.mem_append,List.mem_map,List.mem_cons,List.mem_replicate,be8,List.not_mem_nil,or_false] at hx
 rcases hx with ⟨y,_,rfl⟩|rfl|⟨_,rfl⟩|h
 ·exact y.toNat_lt
 ·omega
 ·omega
 ·rcases h with h|h|h|h|h|h|h|h <;> rw [h] <;> exact Nat.mod_lt _ (by omega)
theorem ZyE (l:List UInt8):sha l=(List.range 32).map (ZyD (ZdK ((l.length+72) / 64) (Zeu l) Zev)):=by
 unfold sha
 rw [YO,YO,show H0=pw 0 Zev from rfl,show l.map UInt8.toNat++(128::(List.replicate (zs l.length) 0++be8 (8*l.length)))=Zeu l from rfl,
  show Nat.div (Nat.add l.length 72) 64=(l.length+72) / 64 from rfl]
 have hf:∀x,x∈Zev→x < 4294967296:=by decide
 rw [Zvh _ _ _ (Zt2 l) (Zws l) rfl hf]
 exact ZAe (Zsu _ _ _ rfl) (Zvi _ _ _ hf)
theorem ZCc (l:List UInt8):(sha l).length=32:=by rw [ZyE];simp
end Go.Sha
end
