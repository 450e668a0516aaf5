/- Parts of the proof, in one file. -/
import Derived.Test.YtehgcchjaamddaaKd
set_option linter.unusedVariables false
set_option linter.unusedSimpArgs false
section
namespace Go.Ev
section
variable {P:Program}
theorem Ztv {x y:Code} {ts ts1 ts2:List Dv} {H H1 H2:List Ent} {ex:Ex} (r1:Xm P x ts H .normal ts1 H1) (r2:Xm P y ts1 H1 ex ts2 H2):Xm P (.seq x y) ts H ex ts2 H2:=by
 intro σ a ok hH hrep
 refine wp_seq (wp_mono (r1 σ a ok hH hrep) ?_)
 rintro e a' w' ⟨rfl,σ1,rfl,e1,to1,ok1,hrep1⟩
 refine wp_mono (r2 σ1 a' ok1 e1 hrep1) ?_
 rintro e a'' w'' ⟨rfl,σ2,rfl,e2,to2,ok2,hrep2⟩
 exact ⟨rfl,σ2,rfl,e2,to1.trans to2,ok2,hrep2⟩
theorem Zqn {x y:Code} {ts ts1:List Dv} {H H1:List Ent} {ex:Ex} (hne:ex≠ .normal) (r1:Xm P x ts H ex ts1 H1):Xm P (.seq x y) ts H ex ts1 H1:=by
 intro σ a ok hH hrep
 refine wp_seq (wp_mono (r1 σ a ok hH hrep) ?_)
 rintro e a' w' ⟨rfl,hq⟩
 cases ex with
 |normal=>exact absurd rfl hne
 |exit id=>exact ⟨rfl,hq⟩
 |ret=>exact ⟨rfl,hq⟩
theorem Zh4 {c:Operand} {x y:Code} {ts ts1:List Dv} {H H1:List Ent} {ex:Ex} {b:Bool} (hc:argD P ts 0 c=.p (.bool b)) (r1:Xm P (if b then x else y) ts H ex ts1 H1):Xm P (.cond c x y) ts H ex ts1 H1:=by
 intro σ a ok hH hrep
 have hv:=Zl (P:=P) hrep 0 c
 rw [hc] at hv
 cases b
 ·exact wp_cond_false (Z0 hv) (r1 σ a ok hH hrep)
 ·exact wp_cond_true (Z0 hv) (r1 σ a ok hH hrep)
def ZrT (id:Nat):Ex→Ex
 |.exit i=>if i=id then .normal else .exit i
 |ex=>ex
theorem Zu6 {id:Nat} {body:Code} {ts ts1:List Dv} {H H1:List Ent} {ex:Ex} (r1:Xm P body ts H ex ts1 H1):Xm P (.block id body) ts H (ZrT id ex) ts1 H1:=by
 intro σ a ok hH hrep
 refine wp_block (wp_mono (r1 σ a ok hH hrep) ?_)
 rintro e a' w' ⟨rfl,hq⟩
 cases ex with
 |normal=>exact ⟨rfl,hq⟩
 |exit id'=>
  simp only [Ex.to,Exit.inBlock,ZrT]
  split
  ·exact ⟨rfl,hq⟩
  ·exact ⟨rfl,hq⟩
 |ret=>exact ⟨rfl,hq⟩
theorem Zu7 {body:Code} {ts ts1:List Dv} {H H1:List Ent} {ex:Ex} (r1:Xm P body ts H ex ts1 H1):Xm P (.scope body) ts H ex ts1 H1:=by
 intro σ a ok hH hrep
 refine wp_scope_straight (wp_mono (r1 σ a ok hH hrep) ?_)
 rintro e a' w' ⟨rfl,hq⟩
 cases ex <;> exact ⟨rfl,hq⟩
theorem ZxB {ts:List Dv} {H:List Ent}:Xm P .skip ts H .normal ts H:=fun σ a ok hH hrep=>wp_skip ⟨rfl,σ,rfl,hH,To.refl σ,ok,hrep⟩
theorem Zu8 {n:Nat} {ts:List Dv} {H:List Ent}:Xm P (.label n) ts H .normal ts H:=fun σ a ok hH hrep=>wp_label ⟨rfl,σ,rfl,hH,To.refl σ,ok,hrep⟩
theorem ZxC {n:Nat} {ts:List Dv} {H:List Ent}:Xm P (.exit n) ts H (.exit n) ts H:=fun σ a ok hH hrep=>wp_exit ⟨rfl,σ,rfl,hH,To.refl σ,ok,hrep⟩
theorem Zzj {ts:List Dv} {H:List Ent}:Xm P .ret ts H .ret ts H:=fun σ a ok hH hrep=>wp_ret ⟨rfl,σ,rfl,hH,To.refl σ,ok,hrep⟩
theorem ZxD {c:Code} {ts ts1:List Dv} {H H1:List Ent} {ex:Ex} (keep:List Nat) (r:Xm P c ts H ex ts1 H1):Xm P c ts H ex (maskFrom keep 0 ts1) H1:=by
 intro σ a ok hH hrep
 refine wp_mono (r σ a ok hH hrep) ?_
 rintro e a' w' ⟨rfl,σ1,rfl,e1,to1,ok1,hrep1⟩
 exact ⟨rfl,σ1,rfl,e1,to1,ok1,Qg keep hrep1⟩
def Ztw (n0:Nat) (sl:Slots) (es:List ESh) (a:List TD) (h:List TEnt):Option (List TV):=
 if once (List.range n0++[]) then (XS h (List.range n0++[]) (List.range n0++[])).bind fun h2=>(TD.rns (toIds (List.range n0++[])) (Zbm (sl.map (·.1)) 0 a)).bind fun a2=>
  (Sh.mts (lk h2) (shs sl a.length) a2).bind fun q=>(ESh.mts (lk h2) es h2).bind fun w=>some (q.2++w.2)
 else none
theorem Zu9 {n0:Nat} {sl:Slots} {es:List ESh} {a:List TD} {h:List TEnt} {vs:List TV} (k:Ztw n0 sl es a h=some vs):
 ∃a3 h3,XY a.length sl es vs=some (a3,h3)∧∀{c:Code} {ts:List Dv} {H:List Ent} {ex:Ex},H.length=n0→Xm P c ts H ex (TD.ers (lk h) a) (erH h)→Xm P c ts H ex (TD.ers (lk h3) a3) (erH h3):=by
 unfold Ztw at k
 split at k
 ·rename_i ho
  obtain ⟨h2,h1,k⟩:=Option.bind_eq_some_iff.1 k
  obtain ⟨a2,e2,k⟩:=Option.bind_eq_some_iff.1 k
  obtain ⟨q,e3,k⟩:=Option.bind_eq_some_iff.1 k
  obtain ⟨w,e4,k⟩:=Option.bind_eq_some_iff.1 k
  cases k
  obtain ⟨g1,g2⟩:=ZgO e4
  have hc:∀id t,ZQ (lk h2) id t none=ZQ (lk w.1) id t none:=fun id t=>by rw [g2]
  refine ⟨q.1,w.1, ?_,fun {c ts H ex} hl r=> ?_⟩
  ·unfold XY
   rw [mts_fills _ _ _ e3]
   have:=Zck e4 []
   rw [List.append_nil] at this
   rw [Option.bind_some,this]
   rfl
  ·have r1:=ZxD (sl.map (·.1)) r
   rw [←Zeg] at r1
   have r2:=Zxe [] [] r1 (by rw [hl];exact ho) (by rw [hl];exact Wd (Zbl h1) h1) (by rw [hl];exact rns_er (Zbl h1) _ _ e2)
   exact Zp7 r2 (mts_wk hc _ _ _ e3) (Zkl hc e4)
 ·cases k
theorem Zva {n0:Nat} {sl:Slots} {es:List ESh} {a:List TD} {h:List TEnt} {vs:List TV} (hn:h.length=n0) (k:Ztw n0 sl es a h=some vs):
 ∃a3 h3,XY a.length sl es vs=some (a3,h3)∧∀(σ:Sg) (act:Act),Ok σ→σ.H=erH h→RepT σ (TD.ers (lk h) a) act→∃σ':Sg,σ'.w=σ.w∧σ'.H=erH h3∧To σ σ'∧Ok σ'∧RepT σ' (TD.ers (lk h3) a3) act:=by
 subst hn
 unfold Ztw at k
 split at k
 ·rename_i ho
  obtain ⟨h2,h1,k⟩:=Option.bind_eq_some_iff.1 k
  obtain ⟨a2,e2,k⟩:=Option.bind_eq_some_iff.1 k
  obtain ⟨q,e3,k⟩:=Option.bind_eq_some_iff.1 k
  obtain ⟨w,e4,k⟩:=Option.bind_eq_some_iff.1 k
  cases k
  obtain ⟨g1,g2⟩:=ZgO e4
  have hc:∀id t,ZQ (lk h2) id t none=ZQ (lk w.1) id t none:=fun id t=>by rw [g2]
  refine ⟨q.1,w.1, ?_,fun σ act ok hH hrep=> ?_⟩
  ·unfold XY
   rw [mts_fills _ _ _ e3]
   have:=Zck e4 []
   rw [List.append_nil] at this
   rw [Option.bind_some,this]
   rfl
  ·have r1:=Qg (sl.map (·.1)) hrep
   rw [←Zeg] at r1
   have hin:subEnts σ.H (List.range σ.H.length++[]) (List.range σ.H.length++[])=some (erH h2):=by
    rw [hH,ZC]
    exact Wd (Zbl h1) h1
   have ho':once (List.range σ.H.length++[])=true:=by rw [hH,ZC];exact ho
   have e2':Dv.rns (toIds (List.range σ.H.length++[])) (TD.ers (lk h) (Zbm (sl.map (·.1)) 0 a))=some (TD.ers (lk h2) a2):=by
    rw [hH,ZC]
    exact rns_er (Zbl h1) _ _ e2
   have r2:=Zj2 (ZbB hin) e2' r1
   have to1:=Zq4 ok (To.refl σ) ho' hin
   have ok1:=Zm0 ok ho' hin
   obtain ⟨to2,ok2⟩:=ZjO (σ:=Zd8 σ (List.range σ.H.length++[]) (erH h2)) ok1 (H':=erH w.1) (Zkl hc e4)
   exact ⟨{ Zd8 σ (List.range σ.H.length++[]) (erH h2) with H:=erH w.1},rfl,rfl,to1.trans to2,ok2,(mts_wk hc _ _ _ e3).repT (r2.to to2.leaf)⟩
 ·cases k
def ZCC (L:Lk):ESh→TEnt→Option TEnt
 |.rowN _ _ _ _,.rowM u np v st e pre mid post=>(ZCt L u mid).map fun y=>.rowN u np v st e (pre++[y]) post
 |_,x=>some x
def Zzk (L:Lk):List ESh→List TEnt→Option (List TEnt)
 |[],h=>some h
 |_::_,[]=>some []
 |s::r,x::h=>match ZCC L s x,Zzk L r h with
  |some y,some ys=>some (y::ys)
  |_,_=>none
theorem ZA3 {L:Lk} {s:ESh} {x y:TEnt} (h:ZCC L s x=some y):lkE (some y)=lkE (some x)∧WkE (x.er L) (y.er L):=by
 unfold ZCC at h
 split at h
 ·rename_i u np v st e pre mid post
  obtain ⟨c,h1,rfl⟩:=Zd h
  refine ⟨?_,Zv1 (ZvY h1)⟩
  simp only [lkE,List.length_append,List.length_cons,List.length_nil]
  rw [Nat.add_assoc,Nat.add_comm (0+1)]
 ·cases h
  exact ⟨rfl,.refl _⟩
theorem Zwc {L:Lk}:∀{es:List ESh} {h h':List TEnt},Zzk L es h=some h'→h'.length=h.length∧(∀j:Nat,lkE (h'[j]?)=lkE (h[j]?))∧WkH (h.map (TEnt.er L)) (h'.map (TEnt.er L))
 |[],h,h',k=>by cases k;exact ⟨rfl,fun _=>rfl,WkH.refl _⟩
 |_::_,[],h',k=>by cases k;exact ⟨rfl,fun _=>rfl,WkH.refl _⟩
 |s::r,x::h,h',k=>by
  simp only [Zzk] at k
  split at k
  ·rename_i y ys h1 h2
   cases k
   obtain ⟨a1,a2⟩:=ZA3 h1
   obtain ⟨b1,b2,b3⟩:=Zwc h2
   refine ⟨by simp [b1],fun j=> ?_,.cons a2 b3⟩
   cases j with
   |zero=>exact a1
   |succ j=>exact b2 j
  ·cases k
theorem Zwd {es:List ESh} {h h':List TEnt} (k:Zzk (lk h) es h=some h'):h'.length=h.length∧lk h'=lk h∧WkH (erH h) (erH h'):=by
 obtain ⟨a,b,c⟩:=Zwc k
 have e:lk h'=lk h:=funext b
 refine ⟨a,e, ?_⟩
 unfold erH
 rw [e]
 exact c
def ZrU (n0:Nat) (sl:Slots) (es:List ESh) (a:List TD) (h:List TEnt):Option (List TV):=(Zzk (lk h) es h).bind fun h=>Ztw n0 sl es a h
theorem Zqo {n0:Nat} {sl:Slots} {es:List ESh} {a:List TD} {h:List TEnt} {vs:List TV} (k:ZrU n0 sl es a h=some vs):
 ∃a3 h3,XY a.length sl es vs=some (a3,h3)∧∀{c:Code} {ts:List Dv} {H:List Ent} {ex:Ex},H.length=n0→Xm P c ts H ex (TD.ers (lk h) a) (erH h)→Xm P c ts H ex (TD.ers (lk h3) a3) (erH h3):=by
 obtain ⟨h1,k1,k2⟩:=Option.bind_eq_some_iff.1 k
 obtain ⟨e1,e2,e3⟩:=Zwd k1
 obtain ⟨a3,h3,g1,g2⟩:=Zu9 (P:=P) k2
 refine ⟨a3,h3,g1,fun hl r=>g2 hl ?_⟩
 rw [e2]
 exact Zp7 r (WkL.refl _) e3
theorem Zqp {n0:Nat} {sl:Slots} {es:List ESh} {a:List TD} {h:List TEnt} {vs:List TV} (hn:h.length=n0) (k:ZrU n0 sl es a h=some vs):
 ∃a3 h3,XY a.length sl es vs=some (a3,h3)∧∀(σ:Sg) (act:Act),Ok σ→σ.H=erH h→RepT σ (TD.ers (lk h) a) act→∃σ':Sg,σ'.w=σ.w∧σ'.H=erH h3∧To σ σ'∧Ok σ'∧RepT σ' (TD.ers (lk h3) a3) act:=by
 obtain ⟨h1,k1,k2⟩:=Option.bind_eq_some_iff.1 k
 obtain ⟨e1,e2,e3⟩:=Zwd k1
 obtain ⟨a3,h3,g1,g2⟩:=Zva (by rw [e1];exact hn) k2
 refine ⟨a3,h3,g1,fun σ act ok hH hr=> ?_⟩
 obtain ⟨to,ok'⟩:=ZjO ok (H':=erH h1) (by rw [hH];exact e3)
 obtain ⟨σ2,q1,q2,q3,q4,q5⟩:=g2 { σ with H:=erH h1} act ok' rfl (by rw [e2];exact hr.to to.leaf)
 exact ⟨σ2,q1,q2,to.trans q3,q4,q5⟩
structure Lp where
 sl:Slots
 es:List ESh
 I:List Ty
 xs:List XSh
 L:Ty.dens I→Option (XSh.sum xs)
def Lp.Is (P:Program) (n:Nat) (c:Code) (lp:Lp):Prop:=
 ∀v o,lp.L v=some o→∀s,XY n lp.sl lp.es (ofD lp.I v)=some s→∀e vs s',ZuU lp.xs o e vs→XY n e.sl e.es vs=some s'→
  Xm P c (TD.ers (lk s.2) s.1) (erH s.2) e.ex (TD.ers (lk s'.2) s'.1) (erH s'.2)
abbrev Lp.Ok (P:Program) (n:Nat) (body:Code) (lp:Lp):Prop:=lp.Is P n (.loop body)
structure FI where
 hi:HI:={}
 lp:List (Nat×Lp):=[]
 bk:List (Nat×Lp):=[]
 gh:List (Nat×GOp):=[]
 un:Nat:=0
def Code.nl:Code→Nat
 |.seq a b=>Code.nl a+Code.nl b
 |.cond _ a b=>Code.nl a+Code.nl b
 |.block _ a=>Code.nl a
 |.scope a=>Code.nl a
 |.loop a=>Code.nl a+1
 |_=>0
def Code.ns:Code→Nat
 |.seq a b=>Code.ns a+Code.ns b+1
 |.cond _ a b=>Code.ns a+Code.ns b
 |.block _ a=>Code.ns a
 |.scope a=>Code.ns a
 |.loop a=>Code.ns a
 |_=>0
theorem Qo:∀c:Code,(Zs c).length=Code.nl c
 |.seq a b=>by simp only [Zs,List.length_append,Qo a,Qo b,Code.nl]
 |.cond _ a b=>by simp only [Zs,List.length_append,Qo a,Qo b,Code.nl]
 |.block _ a=>by simp only [Zs,Qo a,Code.nl]
 |.scope a=>by simp only [Zs,Qo a,Code.nl]
 |.loop a=>by simp only [Zs,List.length_cons,Qo a,Code.nl]
 |.skip=>rfl
 |.region _ _ _=>rfl
 |.rangeFunc _ _ _ _=>rfl
 |.exit _=>rfl
 |.ret=>rfl
 |.label _=>rfl
 |.goto _=>rfl
 |.refuse _=>rfl
def Zm7 {O:Type} (step:List TD→List TEnt→Kc O→Option O):Nat→List TD→List TEnt→Kc O→Option O
 |0,_,_,_=>none
 |k+1,a,h,K=>step a h fun ex a' h'=>match ex with
  |.normal=>Zm7 step k a' h' K
  |ex=>K ex a' h'
theorem Zmb {O:Type} {body:Code} {N:Nat} {step:List TD→List TEnt→Kc O→Option O}
 (hs:∀(a:List TD) (h:List TEnt) (K:Kc O) (out:O),a.length=N→step a h K=some out→∃ex a' h',K ex a' h'=some out∧a'.length=N∧Xm P body (TD.ers (lk h) a) (erH h) ex (TD.ers (lk h') a') (erH h')):
 ∀(k:Nat) (a:List TD) (h:List TEnt) (K:Kc O) (out:O),a.length=N→Zm7 step k a h K=some out→∃ex a' h',K ex a' h'=some out∧a'.length=N∧Zp2 P body (TD.ers (lk h) a) (erH h) ex (TD.ers (lk h') a') (erH h')
 |0,_,_,_,_,_,k=>by cases k
 |n+1,a,h,K,out,hN,k=>by
  unfold Zm7 at k
  obtain ⟨ex,a1,h1,k1,k2,k3⟩:=hs _ _ _ _ hN k
  split at k1
  ·obtain ⟨ex2,a2,h2,k4,k5,k6⟩:=Zmb hs n a1 h1 K out k2 k1
   exact ⟨ex2,a2,h2,k4,k5,Zp4 [] k3 k6⟩
  ·rename_i hne
   exact ⟨_,a1,h1,k1,k2,Zp3 hne k3⟩
def evT {O:Type} (P:Program) (fi:FI) (specs:Sp P):Code→Nat→Nat→List TD→List TEnt→Kc O→Option O
 |.skip,_,_,a,h,K=>K .normal a h
 |.label _,_,_,a,h,K=>K .normal a h
 |.region _ ops draw,_,_,a,h,K=>if draw=true then ZCy P fi.hi specs ops a h fun a' h'=>K .normal a' h' else if ZCB ops=true then Ztq P fi.hi specs ops (ops.toList.take (ops.size - 5)) a h fun a' h' _=>Zv9 P (ops.toList.drop (ops.size - 5)) a' h' fun a' h'=>K .normal a' h'
  else Ztq P fi.hi specs ops ops.toList a h fun a' h' _=>K .normal a' h'
 |.seq x y,n,m,a,h,K=>ghO (fi.gh.lookup m) a h fun a h=>match fi.bk.lookup m with
  |none=>evT P fi specs x n (m+1) a h fun ex a' h'=>match ex with
   |.normal=>evT P fi specs y (n+Code.nl x) (m+1+Code.ns x) a' h' K
   |ex=>K ex a' h'
  |some bk=>(ZrU h.length bk.sl bk.es a h).bind fun vs=>(toD bk.I vs).bind fun v=>(bk.L v).bind fun o=>xT a.length bk.xs o fun ex a' h'=>match ex with
   |.normal=>evT P fi specs y (n+Code.nl x) (m+1+Code.ns x) a' h' K
   |ex=>K ex a' h'
 |.cond c x y,n,m,a,h,K=>((arT P a 0 c).bind TD.boolT).bind fun b=>match c with
  |.tmp t=>if b=true then evT P fi specs x n m (a.set t (Zpz true)) h K else evT P fi specs y (n+Code.nl x) (m+Code.ns x) (a.set t (Zpz false)) h K
  |_=>if b=true then evT P fi specs x n m a h K else evT P fi specs y (n+Code.nl x) (m+Code.ns x) a h K
 |.block id body,n,m,a,h,K=>evT P fi specs body n m a h fun ex a' h'=>K (ZrT id ex) a' h'
 |.loop body,n,m,a,h,K=>match fi.lp.lookup n with
  |some lp=>(ZrU h.length lp.sl lp.es a h).bind fun vs=>(toD lp.I vs).bind fun v=>(lp.L v).bind fun o=>xT a.length lp.xs o K
  |none=>Zm7 (fun a h K=>evT P fi specs body (n+1) m a h K) fi.un a h K
 |.scope body,n,m,a,h,K=>evT P fi specs body n m a h K
 |.exit id,_,_,a,h,K=>K (.exit id) a h
 |.ret,_,_,a,h,K=>K .ret a h
 |_,_,_,_,_,_=>none
def Xs:Code→List Code
 |.seq a b=>a::(Xs a++Xs b)
 |.cond _ a b=>Xs a++Xs b
 |.block _ a=>Xs a
 |.scope a=>Xs a
 |.loop a=>Xs a
 |_=>[]
theorem Qp:∀c:Code,(Xs c).length=Code.ns c
 |.seq a b=>by simp only [Xs,List.length_cons,List.length_append,Qp a,Qp b,Code.ns]
 |.cond _ a b=>by simp only [Xs,List.length_append,Qp a,Qp b,Code.ns]
 |.block _ a=>by simp only [Xs,Qp a,Code.ns]
 |.scope a=>by simp only [Xs,Qp a,Code.ns]
 |.loop a=>by simp only [Xs,Qp a,Code.ns]
 |.skip=>rfl
 |.region _ _ _=>rfl
 |.rangeFunc _ _ _ _=>rfl
 |.exit _=>rfl
 |.ret=>rfl
 |.label _=>rfl
 |.goto _=>rfl
 |.refuse _=>rfl
def Zf3 (P:Program) (fi:FI) (N:Nat) (c:Code) (m:Nat):Prop:=∀(k:Nat) (x:Code),(Xs c)[k]? =some x→∀bk,fi.bk.lookup (m+k)=some bk→bk.Is P N x
theorem Zzl {fi:FI} {N:Nat} {x y c:Code} {m:Nat} (e:Xs c=Xs x++Xs y) (h:Zf3 P fi N c m):Zf3 P fi N x m:=fun k b hk=>h k b (by
 rw [e,List.getElem?_append_left (List.getElem?_eq_some_iff.1 hk).1]
 exact hk)
theorem ZxE {fi:FI} {N:Nat} {x y c:Code} {m:Nat} (e:Xs c=Xs x++Xs y) (h:Zf3 P fi N c m):Zf3 P fi N y (m+Code.ns x):=fun k b hk lp hl=>h (Code.ns x+k) b (by
 rw [e,List.getElem?_append_right (by rw [Qp];omega),Qp]
 rw [show Code.ns x+k - Code.ns x=k by omega]
 exact hk) lp (by rw [←Nat.add_assoc];exact hl)
theorem Zzm {fi:FI} {N:Nat} {x y:Code} {m:Nat} (h:Zf3 P fi N (.seq x y) m):Zf3 P fi N x (m+1):=fun k b hk lp hl=>h (k+1) b (by
 rw [Xs,List.getElem?_cons_succ,List.getElem?_append_left (List.getElem?_eq_some_iff.1 hk).1]
 exact hk) lp (by rw [show m+(k+1)=m+1+k by omega];exact hl)
theorem Ztx {fi:FI} {N:Nat} {x y:Code} {m:Nat} (h:Zf3 P fi N (.seq x y) m):Zf3 P fi N y (m+1+Code.ns x):=fun k b hk lp hl=>h (Code.ns x+k+1) b (by
 rw [Xs,List.getElem?_cons_succ,List.getElem?_append_right (by rw [Qp];omega),Qp]
 rw [show Code.ns x+k - Code.ns x=k by omega]
 exact hk) lp (by rw [show m+(Code.ns x+k+1)=m+1+Code.ns x+k by omega];exact hl)
def ZiA (P:Program) (fi:FI) (N:Nat) (c:Code) (n:Nat):Prop:=∀(k:Nat) (b:Code),(Zs c)[k]? =some (.loop b)→∀lp,fi.lp.lookup (n+k)=some lp→lp.Ok P N b
theorem Zty {fi:FI} {N:Nat} {x y c:Code} {n:Nat} (e:Zs c=Zs x++Zs y) (h:ZiA P fi N c n):ZiA P fi N x n:=fun k b hk=>h k b (by
 rw [e,List.getElem?_append_left (List.getElem?_eq_some_iff.1 hk).1]
 exact hk)
theorem Zqq {fi:FI} {N:Nat} {x y c:Code} {n:Nat} (e:Zs c=Zs x++Zs y) (h:ZiA P fi N c n):ZiA P fi N y (n+Code.nl x):=fun k b hk lp hl=>h (Code.nl x+k) b (by
 rw [e,List.getElem?_append_right (by rw [Qo];omega),Qo]
 rw [show Code.nl x+k - Code.nl x=k by omega]
 exact hk) lp (by rw [←Nat.add_assoc];exact hl)
theorem X3 {O:Type} {fi:FI} {specs:Sp P} {out:O} {N:Nat} (ok:SpOk specs):∀(c:Code) (n m:Nat) (a:List TD) (h:List TEnt) (K:Kc O),a.length=N→ZiA P fi N c n→Zf3 P fi N c m→evT P fi specs c n m a h K=some out→
 ∃ex a' h',K ex a' h'=some out∧a'.length=N∧Xm P c (TD.ers (lk h) a) (erH h) ex (TD.ers (lk h') a') (erH h')
 |.skip,n,m,a,h,K,hN,hl,hb0,k=>⟨_,_,_,k,hN,ZxB⟩
 |.label _,n,m,a,h,K,hN,hl,hb0,k=>⟨_,_,_,k,hN,Zu8⟩
 |.exit _,n,m,a,h,K,hN,hl,hb0,k=>⟨_,_,_,k,hN,ZxC⟩
 |.ret,n,m,a,h,K,hN,hl,hb0,k=>⟨_,_,_,k,hN,Zzj⟩
 |.region id ops draw,n,m,a,h,K,hN,hl,hb0,k=>by
  unfold evT at k
  cases draw with
  |true=>
   rw [if_pos rfl] at k
   obtain ⟨a',h',k1,k2,k3⟩:=Zxu ok k
   exact ⟨_,_,_,k1,by rw [k2,hN],k3 id⟩
  |false=>
   rw [if_neg (by decide)] at k
   split at k
   ·obtain ⟨a',h',k1,k2,k3⟩:=Zxz ok k
    exact ⟨_,_,_,k1,by rw [k2,hN],k3 id⟩
   ·obtain ⟨a',h',hs,k1,k2,k3⟩:=Zxv ok k
    exact ⟨_,_,_,k1,by rw [k2,hN],k3 id⟩
 |.seq x y,n,m,a,h,K,hN,hl,hb0,k=>by
  have hx:=Zty (x:=x) (y:=y) rfl hl
  have hy:=Zqq (x:=x) (y:=y) rfl hl
  unfold evT at k
  obtain ⟨a0,h0,k,hN0,gst⟩:=Zzi k
  rw [hN] at hN0
  suffices key:∃ex a' h',K ex a' h'=some out∧a'.length=N∧Xm P (.seq x y) (TD.ers (lk h0) a0) (erH h0) ex (TD.ers (lk h') a') (erH h') by
   obtain ⟨ex,a',h',g1,g2,g3⟩:=key
   exact ⟨ex,a',h',g1,g2,ZA0 gst g3⟩
  clear gst
  have hN:=hN0
  clear hN0
  split at k
  ·obtain ⟨ex,a1,h1,k1,k2,k3⟩:=X3 ok x _ _ _ _ _ hN hx (Zzm hb0) k
   split at k1
   ·obtain ⟨ex2,a2,h2,k4,k5,k6⟩:=X3 ok y _ _ _ _ _ k2 hy (Ztx hb0) k1
    exact ⟨_,_,_,k4,k5,Ztv k3 k6⟩
   ·rename_i hne
    exact ⟨_,_,_,k1,k2,Zqn hne k3⟩
  ·rename_i bk hbk
   obtain ⟨vs,j1,k⟩:=Option.bind_eq_some_iff.1 k
   obtain ⟨v,j2,k⟩:=Option.bind_eq_some_iff.1 k
   obtain ⟨o,j3,k⟩:=Option.bind_eq_some_iff.1 k
   obtain ⟨e,vs',s,g1,g2,g3⟩:=Zm6 k
   obtain ⟨a3,h3,j4,j5⟩:=Zqp rfl j1
   have hok:=hb0 0 x rfl bk (by rw [Nat.add_zero];exact hbk)
   rw [hN] at g2 j4
   have e1:=Zdj _ _ _ j2
   have r:=hok v o j3 (a3,h3) (by rw [e1];exact j4) e vs' s g1 g2
   have k3:Xm P x (TD.ers (lk h0) a0) (erH h0) e.ex (TD.ers (lk s.2) s.1) (erH s.2):=by
    intro σ act okσ hH hrep
    obtain ⟨σ1,p1,p2,p3,p4,p5⟩:=j5 σ act okσ hH hrep
    rw [←p1]
    refine wp_mono (r σ1 act p4 p2 p5) ?_
    rintro e' a' w' ⟨rfl,σ2,q1,q2,q3,q4,q5⟩
    exact ⟨rfl,σ2,q1,q2,p3.trans q3,q4,q5⟩
   split at g3
   ·rename_i he
    rw [he] at k3
    obtain ⟨ex2,a2,h2,k4,k5,k6⟩:=X3 ok y _ _ _ _ _ (Zh2 g2) hy (Ztx hb0) g3
    exact ⟨_,_,_,k4,k5,Ztv k3 k6⟩
   ·rename_i hne
    exact ⟨_,_,_,g3,Zh2 g2,Zqn hne k3⟩
 |.cond c x y,n,m,a,h,K,hN,hl,hb0,k=>by
  have hx:=Zty (x:=x) (y:=y) rfl hl
  have hy:=Zqq (x:=x) (y:=y) rfl hl
  have bx:=Zzl (x:=x) (y:=y) rfl hb0
  have bY:=ZxE (x:=x) (y:=y) rfl hb0
  unfold evT at k
  obtain ⟨b,k0,k⟩:=Option.bind_eq_some_iff.1 k
  obtain ⟨d,k00,k01⟩:=Option.bind_eq_some_iff.1 k0
  have hc:=Zo (L:=lk h) k00
  rw [Zec k01] at hc
  split at k
  ·rename_i t
   cases k00
   have e:=Zto k01
   split at k
   ·rename_i hb
    subst hb
    rw [Zef e] at k
    obtain ⟨ex,a1,h1,k1,k2,k3⟩:=X3 ok x _ _ _ _ _ hN hx bx k
    exact ⟨_,_,_,k1,k2,Zh4 hc k3⟩
   ·rename_i hb
    have hb:b=false:=by simpa using hb
    subst hb
    rw [Zef e] at k
    obtain ⟨ex,a1,h1,k1,k2,k3⟩:=X3 ok y _ _ _ _ _ hN hy bY k
    exact ⟨_,_,_,k1,k2,Zh4 hc k3⟩
  ·split at k
   ·rename_i hb
    subst hb
    obtain ⟨ex,a1,h1,k1,k2,k3⟩:=X3 ok x _ _ _ _ _ hN hx bx k
    exact ⟨_,_,_,k1,k2,Zh4 hc k3⟩
   ·rename_i hb
    have hb:b=false:=by simpa using hb
    subst hb
    obtain ⟨ex,a1,h1,k1,k2,k3⟩:=X3 ok y _ _ _ _ _ hN hy bY k
    exact ⟨_,_,_,k1,k2,Zh4 hc k3⟩
 |.block id body,n,m,a,h,K,hN,hl,hb0,k=>by
  unfold evT at k
  obtain ⟨ex,a1,h1,k1,k2,k3⟩:=X3 ok body _ _ _ _ _ hN hl hb0 k
  exact ⟨_,_,_,k1,k2,Zu6 k3⟩
 |.scope body,n,m,a,h,K,hN,hl,hb0,k=>by
  unfold evT at k
  obtain ⟨ex,a1,h1,k1,k2,k3⟩:=X3 ok body _ _ _ _ _ hN hl hb0 k
  exact ⟨_,_,_,k1,k2,Zu7 k3⟩
 |.loop body,n,m,a,h,K,hN,hl,hb0,k=>by
  unfold evT at k
  split at k
  ·rename_i lp hlp
   obtain ⟨vs,j1,k⟩:=Option.bind_eq_some_iff.1 k
   obtain ⟨v,j2,k⟩:=Option.bind_eq_some_iff.1 k
   obtain ⟨o,j3,k⟩:=Option.bind_eq_some_iff.1 k
   obtain ⟨e,vs',s,g1,g2,g3⟩:=Zm6 k
   obtain ⟨a3,h3,j4,j5⟩:=Zqp rfl j1
   have hok:=hl 0 body rfl lp (by rw [Nat.add_zero];exact hlp)
   rw [hN] at g2 j4
   have e1:=Zdj _ _ _ j2
   have r:=hok v o j3 (a3,h3) (by rw [e1];exact j4) e vs' s g1 g2
   refine ⟨_,_,_,g3,Zh2 g2, ?_⟩
   intro σ act okσ hH hrep
   obtain ⟨σ1,p1,p2,p3,p4,p5⟩:=j5 σ act okσ hH hrep
   rw [←p1]
   refine wp_mono (r σ1 act p4 p2 p5) ?_
   rintro e' a' w' ⟨rfl,σ2,q1,q2,q3,q4,q5⟩
   exact ⟨rfl,σ2,q1,q2,p3.trans q3,q4,q5⟩
  ·have hl1:ZiA P fi N body (n+1):=fun k b hk lp hl2=>hl (k+1) b (by rw [Zs,List.getElem?_cons_succ];exact hk) lp (by rw [show n+(k+1)=n+1+k by omega];exact hl2)
   obtain ⟨ex,a1,h1,k1,k2,k3⟩:=Zmb (fun a h K out hN k=>X3 ok body _ _ _ _ K hN hl1 hb0 k) _ _ _ _ _ hN k
   exact ⟨ex,a1,h1,k1,k2,Zp5 k3⟩
 |.rangeFunc _ _ _ _,_,_,_,_,_,_,_,_,k=>by cases k
 |.goto _,_,_,_,_,_,_,_,_,k=>by cases k
 |.refuse _,_,_,_,_,_,_,_,_,k=>by cases k
end
end Go.Ev
end
section
namespace Go.Ev
def Zk {I X:Type} (step:I→Option (I⊕X)):Nat→I→Option X
 |0,_=>none
 |n+1,i=>(step i).bind fun r=>match r with
  |.inl j=>Zk step n j
  |.inr x=>some x
theorem Zzn:∃n:Nat,n=18446744073709551616:=⟨_,rfl⟩
noncomputable def fuel:Nat:=Classical.choose Zzn
theorem Zkn:fuel=18446744073709551616:=Classical.choose_spec Zzn
section
variable {P:Program}
def ZA4 (n0:Nat) (ex:Ex) (a:List TD) (h:List TEnt):(l:List XSh)→Option (XSh.sum l)
 |[]=>none
 |[e]=>if ex=e.ex then (ZrU n0 e.sl e.es a h).bind fun vs=>toD e.ty vs else none
 |e::f::r=>match (if ex=e.ex then (ZrU n0 e.sl e.es a h).bind fun vs=>toD e.ty vs else none) with
  |some x=>some (Sum.inl x:Ty.dens e.ty⊕XSh.sum (f::r))
  |none=>(ZA4 n0 ex a h (f::r)).map fun x=>(Sum.inr x:Ty.dens e.ty⊕XSh.sum (f::r))
theorem Zqr {n0:Nat} {ex:Ex} {a:List TD} {h:List TEnt}:∀{l:List XSh} {o:XSh.sum l},ZA4 n0 ex a h l=some o→∀e vs,ZuU l o e vs→ex=e.ex∧ZrU n0 e.sl e.es a h=some vs
 |[],_,k,_,_,_=>by cases k
 |[e],o,k,x,vs,hs=>by
  obtain ⟨rfl,rfl⟩:=hs
  have k:(if ex=x.ex then (ZrU n0 x.sl x.es a h).bind fun vs=>toD x.ty vs else none)=some o:=k
  split at k
  ·rename_i he
   obtain ⟨ws,h1,h2⟩:=Option.bind_eq_some_iff.1 k
   exact ⟨he,by rw [h1,Zdj _ _ _ h2]⟩
  ·cases k
 |e::f::r,o,k,x,vs,hs=>by
  simp only [ZA4] at k
  split at k
  ·rename_i y hy
   cases k
   obtain ⟨rfl,rfl⟩:=hs
   split at hy
   ·rename_i he
    obtain ⟨ws,h1,h2⟩:=Option.bind_eq_some_iff.1 hy
    exact ⟨he,by rw [h1,Zdj _ _ _ h2]⟩
   ·cases hy
  ·obtain ⟨y,h1,h2⟩:=Zd k
   subst h2
   exact Zqr h1 x vs hs
def Ztz (P:Program) (fi:FI) (specs:Sp P) (body:Code) (n N:Nat) (sl:Slots) (es:List ESh) (I:List Ty) (xs:List XSh):Ty.dens I→Option (Ty.dens I⊕XSh.sum xs):=fun v=>
 (XY N sl es (ofD I v)).bind fun s=>evT P fi specs body (n+1) 0 s.1 s.2 fun ex a h=>match ex with
   |.normal=>(ZrU s.2.length sl es a h).bind fun vs=>(toD I vs).map .inl
   |ex=>(ZA4 s.2.length ex a h xs).map .inr
theorem Zzo {fi:FI} {specs:Sp P} {body:Code} {n N:Nat} {sl:Slots} {es:List ESh} {I:List Ty} {xs:List XSh} (ok:SpOk specs) (hl:ZiA P fi N body (n+1)) (hb0:Zf3 P fi N body 0):
 ∀(f:Nat) (v:Ty.dens I) (o:XSh.sum xs),Zk (Ztz P fi specs body n N sl es I xs) f v=some o→∀s,XY N sl es (ofD I v)=some s→∀e vs s',ZuU xs o e vs→XY N e.sl e.es vs=some s'→
  Zp2 P body (TD.ers (lk s.2) s.1) (erH s.2) e.ex (TD.ers (lk s'.2) s'.1) (erH s'.2)
 |0,_,_,h,_,_,_,_,_,_,_=>by cases h
 |f+1,v,o,h,s,hs,e,vs,s',hx,hs'=>by
  unfold Zk at h
  obtain ⟨r,h1,h2⟩:=Option.bind_eq_some_iff.1 h
  unfold Ztz at h1
  rw [hs,Option.bind_some] at h1
  obtain ⟨ex,a,h3,k1,k2,k3⟩:=X3 ok body _ _ _ _ _ (Zh2 hs) hl hb0 h1
  split at k1
  ·obtain ⟨ws,g1,k1⟩:=Option.bind_eq_some_iff.1 k1
   obtain ⟨w,g2,rfl⟩:=Zd k1
   obtain ⟨a3,h4,g3,g4⟩:=Zqo (P:=P) g1
   rw [k2] at g3
   have r1:=g4 (ZC _) k3
   have:=Zzo ok hl hb0 f w o h2 (a3,h4) (by rw [Zdj _ _ _ g2];exact g3) e vs s' hx hs'
   exact Zp4 [] r1 this
  ·rename_i hne
   obtain ⟨w,g2,rfl⟩:=Zd k1
   cases h2
   obtain ⟨g5,g6⟩:=Zqr g2 e vs hx
   obtain ⟨a3,h4,g3,g4⟩:=Zqo (P:=P) g6
   rw [k2,hs'] at g3
   cases g3
   subst g5
   exact Zp3 hne (g4 (ZC _) k3)
theorem ZDk {fi:FI} {specs:Sp P} {body:Code} {n N:Nat} {sl:Slots} {es:List ESh} {I:List Ty} {xs:List XSh} {step:Ty.dens I→Option (Ty.dens I⊕XSh.sum xs)} (f:Nat) (ok:SpOk specs) (hl:ZiA P fi N body (n+1)) (hb0:Zf3 P fi N body 0)
 (h:∀v,Ztz P fi specs body n N sl es I xs v=step v):Lp.Ok P N body ⟨sl,es,I,xs,Zk step f⟩:=by
 intro v o hL s hs e vs s' hx hs'
 have e1:Ztz P fi specs body n N sl es I xs=step:=funext h
 subst e1
 exact Zp5 (Zzo ok hl hb0 f v o hL s hs e vs s' hx hs')
theorem ZaM:∀(c:Code) (k:Nat) (b:Code),(Zs c)[k]? =some (.loop b)→∀j x,(Zs b)[j]? =some x→(Zs c)[k+1+j]? =some x
 |.seq x y,k,b,h,j,z,hz=>by
  simp only [Zs] at h ⊢
  rcases Nat.lt_or_ge k (Zs x).length with hl|hl
  ·rw [List.getElem?_append_left hl] at h
   have:=ZaM x k b h j z hz
   rw [List.getElem?_append_left (List.getElem?_eq_some_iff.1 this).1]
   exact this
  ·rw [List.getElem?_append_right hl] at h
   have:=ZaM y _ b h j z hz
   rw [List.getElem?_append_right (by omega)]
   rw [show k+1+j - (Zs x).length=k - (Zs x).length+1+j by omega]
   exact this
 |.cond _ x y,k,b,h,j,z,hz=>by
  simp only [Zs] at h ⊢
  rcases Nat.lt_or_ge k (Zs x).length with hl|hl
  ·rw [List.getElem?_append_left hl] at h
   have:=ZaM x k b h j z hz
   rw [List.getElem?_append_left (List.getElem?_eq_some_iff.1 this).1]
   exact this
  ·rw [List.getElem?_append_right hl] at h
   have:=ZaM y _ b h j z hz
   rw [List.getElem?_append_right (by omega)]
   rw [show k+1+j - (Zs x).length=k - (Zs x).length+1+j by omega]
   exact this
 |.block _ a,k,b,h,j,z,hz=>ZaM a k b h j z hz
 |.scope a,k,b,h,j,z,hz=>ZaM a k b h j z hz
 |.loop a,k,b,h,j,z,hz=>by
  simp only [Zs] at h ⊢
  cases k with
  |zero=>
   simp only [List.getElem?_cons_zero,Option.some.injEq,Code.loop.injEq] at h
   subst h
   rw [show 0+1+j=j+1 by omega,List.getElem?_cons_succ]
   exact hz
  |succ k=>
   rw [List.getElem?_cons_succ] at h
   rw [show k+1+1+j=(k+1+j)+1 by omega,List.getElem?_cons_succ]
   exact ZaM a k b h j z hz
 |.skip,_,_,h,_,_,_=>by simp [Zs] at h
 |.region _ _ _,_,_,h,_,_,_=>by simp [Zs] at h
 |.rangeFunc _ _ _ _,_,_,h,_,_,_=>by simp [Zs] at h
 |.exit _,_,_,h,_,_,_=>by simp [Zs] at h
 |.ret,_,_,h,_,_,_=>by simp [Zs] at h
 |.label _,_,_,h,_,_,_=>by simp [Zs] at h
 |.goto _,_,_,h,_,_,_=>by simp [Zs] at h
 |.refuse _,_,_,h,_,_,_=>by simp [Zs] at h
def Zqs (P:Program) (g:FuncId) (N:Nat):List (Nat×Lp)→Prop
 |[]=>True
 |q::r=>q.2.Ok P N (Zp P g q.1)∧Zqs P g N r
theorem ZlA {g:FuncId} {N:Nat}:∀{l:List (Nat×Lp)} {n:Nat} {lp:Lp},Zqs P g N l→l.lookup n=some lp→lp.Ok P N (Zp P g n)
 |[],_,_,_,h=>by cases h
 |q::r,n,lp,hk,h=>by
  rw [List.lookup_cons] at h
  split at h
  ·rename_i e
   cases h
   rw [beq_iff_eq] at e
   rw [e]
   exact hk.1
  ·exact ZlA hk.2 h
def Ze8 (P:Program) (g:FuncId):Code:=
 match P.funcs[g]? with
 |some fn=>fn.body.getD .skip
 |none=>.skip
theorem ZlB {g:FuncId} {k:Nat} {b:Code} (h:(Zs (Ze8 P g))[k]? =some (.loop b)):Zp P g k=b:=by
 unfold Zp Zyr
 unfold Ze8 at h
 split at h
 ·rename_i fn hf
  rw [hf]
  dsimp only
  cases hb:fn.body with
  |none=>rw [hb] at h;simp [Zs] at h
  |some c=>
   rw [hb] at h
   dsimp only [Option.getD] at h ⊢
   rw [List.getD_eq_getElem?_getD,h]
   rfl
 ·simp [Zs] at h
theorem ZA5 {g:FuncId} {fi:FI} {N:Nat} (h:Zqs P g N fi.lp):ZiA P fi N (Ze8 P g) 0:=by
 intro k b hk lp hl
 rw [Nat.zero_add] at hl
 rw [←ZlB hk]
 exact ZlA h hl
theorem Zzp {g:FuncId} {fi:FI} {N k:Nat} (hk:(Zs (Ze8 P g))[k]? =some (.loop (Zp P g k))) (h:Zqs P g N fi.lp):ZiA P fi N (Zp P g k) (k+1):=by
 intro j b hj lp hl
 have:=ZaM _ _ _ hk j _ hj
 rw [←ZlB this]
 exact ZlA h hl
def Zoj (P:Program) (g k:Nat):Bool:=
 match (Zs (Ze8 P g))[k]? with
 |some (.loop _)=>true
 |_=>false
theorem ZpA {g k:Nat} (h:Zoj P g k=true):(Zs (Ze8 P g))[k]? =some (.loop (Zp P g k)):=by
 unfold Zoj at h
 split at h
 ·rename_i b hb
  rw [hb,ZlB hb]
 ·cases h
def Zzq (c:Code) (m:Nat):Code:=((Xs c)[m]?).getD .skip
def ZtA (P:Program) (N:Nat) (c:Code):List (Nat×Lp)→Prop
 |[]=>True
 |q::r=>q.2.Is P N (Zzq c q.1)∧ZtA P N c r
theorem Zqt {N:Nat} {c:Code}:∀{l:List (Nat×Lp)} {m:Nat} {bk:Lp},ZtA P N c l→l.lookup m=some bk→bk.Is P N (Zzq c m)
 |[],_,_,_,h=>by cases h
 |q::r,m,bk,hk,h=>by
  rw [List.lookup_cons] at h
  split at h
  ·rename_i he
   cases h
   have:m=q.1:=by simpa using he
   rw [this]
   exact hk.1
  ·exact Zqt hk.2 h
theorem Zwe {fi:FI} {N:Nat} {c:Code} (h:ZtA P N c fi.bk):Zf3 P fi N c 0:=by
 intro k x hk bk hl
 rw [Nat.zero_add] at hl
 have:=Zqt h hl
 unfold Zzq at this
 rw [hk] at this
 exact this
theorem Zq {fi:FI} {specs:Sp P} {g k N:Nat} {sl:Slots} {es:List ESh} {I:List Ty} {xs:List XSh} {step:Ty.dens I→Option (Ty.dens I⊕XSh.sum xs)} (ok:SpOk specs) (hl:Zqs P g N fi.lp) (hk:Zoj P g k=true)
 (h:∀v,Ztz P fi specs (Zp P g k) k N sl es I xs v=step v) (hb:ZtA P N (Zp P g k) fi.bk:=by exact True.intro):Lp.Ok P N (Zp P g k) ⟨sl,es,I,xs,Zk step fuel⟩:=
 ZDk fuel ok (Zzp (ZpA hk) hl) (Zwe hb) h
def ZtB {O:Type} (P:Program) (a:List TD) (h:List TEnt):List ResultVar→(List TD→List Hint→Option O)→Option O
 |[],K=>K [] []
 |.tmp t::r,K=>ZtB P a h r fun ds hs=>K (a.getD t .junk::ds) hs
 |.cell t ty::r,K=>match a.getD t .junk with
  |.ref id path=>(Zl5 h id).bind fun d=>gpT (lk h) path d fun sub hs _=>if okT P ty (sub.er (lk h))=true then ZtB P a h r fun ds hs'=>K (sub::ds) (hs++hs') else none
  |_=>none
theorem Zh5 {O:Type} {a:List TD} {h:List TEnt} {out:O}:∀(l:List ResultVar) (K:List TD→List Hint→Option O),ZtB P a h l K=some out→∃ds hs C,K ds hs=some out∧AllP C∧∀rest,Zpk P (TD.ers (lk h) a) (erH h) l (hs++rest)=some (C,TD.ers (lk h) ds)
 |[],K,k=>⟨[],[],[],k,trivial,fun _=>rfl⟩
 |.tmp t::r,K,k=>by
  obtain ⟨ds,hs,C,k1,k2,k3⟩:=Zh5 r _ k
  refine ⟨_,_,C,k1,k2,fun rest=> ?_⟩
  simp only [Zpk,k3 rest,Option.map_some,Zj6,TD.ers]
 |.cell t ty::r,K,k=>by
  unfold ZtB at k
  split at k
  ·rename_i id path hx
   obtain ⟨d,h1,k⟩:=Option.bind_eq_some_iff.1 k
   obtain ⟨st,h2,h3⟩:=Zch h1
   obtain ⟨sub,hs,put,C,g1,g2,g3,_⟩:=YS _ _ _ _ k
   obtain ⟨g4,g5⟩:=Za g1
   obtain ⟨ds,hs',C',k1,k2,k3⟩:=Zh5 r _ g5
   refine ⟨_,_,C++[V9 path=Xr path]++C',k1,Zh.2 ⟨Zh.2 ⟨g2,(YZ _).symm,trivial⟩,k2⟩,fun rest=> ?_⟩
   unfold Zpk
   rw [Zj6,hx]
   dsimp only [TD.er]
   rw [h3]
   dsimp only
   rw [List.append_assoc,g3 (hs'++rest)]
   dsimp only
   rw [if_pos g4,k3 rest]
   rfl
  ·cases k
def ZpB:List TD→TD
 |[d]=>d
 |ds=>.tup ds
theorem Zm8 {L:Lk} (ds:List TD):(ZpB ds).er L=Znd (TD.ers L ds):=by
 match ds with
 |[]=>rfl
 |[d]=>rfl
 |_::_::_=>rfl
def TD.arg (L:Lk):TD→TD
 |.own id nn t c=>.p (.sl nn t (ZQ L id t c))
 |.agg ds=>TD.melt L ds
 |d=>d
theorem Zzr {L:Lk} (d:TD):(d.arg L).er L=(d.er L).arg:=by
 cases d <;> first|rfl|exact ZvN _
def ZCD (h:List TEnt) (rs:Sh) (es:List ESh) (n0:Nat) (r:TD):Option (List Nat):=
 let l:=ZCx h es 0 ((List.range n0).map (fun i=>(i,i))++Sh.ids rs r)
 ((List.range es.length).drop n0).mapM fun j=>l.lookup j
def ZA6 (h:List TEnt) (n0:Nat) (ds:List TD) (e:XSh):Option (Ty.dens e.ty):=
 match e.sl with
 |[(0,rs)]=>(ZCD h rs e.es n0 (ZpB ds)).bind fun keep=>
  if once (List.range n0++keep) then (match Dv.rn (toIds (List.range n0++keep)) ((ZpB ds).er (lk h)) with
   |some _=>(ZpB ds).rn (toIds (List.range n0++keep))
   |none=>(ZpB (ds.map (TD.arg (lk h)))).rn (toIds (List.range n0++keep))).bind fun r=>
   (XS h (List.range n0++keep) (List.range n0++keep)).bind fun h2=>(Sh.mt (lk h2) rs r).bind fun q=>(ESh.mts (lk h2) e.es h2).bind fun w=>toD e.ty (q.2++w.2)
  else none
 |_=>none
def ZtC (h:List TEnt) (n0:Nat) (ds:List TD):(l:List XSh)→Option (XSh.sum l)
 |[]=>none
 |[e]=>ZA6 h n0 ds e
 |e::f::r=>match ZA6 h n0 ds e with
  |some x=>some (Sum.inl x:Ty.dens e.ty⊕XSh.sum (f::r))
  |none=>(ZtC h n0 ds (f::r)).map fun x=>(Sum.inr x:Ty.dens e.ty⊕XSh.sum (f::r))
theorem Zok {h:List TEnt} {n0:Nat} {ds:List TD}:∀{l:List XSh} {o:XSh.sum l},ZtC h n0 ds l=some o→∀e vs,ZuU l o e vs→∃x,ZA6 h n0 ds e=some x∧vs=ofD e.ty x
 |[],_,k,_,_,_=>by cases k
 |[e],o,k,x,vs,hs=>by
  obtain ⟨rfl,rfl⟩:=hs
  exact ⟨o,k,rfl⟩
 |e::f::r,o,k,x,vs,hs=>by
  simp only [ZtC] at k
  split at k
  ·rename_i y hy
   cases k
   obtain ⟨rfl,rfl⟩:=hs
   exact ⟨y,hy,rfl⟩
  ·obtain ⟨y,h1,h2⟩:=Zd k
   subst h2
   exact Zok h1 x vs hs
def fnT (P:Program) (fi:FI) (specs:Sp P) (g:FuncId) (ps:List Sh) (es:List ESh) (ins:List Ty) (xs:List XSh):Ty.dens ins→Option (XSh.sum xs):=fun x=>
 match P.funcs[g]? with
 |some fn=>match fn.body with
  |some c=>(Sh.fills ps (ofD ins x)).bind fun q=>(ESh.fills es q.2).bind fun w=>if w.2.isEmpty then
    evT P fi specs c 0 0 (q.1++List.replicate (fn.ntmps - q.1.length) .junk) w.1 fun ex a h=>match ex with
     |.exit _=>none
     |_=>ZtB P a h fn.results.toList fun ds _=>ZtC h w.1.length ds xs
    else none
  |none=>none
 |none=>none
def Zt (P:Program) (g:FuncId):Nat:=
 match P.funcs[g]? with
 |some fn=>fn.ntmps
 |none=>0
theorem Zn {fi:FI} {specs:Sp P} {g:FuncId} {ps:List Sh} {es:List ESh} {ins:List Ty} {xs:List XSh} {M:Ty.dens ins→Option (XSh.sum xs)} (ok:SpOk specs) (hl:Zqs P g (Zt P g) fi.lp) (hn:ps.length≤Zt P g)
 (h:∀x,fnT P fi specs g ps es ins xs x=M x) (hb:ZtA P (Zt P g) (Ze8 P g) fi.bk:=by exact True.intro):Fs.Ok (⟨g,ps,es,ins,xs,M⟩:Fs P):=by
 intro x o hM
 have hM:M x=some o:=hM
 rw [←h x] at hM
 have hl':=ZA5 hl
 unfold fnT at hM
 split at hM
 ·rename_i fn hf
  split at hM
  ·rename_i c hb1
   obtain ⟨q,h1,hM⟩:=Option.bind_eq_some_iff.1 hM
   obtain ⟨w,h2,hM⟩:=Option.bind_eq_some_iff.1 hM
   obtain ⟨h3,hM⟩:=Za hM
   have hN:Zt P g=fn.ntmps:=by unfold Zt;rw [hf]
   have hc:Ze8 P g=c:=by unfold Ze8;rw [hf];dsimp only;rw [hb1];rfl
   rw [hc,hN] at hl' hb
   have hb0:=Zwe hb
   rw [hN] at hn
   have hlen:(q.1++List.replicate (fn.ntmps - q.1.length) TD.junk).length=fn.ntmps:=by
    rw [List.length_append,List.length_replicate,Zly h1]
    omega
   obtain ⟨ex,a,hh,k1,k2,k3⟩:=X3 ok c _ _ _ _ _ hlen hl' hb0 hM
   have hex:(ex=.ret∨ex=.normal)∧(ZtB P a hh fn.results.toList fun ds _=>ZtC hh w.1.length ds xs)=some o:=by
    cases ex with
    |exit _=>cases k1
    |normal=>exact ⟨.inr rfl,k1⟩
    |ret=>exact ⟨.inl rfl,k1⟩
   obtain ⟨hex,k1⟩:=hex
   obtain ⟨ds,hs,C,g1,g2,g3⟩:=Zh5 _ _ k1
   refine ⟨q.1,q.2,w.1,h1, ?_,fun e vs s' hsel hfs=> ?_⟩
   ·rw [h2]
    have:w.2=[]:=by simpa using h3
    rw [←this]
   obtain ⟨o1,g1,hvs⟩:=Zok g1 e vs hsel
   unfold ZA6 at g1
   split at g1
   case h_2=>cases g1
   rename_i rs hsl
   obtain ⟨keep,g4,g1⟩:=Option.bind_eq_some_iff.1 g1
   obtain ⟨g5,g1⟩:=Za g1
   obtain ⟨r,g6,g1⟩:=Option.bind_eq_some_iff.1 g1
   obtain ⟨e2,g7,g1⟩:=Option.bind_eq_some_iff.1 g1
   obtain ⟨z,g8,g1⟩:=Option.bind_eq_some_iff.1 g1
   obtain ⟨y,g9,g1⟩:=Option.bind_eq_some_iff.1 g1
   obtain ⟨b1,b2⟩:=ZgO g9
   have hcc:∀id t,ZQ (lk e2) id t none=ZQ (lk y.1) id t none:=fun id t=>by rw [b2]
   have eo:=Zdj _ _ _ g1
   have efill:s'=([z.1],y.1):=by
    rw [hvs,eo,hsl] at hfs
    unfold XY at hfs
    rw [show shs [(0,rs)] 1=[rs] from rfl] at hfs
    simp only [Sh.fills,Zkk _ _ _ g8,Option.bind_some,Option.map_some] at hfs
    have:=Zck g9 []
    rw [List.append_nil] at this
    rw [this] at hfs
    exact (Option.some.inj hfs).symm
   subst efill
   refine ⟨z.1,rfl, ?_⟩
   have hfin:fin P fn (TD.ers (lk hh) a) (erH hh) (erH w.1).length keep hs=some (C,r.er (lk e2),erH e2):=by
    unfold fin
    have:=g3 []
    rw [List.append_nil] at this
    rw [this]
    dsimp only
    rw [ZC,g5, ←Zm8,show subEnts (erH hh) _ _=some (erH e2) from Wd (Zbl g7) g7]
    split at g6
    ·rename_i r0 hr0
     have e4:=ZgP (Zbl g7) _ _ g6
     rw [e4]
    ·rename_i hr0
     have e4:=ZgP (Zbl g7) _ _ g6
     rw [Zm8,Zx,List.map_map] at e4
     rw [hr0,show (TD.ers (lk hh) ds).map Dv.arg=ds.map (TD.er (lk hh) ∘ TD.arg (lk hh)) by
      rw [Zx,List.map_map]
      exact List.map_congr_left fun d _=>(Zzr d).symm,e4]
   have hrun:Xm P c (TD.ers (lk w.1) q.1++List.replicate (fn.ntmps - (TD.ers (lk w.1) q.1).length) .junk) (erH w.1) ex (TD.ers (lk hh) a) (erH hh):=by
    have e5:TD.ers (lk w.1) (q.1++List.replicate (fn.ntmps - q.1.length) TD.junk)=TD.ers (lk w.1) q.1++List.replicate (fn.ntmps - (TD.ers (lk w.1) q.1).length) .junk:=by
     rw [Zdb,Zx,Zx,List.map_append,List.map_replicate]
     rfl
    rw [←e5]
    exact k3
   exact ZsN (Zda hf hb1 hrun hex hfin g2) (Zqd hcc _ _ _ g8) (Zkl hcc g9)
  ·cases hM
 ·cases hM
end
theorem ZrV {P:Program} {g:FuncId} {t:Ty} {xs:List XSh} {MA:Ty.dens [.sl t]→Option (XSh.sum xs)} {MB:Ty.dens []→Option (XSh.sum xs)} (hA:Fs.Ok (⟨g,[.sl true t],[],[.sl t],xs,MA⟩:Fs P)) (hB:Fs.Ok (⟨g,[.nil t],[],[],xs,MB⟩:Fs P))
 (h:MB ()=MA ([]:List t.den)):Fs.Ok (⟨g,[.v (.sl t)],[],[.sl t],xs,MA⟩:Fs P):=by
 intro l o hM
 have key:∀(l:List t.den),Ty.cast (.sl t) (.sl t) l=some l:=fun l=>Yd (.sl t) l
 obtain ⟨a1,R1,H1,f1,f2,f3⟩:=hA l o hM
 have e1:a1=[.p (.sl (some true) t l)]∧R1=[]:=by
  have:Sh.fills [.sl true t] [(⟨.sl t,l⟩:TV)]=some (a1,R1):=f1
  simp only [Sh.fills,Sh.fill] at this
  rw [key l] at this
  have this:some (([.p (.sl (some true) t l)]:List TD),([]:List TV))=some (a1,R1):=this
  cases this
  exact ⟨rfl,rfl⟩
 obtain ⟨rfl,rfl⟩:=e1
 cases f2
 refine ⟨[.p (.v (.sl t) l)],[],[], ?_,rfl,fun e vs s' hs hf=> ?_⟩
 ·show Sh.fills [.v (.sl t)] [(⟨.sl t,l⟩:TV)]=_
  simp only [Sh.fills,Sh.fill]
  rw [key l]
  rfl
 ·obtain ⟨r,r1,r2⟩:=f3 e vs s' hs hf
  refine ⟨r,r1, ?_⟩
  refine ZvF (xs:=l.map t.enc) r2 fun hl=> ?_
  have hl:l=[]:=List.map_eq_nil_iff.1 hl
  subst hl
  obtain ⟨a2,R2,H2,g1,g2,g3⟩:=hB () o (by rw [←hM];exact h)
  cases g1
  cases g2
  obtain ⟨r',r1',r2'⟩:=g3 e vs s' hs hf
  rw [r1] at r1'
  cases r1'
  exact r2'
def Zol (n:Int):Option (List UInt8):=if (decide (0≤n)&&decide (n.toNat≤bytesBound))=true then some [] else none
theorem ZA7 {P:Program} {g:FuncId} {e:TypeId} (h:∀n:Nat,n≤bytesBound→Con P g [.p (.sl (some false) 1 []),.p (.int .i64 (n:Int))] [] (.own 0 none 1 []) [.log 1 e []]):
 Fs.Ok (⟨g,[.nil .u8,.v (.int .i64)],[],[.int .i64],[⟨.ret,[(0,.own 0 .u8)],[.log .u8 e],[.sl .u8]⟩],Zol⟩:Fs P):=by
 intro n o hM
 have key:∀(n:Int),Zol n=some o→(0≤n∧n.toNat≤bytesBound)∧([]:List UInt8)=o:=fun n hM=>by
  unfold Zol at hM
  obtain ⟨h1,h2⟩:=Za (α:=List UInt8) hM
  rw [Bool.and_eq_true,decide_eq_true_eq,decide_eq_true_eq] at h1
  exact ⟨h1,Option.some.inj h2⟩
 obtain ⟨h1,h2⟩:=key n hM
 cases h2
 refine ⟨[.p (.sl (some false) .u8 []),.p (.v (.int .i64) n)],[],[],rfl,rfl,fun x vs s' hs hf=> ?_⟩
 obtain ⟨rfl,rfl⟩:=hs
 cases hf
 refine ⟨_,rfl, ?_⟩
 have:=h (Int.toNat n) h1.2
 rw [Int.toNat_of_nonneg h1.1] at this
 exact this
mutual
theorem Zqu:∀(s:Sh) (vs w:List TV) (q:TD×List TV),s.fill vs=some q→s.fill (vs++w)=some (q.1,q.2++w)
 |.v t,vs,w,q,h=>by
  cases vs with
  |nil=>cases h
  |cons x r=>
   obtain ⟨y,h1,rfl⟩:=Zd (show (Ty.cast x.1 t x.2).map (fun y=>((TD.p (.v t y),r):TD×List TV))=some q from h)
   show (Ty.cast x.1 t x.2).map (fun y=>((TD.p (.v t y),r++w):TD×List TV))=_
   rw [h1];rfl
 |.elem t,vs,w,q,h=>by
  cases vs with
  |nil=>cases h
  |cons x r=>
   obtain ⟨y,h1,rfl⟩:=Zd (show (Ty.cast x.1 t x.2).map (fun y=>((TD.elem (.v t y),r):TD×List TV))=some q from h)
   show (Ty.cast x.1 t x.2).map (fun y=>((TD.elem (.v t y),r++w):TD×List TV))=_
   rw [h1];rfl
 |.sl nn t,vs,w,q,h=>by
  cases vs with
  |nil=>cases h
  |cons x r=>
   obtain ⟨y,h1,rfl⟩:=Zd (α:=(Ty.sl t).den) (show (Ty.cast x.1 (.sl t) x.2).map (fun (y:List t.den)=>((TD.p (.sl (some nn) t y),r):TD×List TV))=some q from h)
   show (Ty.cast x.1 (.sl t) x.2).map (fun (y:List t.den)=>((TD.p (.sl (some nn) t y),r++w):TD×List TV))=_
   rw [h1];rfl
 |.nil _,vs,w,q,h=>by cases h;rfl
 |.own _ _,vs,w,q,h=>by cases h;rfl
 |.ref _ _,vs,w,q,h=>by cases h;rfl
 |.mp _,vs,w,q,h=>by cases h;rfl
 |.rw _,vs,w,q,h=>by cases h;rfl
 |.rp j s p,vs,w,q,h=>by
  cases vs with
  |nil=>cases h
  |cons x r=>
   obtain ⟨y,h1,rfl⟩:=Zd (α:=Int) (show (Ty.cast x.1 (.int .i64) x.2).map (fun (i:Int)=>((TD.rp j (.ix i.toNat s::p),r):TD×List TV))=some q from h)
   show (Ty.cast x.1 (.int .i64) x.2).map (fun (i:Int)=>((TD.rp j (.ix i.toNat s::p),r++w):TD×List TV))=_
   rw [h1];rfl
 |.view _ _ _ _ _,vs,w,q,h=>by cases h;rfl
 |.fn g l,vs,w,q,h=>by
  simp only [Sh.fill] at h ⊢
  obtain ⟨y,h1,rfl⟩:=Zd h
  rw [fills_more l vs w y h1];rfl
 |.agg l,vs,w,q,h=>by
  simp only [Sh.fill] at h ⊢
  obtain ⟨y,h1,rfl⟩:=Zd h
  rw [fills_more l vs w y h1];rfl
 |.arr n s l,vs,w,q,h=>by
  simp only [Sh.fill] at h ⊢
  obtain ⟨y,h1,rfl⟩:=Zd h
  rw [fills_more l vs w y h1];rfl
 |.tup l,vs,w,q,h=>by
  simp only [Sh.fill] at h ⊢
  obtain ⟨y,h1,rfl⟩:=Zd h
  rw [fills_more l vs w y h1];rfl
 |.iface t x,vs,w,q,h=>by
  simp only [Sh.fill] at h ⊢
  obtain ⟨y,h1,rfl⟩:=Zd h
  rw [Zqu x vs w y h1];rfl
 |.ptr0,vs,w,q,h=>by cases h;rfl
 |.fn0,vs,w,q,h=>by cases h;rfl
 |.if0,vs,w,q,h=>by cases h;rfl
 |.map0,vs,w,q,h=>by cases h;rfl
 |.junk,vs,w,q,h=>by cases h;rfl
theorem fills_more:∀(l:List Sh) (vs w:List TV) (q:List TD×List TV),Sh.fills l vs=some q→Sh.fills l (vs++w)=some (q.1,q.2++w)
 |[],vs,w,q,h=>by simp only [Sh.fills] at h;cases h;rfl
 |s::r,vs,w,q,h=>by
  simp only [Sh.fills] at h ⊢
  obtain ⟨a,h1,h⟩:=Option.bind_eq_some_iff.1 h
  obtain ⟨b,h2,rfl⟩:=Zd h
  rw [Zqu s vs w a h1,Option.bind_some,fills_more r a.2 w b h2]
  rfl
end
theorem ZCE {P:Program} {g:FuncId} {t:Ty} {e:TypeId} {rest:List Sh} {i1 i2:List Ty} {xs:List XSh} {M:Ty.dens i2→Option (XSh.sum xs)} (pk:Ty.dens i1→Ty.dens i2) (h:Fs.Ok (⟨g,.own 0 t::rest,[.log t e],i2,xs,M⟩:Fs P))
 (hp:∀x,ofD i2 (pk x)=ofD i1 x++[⟨.sl t,([]:List t.den)⟩]) (hf:∀x,∃a,Sh.fills rest (ofD i1 x)=some (a,[])):Fs.Ok (⟨g,.nil t::rest,[],i1,xs,fun x=>M (pk x)⟩:Fs P):=by
 intro x o hM
 obtain ⟨args,R,H,f1,f2,f3⟩:=h (pk x) o hM
 obtain ⟨a,ha⟩:=hf x
 have f1:Sh.fills (.own 0 t::rest) (ofD i2 (pk x))=some (args,R):=f1
 rw [hp x] at f1
 simp only [Sh.fills,Sh.fill,Option.bind_some,fills_more rest _ _ _ ha,Option.map_some,Option.some.injEq,Prod.mk.injEq,List.nil_append] at f1
 obtain ⟨rfl,rfl⟩:=f1
 have f2:((Ty.cast (.sl t) (.sl t) ([]:List t.den)).map fun (y:List t.den)=>((TEnt.log t e y,[]):TEnt×List TV)).bind (fun a=>(ESh.fills [] a.2).map fun b=>(a.1::b.1,b.2))=some (H,[]):=f2
 have key:Ty.cast (.sl t) (.sl t) ([]:List t.den)=some ([]:List t.den):=Yd (.sl t) ([]:List t.den)
 rw [key] at f2
 cases f2
 refine ⟨.p (.sl (some false) t [])::a,[],[], ?_,rfl,fun x' vs s' hs hf'=> ?_⟩
 ·show Sh.fills (.nil t::rest) (ofD i1 x)=_
  simp only [Sh.fills,Sh.fill,Option.bind_some,ha,Option.map_some]
 ·obtain ⟨r,r1,r2⟩:=f3 x' vs s' hs hf'
  refine ⟨r,r1, ?_⟩
  have e1:TD.ers (lk [.log t e []]) (.own 0 none t none::a)=.own 0 none t.size []::TD.ers (lk []) a:=by
   have e0:TD.ers (lk [.log t e []]) a=TD.ers (lk []) a:=(ers_cont (fun id t'=>Zkf (H:=[]) (T:=t) (e:=e) id t') a).symm
   rw [TD.ers,e0]
   congr 1
   rw [TD.er,show ZQ (lk [.log t e []]) 0 t none=[] from Zb2 (H:=[])]
   rfl
  have r2:Con P g (TD.ers (lk [.log t e []]) (.own 0 none t none::a)) (erH [.log t e []]) (r.er (lk s'.2)) (erH s'.2):=r2
  rw [e1] at r2
  exact ZsO (H:=[]) (e:=e) r2
end Go.Ev
end
section
namespace Go.Ev
universe u
variable {O:Type u}
def ZaN (n:Nat) (k:Nat→O):O:=Nat.rec (motive:=fun _=>O) (k 0) (fun m _=>k (Nat.succ m)) n
theorem Ys (n:Nat) (k:Nat→O):ZaN n k=k n:=by cases n <;> rfl
def Zcl {α:Type} (f:α→(α→O)→O):List α→(List α→O)→O
 |[],k=>k []
 |a::r,k=>f a fun a=>Zcl f r fun r=>k (a::r)
theorem X4 {α:Type} {f:α→(α→O)→O} (hf:∀a k,f a k=k a):∀(l:List α) (k:List α→O),Zcl f l k=k l
 |[],k=>rfl
 |a::r,k=>by rw [Zcl,hf,X4 hf r]
def ZCF (n:Int) (k:Int→O):O:=match n with
 |.ofNat n=>ZaN n fun n=>k (.ofNat n)
 |.negSucc n=>ZaN n fun n=>k (.negSucc n)
theorem ZA8 (n:Int) (k:Int→O):ZCF n k=k n:=by cases n <;> (rw [ZCF,Ys])
def Zom (b:Bool) (k:Bool→O):O:=match b with
 |true=>k true
 |false=>k false
theorem Zeh (b:Bool) (k:Bool→O):Zom b k=k b:=by cases b <;> rfl
mutual
def Ty.fo:(t:Ty)→t.den→(t.den→O)→O
 |.int _,x,k=>ZCF x k
 |.u8,x,k=>ZaN (UInt8.toNat x) fun n=>k (UInt8.ofNat n)
 |.u32,x,k=>ZaN (UInt32.toNat x) fun n=>k (UInt32.ofNat n)
 |.u64,x,k=>ZaN (UInt64.toNat x) fun n=>k (UInt64.ofNat n)
 |.bool,x,k=>Zom x k
 |.str,x,k=>k x
 |.sl t,x,k=>Zcl (Ty.fo t) x k
 |.arr _ t,x,k=>Zcl (Ty.fo t) x k
 |.st fs,x,k=>Ty.fos fs x k
def Ty.fos:(fs:List Ty)→Ty.dens fs→(Ty.dens fs→O)→O
 |[],_,k=>k ()
 |[t],x,k=>Ty.fo t x k
 |t::u::r,x,k=>Ty.fo t x.1 fun a=>Ty.fos (u::r) x.2 fun b=>k (a,b)
end
mutual
theorem Ty.fo_eq:∀(t:Ty) (x:t.den) (k:t.den→O),t.fo x k=k x
 |.int _,x,k=>ZA8 x k
 |.u8,x,k=>by rw [Ty.fo,Ys];exact congrArg k UInt8.ofNat_toNat
 |.u32,x,k=>by rw [Ty.fo,Ys];exact congrArg k UInt32.ofNat_toNat
 |.u64,x,k=>by rw [Ty.fo,Ys];exact congrArg k UInt64.ofNat_toNat
 |.bool,x,k=>Zeh x k
 |.str,x,k=>rfl
 |.sl t,x,k=>by rw [Ty.fo];exact X4 (Ty.fo_eq t) x k
 |.arr _ t,x,k=>by rw [Ty.fo];exact X4 (Ty.fo_eq t) x k
 |.st fs,x,k=>Ty.fos_eq fs x k
theorem Ty.fos_eq:∀(fs:List Ty) (x:Ty.dens fs) (k:Ty.dens fs→O),Ty.fos fs x k=k x
 |[],_,k=>rfl
 |[t],x,k=>Ty.fo_eq t x k
 |t::u::r,x,k=>by rw [Ty.fos,Ty.fo_eq t];exact Ty.fos_eq (u::r) x.2 _
end
mutual
def TP.fo:TP→(TP→O)→O
 |.v t x,k=>t.fo x fun x=>k (.v t x)
 |.sl nn t xs,k=>Zcl t.fo xs fun xs=>k (.sl nn t xs)
 |.agg xs,k=>TP.fos xs fun xs=>k (.agg xs)
 |.arr n s xs,k=>TP.fos xs fun xs=>k (.arr n s xs)
 |.sll nn s xs,k=>TP.fos xs fun xs=>k (.sll nn s xs)
 |.iface t x,k=>TP.fo x fun x=>k (.iface t x)
 |x,k=>k x
def TP.fos:List TP→(List TP→O)→O
 |[],k=>k []
 |x::r,k=>TP.fo x fun x=>TP.fos r fun r=>k (x::r)
end
mutual
theorem TP.fo_eq:∀(x:TP) (k:TP→O),x.fo k=k x
 |.v t x,k=>by rw [TP.fo,Ty.fo_eq]
 |.sl nn t xs,k=>by rw [TP.fo,X4 (Ty.fo_eq t)]
 |.agg xs,k=>by rw [TP.fo,TP.fos_eq xs]
 |.arr n s xs,k=>by rw [TP.fo,TP.fos_eq xs]
 |.sll nn s xs,k=>by rw [TP.fo,TP.fos_eq xs]
 |.iface t x,k=>by rw [TP.fo,TP.fo_eq x]
 |.ptr0,k=>rfl
 |.fn0,k=>rfl
 |.if0,k=>rfl
 |.map0,k=>rfl
 |.fnv _,k=>rfl
theorem TP.fos_eq:∀(x:List TP) (k:List TP→O),TP.fos x k=k x
 |[],k=>rfl
 |x::r,k=>by rw [TP.fos,TP.fo_eq x,TP.fos_eq r]
end
def ZDl {α:Type} (f:α→(α→O)→O):Option α→(Option α→O)→O
 |none,k=>k none
 |some a,k=>f a fun a=>k (some a)
theorem ZA9 {α:Type} {f:α→(α→O)→O} (hf:∀a k,f a k=k a):∀(l:Option α) (k:Option α→O),ZDl f l k=k l
 |none,k=>rfl
 |some a,k=>hf a _
mutual
def TD.fo:TD→(TD→O)→O
 |.p x,k=>x.fo fun x=>k (.p x)
 |.elem x,k=>x.fo fun x=>k (.elem x)
 |.own id nn t c,k=>ZaN id fun id=>ZDl (Zcl t.fo) c fun c=>k (.own id nn t c)
 |.ref id q,k=>ZaN id fun id=>k (.ref id q)
 |.view id q s lo n,k=>ZaN id fun id=>ZaN s fun s=>ZaN lo fun lo=>ZaN n fun n=>k (.view id q s lo n)
 |.agg xs,k=>TD.fos xs fun xs=>k (.agg xs)
 |.arr n s xs,k=>ZaN n fun n=>ZaN s fun s=>TD.fos xs fun xs=>k (.arr n s xs)
 |.fn f xs,k=>TD.fos xs fun xs=>k (.fn f xs)
 |.iface t x,k=>TD.fo x fun x=>k (.iface t x)
 |.tup xs,k=>TD.fos xs fun xs=>k (.tup xs)
 |.mp id,k=>ZaN id fun id=>k (.mp id)
 |.rv id v s lo n,k=>ZaN id fun id=>ZaN v fun v=>ZaN s fun s=>ZaN lo fun lo=>ZaN n fun n=>k (.rv id v s lo n)
 |.rref id v q,k=>ZaN id fun id=>ZaN v fun v=>k (.rref id v q)
 |.rw id,k=>ZaN id fun id=>k (.rw id)
 |.rp id q,k=>ZaN id fun id=>k (.rp id q)
 |.junk,k=>k .junk
def TD.fos:List TD→(List TD→O)→O
 |[],k=>k []
 |x::r,k=>TD.fo x fun x=>TD.fos r fun r=>k (x::r)
end
mutual
theorem TD.fo_eq:∀(x:TD) (k:TD→O),x.fo k=k x
 |.p x,k=>by rw [TD.fo,TP.fo_eq]
 |.elem x,k=>by rw [TD.fo,TP.fo_eq]
 |.own id nn t c,k=>by rw [TD.fo,Ys,ZA9 (X4 (Ty.fo_eq t))]
 |.ref id q,k=>by rw [TD.fo,Ys]
 |.view id q s lo n,k=>by rw [TD.fo,Ys,Ys,Ys,Ys]
 |.agg xs,k=>by rw [TD.fo,TD.fos_eq xs]
 |.arr n s xs,k=>by rw [TD.fo,Ys,Ys,TD.fos_eq xs]
 |.fn f xs,k=>by rw [TD.fo,TD.fos_eq xs]
 |.iface t x,k=>by rw [TD.fo,TD.fo_eq x]
 |.tup xs,k=>by rw [TD.fo,TD.fos_eq xs]
 |.mp id,k=>by rw [TD.fo,Ys]
 |.rv id v s lo n,k=>by rw [TD.fo,Ys,Ys,Ys,Ys,Ys]
 |.rref id v q,k=>by rw [TD.fo,Ys,Ys]
 |.rw id,k=>by rw [TD.fo,Ys]
 |.rp id q,k=>by rw [TD.fo,Ys]
 |.junk,k=>rfl
theorem TD.fos_eq:∀(x:List TD) (k:List TD→O),TD.fos x k=k x
 |[],k=>rfl
 |x::r,k=>by rw [TD.fos,TD.fo_eq x,TD.fos_eq r]
end
def TEnt.fo (e:TEnt) (k:TEnt→O):O:=match e with
 |.var d st=>d.fo fun d=>Zom st fun st=>k (.var d st)
 |.log t e xs=>Zcl t.fo xs fun xs=>k (.log t e xs)
 |.map tid a b l=>Zcl (fun q k=>a.fo q.1 fun x=>b.fo q.2 fun y=>k (x,y)) l fun l=>k (.map tid a b l)
 |.row v s st e d=>ZaN v fun v=>ZaN s fun s=>Zom st fun st=>d.fo fun d=>k (.row v s st e d)
 |.rowT t v st e xs=>Zom st fun st=>Zcl t.fo xs fun xs=>k (.rowT t v st e xs)
 |.rowN t np v st e a b=>Zom st fun st=>Zcl t.fo a fun a=>Zcl t.fo b fun b=>k (.rowN t np v st e a b)
 |.rowM t np v st e a d b=>Zom st fun st=>Zcl t.fo a fun a=>d.fo fun d=>Zcl t.fo b fun b=>k (.rowM t np v st e a d b)
 |.gone=>k .gone
theorem TEnt.fo_eq (e:TEnt) (k:TEnt→O):e.fo k=k e:=by
 cases e with
 |var d st=>rw [TEnt.fo,TD.fo_eq,Zeh]
 |log t e xs=>rw [TEnt.fo,X4 (Ty.fo_eq t)]
 |map tid a b l=>rw [TEnt.fo,X4 fun q k=>by rw [Ty.fo_eq a,Ty.fo_eq b]]
 |row v s st e d=>rw [TEnt.fo,Ys,Ys,Zeh,TD.fo_eq]
 |rowT t v st e xs=>rw [TEnt.fo,Zeh,X4 (Ty.fo_eq t)]
 |rowN t np v st e a b=>rw [TEnt.fo,Zeh,X4 (Ty.fo_eq t),X4 (Ty.fo_eq t)]
 |rowM t np v st e a d b=>rw [TEnt.fo,Zeh,X4 (Ty.fo_eq t),TD.fo_eq,X4 (Ty.fo_eq t)]
 |gone=>rfl
def foS (a:List TD) (h:List TEnt) (k:List TD→List TEnt→O):O:=TD.fos a fun a=>Zcl TEnt.fo h fun h=>k a h
theorem ZCG (a:List TD) (h:List TEnt) (k:List TD→List TEnt→O):foS a h k=k a h:=by rw [foS,TD.fos_eq,X4 TEnt.fo_eq]
def foX:(l:List XSh)→XSh.sum l→(XSh.sum l→O)→O
 |[],x,k=>k x
 |[e],x,k=>Ty.fos e.ty x k
 |e::f::r,x,k=>match (x:Ty.dens e.ty⊕XSh.sum (f::r)) with
  |.inl x=>Ty.fos e.ty x fun x=>k (.inl x:Ty.dens e.ty⊕XSh.sum (f::r))
  |.inr x=>foX (f::r) x fun x=>k (.inr x:Ty.dens e.ty⊕XSh.sum (f::r))
theorem Zzs:∀(l:List XSh) (x:XSh.sum l) (k:XSh.sum l→O),foX l x k=k x
 |[],x,k=>rfl
 |[e],x,k=>Ty.fos_eq _ _ _
 |e::f::r,x,k=>by
  unfold foX
  cases (x:Ty.dens e.ty⊕XSh.sum (f::r)) with
  |inl x=>exact Ty.fos_eq _ _ _
  |inr x=>exact Zzs (f::r) x _
def Fs.fo {P:Program} (s:Fs P):Fs P:={ s with M:=fun x=>Ty.fos s.ins x fun x=>(s.M x).bind fun o=>foX s.xs o some}
theorem Fs.fo_ok {P:Program} {s:Fs P} (h:s.Ok):s.fo.Ok:=by
 have e:s.fo=s:=by
  unfold Fs.fo
  have:(fun x=>Ty.fos s.ins x fun x=>(s.M x).bind fun o=>foX s.xs o some)=s.M:=by
   funext x
   rw [Ty.fos_eq]
   cases s.M x with
   |none=>rfl
   |some o=>exact Zzs _ _ _
  rw [this]
 rw [e]
 exact h
theorem ZtD {P:Program}:∀{l:List (Fs P)},AllOk l→AllOk (l.map Fs.fo)
 |[],_=>trivial
 |s::r,h=>⟨Fs.fo_ok h.1,ZtD h.2⟩
end Go.Ev
end
section
namespace Go.Ev
def Zwf (h:List TEnt) (n0:Nat) (r:TD):List Nat:=
 let got:=Zl9 h 100000 (r.look++List.range n0) []
 ((List.range h.length).drop n0).filter got.contains
def Ty.mkFs (f:(T:Ty)→TD→Option T.den):(fs:List Ty)→List TD→Option (Ty.dens fs)
 |[],[]=>some ()
 |[t],[d]=>f t d
 |t::u::r,d::ds=>Zix (f t d) (Ty.mkFs f (u::r) ds)
 |_,_=>none
def mkL {T:Ty} (f:TD→Option T.den):List TD→Option (List T.den)
 |[]=>some []
 |d::r=>(Zix (f d) (mkL f r)).map fun q=>q.1::q.2
def Zzt (H:List TEnt) (id:Nat) (u:Ty):Option (List u.den):=
 match H[id]? with
 |some (.rowT u' v false e l)=>Ty.castL u' u l
 |_=>none
theorem Zzu {H:List TEnt} {id:Nat} {u:Ty} {l:List u.den} (h:Zzt H id u=some l):DeepR (erH H) ((TD.rw id).er (lk H)) ((Ty.sl u).enc l):=by
 unfold Zzt at h
 split at h
 ·rename_i u' v e l' hd
  obtain ⟨e1,h⟩:=Zu h
  subst e1
  subst h
  have hE:(erH H)[id]? =some (.row v.length u'.size false e (.p (.arr l.length u'.size (l.map u'.enc)))):=ZU hd
  have:=DeepR.rvp (lo:=0) (n:=l.length) hE (by omega)
  rw [(Zbk hd).1,Zup]
  rw [List.drop_zero, ←List.length_map (f:=u'.enc),List.take_length,List.length_map] at this
  exact this
 ·cases h
def ZtE (H:List TEnt):Nat→(T:Ty)→TD→Option T.den
 |0,_,_=>none
 |n+1,T,d=>match d with
  |.p x=>TP.to Ziy x T
  |.own id nn t c=>Zyu true t (ZQ (lk H) id t c) T
  |.agg ds=>Zyv (fun fs=>Ty.mkFs (ZtE H n) fs ds) T
  |.rw id=>match T with
   |.sl u=>Zzt H id u
   |_=>none
  |.rv id v s lo k=>match T with
   |.sl u=>match H[id]? with
    |some (.row w s' false e d)=>if (w==v&&s'==s&&s==u.size)=true then match d with
      |.p x=>x.arow.bind fun r=>(Ty.castL r.t u r.l).bind fun l=>if decide (lo+k≤r.n)=true then some ((l.drop lo).take k) else none
      |.arr N s2 ds=>if (s2==s&&decide (lo+k≤N))=true then (mkL (ZtE H n u) ds).map fun (l:List u.den)=>(l.drop lo).take k else none
      |_=>none
     else none
    |_=>none
   |_=>none
  |_=>none
theorem Zwg {H:List Ent} {L:Lk} {f:(T:Ty)→TD→Option T.den} (hf:∀T d y,f T d=some y→DeepR H (d.er L) (T.enc y)):∀(fs:List Ty) (ds:List TD) (y:Ty.dens fs),Ty.mkFs f fs ds=some y→
 (TD.ers L ds).length=(Ty.encs fs y).length∧∀(i:Nat) (d:Dv) (z:Pl),(TD.ers L ds)[i]? =some d→(Ty.encs fs y)[i]? =some z→DeepR H d z
 |[],[],y,h=>⟨rfl,fun i d z h1 _=>by simp [TD.ers] at h1⟩
 |[],_::_,y,h=>by cases h
 |[t],[],y,h=>by cases h
 |[t],[d],y,h=>by
  refine ⟨rfl,fun i d' z h1 h2=> ?_⟩
  cases i with
  |zero=>cases h1;cases h2;exact hf t d y h
  |succ i=>simp [TD.ers] at h1
 |[t],_::_::_,y,h=>by cases h
 |t::u::r,[],y,h=>by cases h
 |t::u::r,d::ds,y,h=>by
  obtain ⟨h1,h2⟩:=WU (α:=t.den) (β:=Ty.dens (u::r)) h
  obtain ⟨h3,h4⟩:=Zwg hf (u::r) ds y.2 h2
  refine ⟨by rw [TD.ers,Ty.encs,List.length_cons,List.length_cons,h3],fun i d' z k1 k2=> ?_⟩
  cases i with
  |zero=>cases k1;cases k2;exact hf t d y.1 h1
  |succ i=>exact h4 i d' z k1 k2
theorem Zzv {H:List Ent} {L:Lk} {T:Ty} {f:TD→Option T.den} (hf:∀d y,f d=some y→DeepR H (d.er L) (T.enc y)):∀(ds:List TD) (l:List T.den),mkL f ds=some l→
 (TD.ers L ds).length=(l.map T.enc).length∧∀(i:Nat) (d:Dv) (z:Pl),(TD.ers L ds)[i]? =some d→(l.map T.enc)[i]? =some z→DeepR H d z
 |[],l,h=>by cases h;exact ⟨rfl,fun i d z h1 _=>by simp [TD.ers] at h1⟩
 |d::ds,l,h=>by
  obtain ⟨q,h1,rfl⟩:=Zd h
  obtain ⟨h1,h2⟩:=WU h1
  obtain ⟨h3,h4⟩:=Zzv hf ds q.2 h2
  refine ⟨by rw [TD.ers,List.map_cons,List.length_cons,List.length_cons,h3],fun i d' z k1 k2=> ?_⟩
  cases i with
  |zero=>cases k1;cases k2;exact hf d q.1 h1
  |succ i=>exact h4 i d' z k1 k2
theorem Zon {H:List TEnt}:∀(n:Nat) (T:Ty) (d:TD) (y:T.den),ZtE H n T d=some y→DeepR (erH H) (d.er (lk H)) (T.enc y)
 |0,_,_,_,h=>by cases h
 |n+1,T,d,y,h=>by
  unfold ZtE at h
  split at h
  ·exact .wk (.p _) (ZvJ h)
  ·rename_i id nn t c
   obtain ⟨l,_,e1,rfl⟩:=Zlr (nn:=none) h
   rw [e1,TD.er]
   exact .wk (.own id nn t.size _) (PlWk.sl_mk (PlsWk.refl _))
  ·rename_i ds
   obtain ⟨fs,z,h1,e1⟩:=Zls h
   rw [e1,TD.er]
   obtain ⟨h2,h3⟩:=Zwg (fun T d y=>Zon n T d y) fs ds z h1
   exact .agg h2 h3
  ·rename_i id
   cases T with
   |sl u=>exact Zzu h
   |_=>cases h
  ·rename_i id v s lo k
   split at h
   ·rename_i u
    split at h
    ·rename_i w s' e dd hd
     obtain ⟨hk,g⟩:=Za h
     clear h
     simp only [Bool.and_eq_true,beq_iff_eq] at hk
     obtain ⟨⟨hk1,hk2⟩,hk3⟩:=hk
     have hE:=ZU hd
     rw [hk1,hk2,hk3] at hE
     split at g
     ·rename_i x
      obtain ⟨r,p1,g1⟩:=Option.bind_eq_some_iff.1 g
      obtain ⟨l,p2,g2⟩:=Option.bind_eq_some_iff.1 g1
      obtain ⟨p3,g3⟩:=Za g2
      cases g3
      obtain ⟨rn,rt,rl⟩:=r
      obtain ⟨e1,p2⟩:=Zu p2
      dsimp only at e1 p2 p3
      subst e1
      subst p2
      rw [TEnt.er,TD.er,WJ p1] at hE
      have:=DeepR.rvp hE (of_decide_eq_true p3)
      rw [Zup,List.map_take,List.map_drop,TD.er,hk3]
      exact this
     ·rename_i N s2 ds
      obtain ⟨p1,g1⟩:=Za g
      simp only [Bool.and_eq_true,beq_iff_eq,decide_eq_true_eq] at p1
      obtain ⟨q1,p1⟩:=p1
      obtain ⟨l,p2,g2⟩:=Zd g1
      subst g2
      obtain ⟨h2,h3⟩:=Zzv (fun d y=>Zon n u d y) ds l p2
      rw [TEnt.er,TD.er,q1,hk3] at hE
      have:=DeepR.rva hE p1 h2 h3
      rw [Zup,List.map_take,List.map_drop,TD.er,hk3]
      exact this
     ·cases g
    ·cases h
   ·cases h
  ·cases h
def ZtF:TEnt→TEnt
 |.row v s _ e d=>.row v s false e d
 |.rowT t v _ e l=>.rowT t v false e l
 |e=>e
def Ze9 (ids:List Nat) (H:List TEnt):List TEnt:=(List.range H.length).zipWith (fun i e=>if ids.contains i then ZtF e else e) H
theorem Zzw (e:TEnt):lkE (some (ZtF e))=lkE (some e):=by cases e <;> rfl
theorem Zmc (ids:List Nat) (H:List TEnt) (i:Nat):(Ze9 ids H)[i]? =(H[i]?).map fun e=>if ids.contains i then ZtF e else e:=by
 unfold Ze9
 rw [List.getElem?_zipWith]
 rcases Nat.lt_or_ge i H.length with h|h
 ·rw [List.getElem?_range h,List.getElem?_eq_getElem h]
  rfl
 ·rw [List.getElem?_eq_none (by simpa using h),List.getElem?_eq_none h]
  rfl
theorem Zoo (ids:List Nat) (H:List TEnt):lk (Ze9 ids H)=lk H:=by
 funext i
 unfold lk
 rw [Zmc]
 cases H[i]? with
 |none=>rfl
 |some e=>
  show lkE (some (if ids.contains i=true then ZtF e else e))=_
  split
  ·exact Zzw e
  ·rfl
theorem Zvb (ids:List Nat) (H:List TEnt):WkH (erH H) (erH (Ze9 ids H)):=by
 refine ZuZ (by rw [ZC,ZC];unfold Ze9;simp) fun i a b h1 h2=> ?_
 unfold erH at h1 h2
 rw [List.getElem?_map] at h1 h2
 rw [Zoo,Zmc] at h2
 cases he:H[i]? with
 |none=>rw [he] at h1;cases h1
 |some e=>
  rw [he] at h1 h2
  cases h1
  cases h2
  show WkE (e.er (lk H)) (TEnt.er (lk H) (if ids.contains i=true then ZtF e else e))
  split
  ·cases e <;> first|exact .refl _|exact .lock
  ·exact .refl _
def Zvc:List TEnt→Nat→Bool
 |H,i=>match H[i]? with
  |some (.row _ _ _ _ _)=>true
  |some (.rowT _ _ _ _ _)=>true
  |_=>false
def Zwh (P:Program) (H:List TEnt) (t:TypeId) (d:TD):Option TD:=
 match d with
 |.p x=>some (.p x)
 |d=>(Zgi P tyD t).bind fun T=>(ZtE H 100 T d).map fun y=>.p (.v T y)
theorem ZtG {P:Program} {H:List TEnt} {t:TypeId} {d e:TD} (h:Zwh P H t d=some e):DeepP (erH H) (d.er (lk H)) (e.er (lk H)):=by
 unfold Zwh at h
 split at h
 ·cases h;exact .refl _
 ·obtain ⟨T,h1,h⟩:=Option.bind_eq_some_iff.1 h
  obtain ⟨y,h2,rfl⟩:=Zd h
  exact .deep (Zon _ _ _ _ h2)
def ZrW (P:Program) (H:List TEnt):List TypeId→List TD→Option (List TD)
 |[],[]=>some []
 |t::r,d::ds=>match Zwh P H t d,ZrW P H r ds with
  |some a,some b=>some (a::b)
  |_,_=>none
 |_,_=>none
theorem Zqv {P:Program} {H:List TEnt}:∀{ts:List TypeId} {ds es:List TD},ZrW P H ts ds=some es→DeepL (erH H) (TD.ers (lk H) ds) (TD.ers (lk H) es)
 |[],[],es,h=>by cases h;exact .nil
 |[],_::_,es,h=>by cases h
 |_::_,[],es,h=>by cases h
 |t::r,d::ds,es,h=>by
  simp only [ZrW] at h
  split at h
  ·rename_i a b h1 h2
   cases h
   exact .cons (ZtG h1) (Zqv h2)
  ·cases h
def Zzx (P:Program) (H:List TEnt) (ts:List TypeId) (r:TD):Option TD:=
 match ts with
 |[t]=>Zwh P H t r
 |ts=>match r with
  |.tup ds=>(ZrW P H ts ds).map .tup
  |_=>none
theorem Zzy {P:Program} {H:List TEnt} {ts:List TypeId} {r r':TD} (h:Zzx P H ts r=some r'):DeepT (erH H) (r.er (lk H)) (r'.er (lk H)):=by
 unfold Zzx at h
 split at h
 ·exact .one (ZtG h)
 ·split at h
  ·obtain ⟨es,h1,rfl⟩:=Zd h
   exact .tup (Zqv h1)
  ·cases h
def ZBa {O:Type} (P:Program) (ts:List TypeId) (r:TD) (H:List TEnt) (K:TD→List TEnt→Option O):Option O:=
 match ts with
 |[]=>K r H
 |ts=>(Zzx P (Ze9 ((Zl9 H 100000 r.look []).filter (Zvc H)) H) ts r).bind fun r'=>K r' (Ze9 ((Zl9 H 100000 r.look []).filter (Zvc H)) H)
theorem ZxF {O:Type} {P:Program} {ts:List TypeId} {r:TD} {H:List TEnt} {K:TD→List TEnt→Option O} {out:O} {g:FuncId} {args:List Dv} {H0:List Ent} (h:ZBa P ts r H K=some out) (hc:Con P g args H0 (r.er (lk H)) (erH H)):
 ∃r' H',K r' H'=some out∧Con P g args H0 (r'.er (lk H')) (erH H'):=by
 unfold ZBa at h
 split at h
 ·exact ⟨_,_,h,hc⟩
 ·obtain ⟨r',h1,h2⟩:=Option.bind_eq_some_iff.1 h
  generalize (Zl9 H 100000 r.look []).filter (Zvc H)=ids at h1 h2
  refine ⟨_,_,h2,Zyt hc (Zvb ids H) ?_⟩
  have:=Zzy h1
  rw [Zoo] at this ⊢
  exact this
def ZCH {O:Type} (h:List TEnt) (n0:Nat) (ds:List TD) (K:TD→List TEnt→Option O):Option O:=
 let keep:=Zwf h n0 (ZpB ds)
 if once (List.range n0++keep) then (match Dv.rn (toIds (List.range n0++keep)) ((ZpB ds).er (lk h)) with
  |some _=>(ZpB ds).rn (toIds (List.range n0++keep))
  |none=>(ZpB (ds.map (TD.arg (lk h)))).rn (toIds (List.range n0++keep))).bind fun r=>
  (XS h (List.range n0++keep) (List.range n0++keep)).bind fun h2=>K r h2
 else none
section
variable {P:Program}
def ZBb (P:Program) (his:FuncId→HI) (l:List (Fs P)) (mt:List (TypeId×String×FuncId)):Nat→(O:Type)→FuncId→List TD→List TEnt→(TD→List TEnt→Option O)→Option O
 |0,_,_,_,_,_=>none
 |n+1,O,g,args,H,K=>foS args H fun args H=>match P.funcs[g]? with
  |some fn=>match fn.body with
   |some c=>if decide (args.length≤fn.ntmps)=true then
     evT P { hi:=his g,un:=1000000} ⟨l,ZBb P his l mt n,mt⟩ c 0 0 (args++List.replicate (fn.ntmps - args.length) .junk) H fun ex a h=>match ex with
      |.exit _=>none
      |_=>ZtB P a h fn.results.toList fun ds _=>ZCH h H.length ds fun r h=>ZBa P (his g).deep r h fun r h=>foS [r] h fun rs h=>match rs with
       |[r]=>K r h
       |_=>none
     else none
   |none=>none
  |none=>none
theorem Zwi {his:FuncId→HI} {l:List (Fs P)} {mt:List (TypeId×String×FuncId)} (hl:AllOk l) (hm:MtOk P mt):∀(n:Nat),HdOk P (ZBb P his l mt n)
 |0=>fun _ _ _ _ _ _ h=>by cases h
 |n+1=>fun O g args H K out hM=>by
  unfold ZBb at hM
  simp only [ZCG] at hM
  split at hM
  ·rename_i fn hf
   split at hM
   ·rename_i c hb1
    obtain ⟨hn,hM⟩:=Za hM
    have hn:=of_decide_eq_true hn
    have hlen:(args++List.replicate (fn.ntmps - args.length) TD.junk).length=fn.ntmps:=by
     rw [List.length_append,List.length_replicate]
     omega
    obtain ⟨ex,a,hh,k1,k2,k3⟩:=X3 (N:=fn.ntmps) ⟨hl,Zwi hl hm n,hm⟩ c _ _ _ _ _ hlen (fun k b hk lp h=>by cases h) (fun k b hk lp h=>by cases h) hM
    have hex:(ex=.ret∨ex=.normal)∧(ZtB P a hh fn.results.toList fun ds _=>ZCH hh H.length ds fun r h=>ZBa P (his g).deep r h K)=some out:=by
     cases ex with
     |exit _=>cases k1
     |normal=>exact ⟨.inr rfl,k1⟩
     |ret=>exact ⟨.inl rfl,k1⟩
    obtain ⟨hex,k1⟩:=hex
    obtain ⟨ds,hs,C,g1,g2,g3⟩:=Zh5 _ _ k1
    unfold ZCH at g1
    dsimp only at g1
    generalize Zwf hh H.length (ZpB ds)=keep at g1
    obtain ⟨g5,g1⟩:=Za g1
    obtain ⟨r,g6,g1⟩:=Option.bind_eq_some_iff.1 g1
    obtain ⟨e2,g7,g1⟩:=Option.bind_eq_some_iff.1 g1
    refine ZxF g1 ?_
    have hfin:fin P fn (TD.ers (lk hh) a) (erH hh) (erH H).length keep hs=some (C,r.er (lk e2),erH e2):=by
     unfold fin
     have:=g3 []
     rw [List.append_nil] at this
     rw [this]
     dsimp only
     rw [ZC,g5, ←Zm8,show subEnts (erH hh) _ _=some (erH e2) from Wd (Zbl g7) g7]
     split at g6
     ·rename_i r0 hr0
      have e4:=ZgP (Zbl g7) _ _ g6
      rw [e4]
     ·rename_i hr0
      have e4:=ZgP (Zbl g7) _ _ g6
      rw [Zm8,Zx,List.map_map] at e4
      rw [hr0,show (TD.ers (lk hh) ds).map Dv.arg=ds.map (TD.er (lk hh) ∘ TD.arg (lk hh)) by
       rw [Zx,List.map_map]
       exact List.map_congr_left fun d _=>(Zzr d).symm,e4]
    have hrun:Xm P c (TD.ers (lk H) args++List.replicate (fn.ntmps - (TD.ers (lk H) args).length) .junk) (erH H) ex (TD.ers (lk hh) a) (erH hh):=by
     have e5:TD.ers (lk H) (args++List.replicate (fn.ntmps - args.length) TD.junk)=TD.ers (lk H) args++List.replicate (fn.ntmps - (TD.ers (lk H) args).length) .junk:=by
      rw [Zdb,Zx,Zx,List.map_append,List.map_replicate]
      rfl
     rw [←e5]
     exact k3
    exact Zda hf hb1 hrun hex hfin g2
   ·cases hM
  ·cases hM
def ZCI (P:Program) (his:FuncId→HI) (l:List (Fs P)) (mt:List (TypeId×String×FuncId)) (n:Nat) (g:FuncId):Option Bool:=
 ZBb P his l mt n Bool g [] [] fun r h=>match h with
  |[]=>r.boolT
  |_=>none
theorem ZBc {his:FuncId→HI} {l:List (Fs P)} {mt:List (TypeId×String×FuncId)} {n:Nat} {g:FuncId} {b:Bool} (hl:AllOk l) (hm:MtOk P mt) (h:ZCI P his l mt n g=some b):Con P g [] [] (.p (.bool b)) []:=by
 obtain ⟨r,H',h1,h2⟩:=Zwi hl hm n _ _ _ _ _ _ h
 split at h1
 ·rw [Zec h1] at h2
  exact h2
 ·cases h1
theorem ZCJ {his:FuncId→HI} {l:List (Fs P)} {mt:List (TypeId×String×FuncId)} {n:Nat} {g:FuncId} {b:Bool} (hl:AllOk l) (hm:MtOk P mt) (h:ZCI P his l mt n g=some b):
 Fs.Ok (⟨g,[],[],[],[⟨.ret,[(0,.v .bool)],[],[.bool]⟩],fun _=>some b⟩:Fs P):=by
 intro x o hM
 cases hM
 refine ⟨[],[],[],rfl,rfl,fun e vs s' hs hf=> ?_⟩
 obtain ⟨rfl,rfl⟩:=hs
 cases hf
 exact ⟨_,rfl,ZBc hl hm h⟩
end
theorem okN {P:Program} (s:Nat→Fs P) (h:(s fuel).Ok):(s 18446744073709551616).Ok:=by
 rw [Zkn] at h
 exact h
end Go.Ev
end
section
namespace Go.Ev
open Go.RowKit Go.WideShapes Go.ChangeShapes
def Z3 (P:Program):Nat→TypeId→Bool
 |0,_=>false
 |n+1,t=>match P.underlying t with
  |some .bool=>true
  |some (.int _)=>true
  |some .string=>true
  |some (.slice e)=>Z3 P n e&&decide (0 < P.cellsOf e)
  |some (.array m e)=>Z3 P n e&&P.cellsOf t==m*P.cellsOf e
  |some (.struct fs)=>(fs.toList.all fun f=>Z3 P n f.type)&&P.cellsOf t==(fs.toList.map fun f=>P.cellsOf f.type).sum&&
    ((List.range fs.toList.length).all fun j=>match fs.toList[j]? with|some f=>f.offset==((fs.toList.take j).map fun f=>P.cellsOf f.type).sum|none=>true)
  |_=>false
theorem ZrX (P:Program):Kids P (fun t=>∃n,Z3 P n t=true) where
 pointer:=by
  rintro t e ⟨n,h⟩ hu
  cases n with
  |zero=>simp [Z3] at h
  |succ n=>simp [Z3,hu] at h
 slice:=by
  rintro t e ⟨n,h⟩ hu
  cases n with
  |zero=>simp [Z3] at h
  |succ n=>simp [Z3,hu] at h;exact ⟨n,h.1⟩
 array:=by
  rintro t e m ⟨n,h⟩ hu
  cases n with
  |zero=>simp [Z3] at h
  |succ n=>simp [Z3,hu] at h;exact ⟨⟨n,h.1⟩,h.2⟩
 struct:=by
  rintro t fs ⟨n,h⟩ hu
  cases n with
  |zero=>simp [Z3] at h
  |succ n=>
   simp only [Z3,hu,Bool.and_eq_true,beq_iff_eq,List.all_eq_true] at h
   obtain ⟨⟨h1,h2⟩,h3⟩:=h
   refine ⟨fun f hf=>⟨n,h1 f hf⟩,h2,fun j f hf=> ?_⟩
   have hj:j < fs.toList.length:=(List.getElem?_eq_some_iff.1 hf).1
   have:=h3 j (by simpa using hj)
   rw [hf] at this
   simpa using this
 map:=by
  rintro t k e ⟨n,h⟩ hu
  cases n with
  |zero=>simp [Z3] at h
  |succ n=>simp [Z3,hu] at h
def ZBd (R:TypeId→Pl→Prop):List Field→List Pl→Prop
 |[],[]=>True
 |f::fs,y::ys=>R f.type y∧ZBd R fs ys
 |_,_=>False
def wtP (P:Program):Nat→TypeId→Pl→Prop
 |0,_,_=>False
 |n+1,t,x=>match P.underlying t,x with
  |some .bool,.bool _=>True
  |some (.int k),.int k' m=>k'=k∧(Lit.int k m).wf=true
  |some .string,.str s=>s.size≤maxLen
  |some (.slice e),.sl nn s xs=>s=P.cellsOf e∧nn=none∧xs.length≤maxLen∧∀y,y∈xs→wtP P n e y
  |some (.array m e),.arr m' s xs=>m'=m∧s=P.cellsOf e∧xs.length=m∧∀y,y∈xs→wtP P n e y
  |some (.struct fs),.agg xs=>ZBd (wtP P n) fs.toList xs
  |_,_=>False
def ZrY:Nat→Nat→Prop:=fun _ _=>True
section
variable {H:Type} {enc:TypeId×Value→H} {P:Program} {w:World} {base:Nat} {sp:Nat→Bool} {held:Bool}
theorem ZxG:∀{s:Nat} {a:Addr} {cs:List Value},w.cells? base a s=some cs→cs.length=s∧∀j u,cs[j]? =some u→w.cell? (a.add j)=some u:=by
 intro s a cs h
 unfold World.cells? at h
 split at h
 ·have hl:cs.length=s:=by simpa using mapM_some_length h
  refine ⟨hl,fun j u hu=> ?_⟩
  have hj:j < s:=by rw [←hl];exact (List.getElem?_eq_some_iff.1 hu).1
  have:=mapM_some_get h j j (by simp [hj])
  rw [hu] at this
  exact this
 ·cases h
theorem Zwj {e:TypeId} {n m:Nat} {a:Addr} {s:Nat} (hs:0 < s) {elems:List (DataW H×List MemPlace)} {len:Nat} (hlen:elems.length=len)
 (ih:∀(cs:List Value) (x:DataW H×List MemPlace),DataW.trod enc P w base sp held m e cs=some x→cs.length=s→∃pl,wtP P n e pl∧repC w ZrY pl cs)
 (h:∀i,i < len→(w.cells? base (a.add (i*s)) s).bind (DataW.trod enc P w base sp held m e)=elems[i]?):
 ∀k,k≤len→∃(xs:List Pl) (us:List Value),xs.length=k∧(∀y,y∈xs→wtP P n e y)∧allSz s xs∧us.length=k*s∧repCs w ZrY xs us∧(∀j u,us[j]? =some u→w.cell? (a.add j)=some u)
 |0,_=>⟨[],[],rfl,(fun y hy=>by cases hy),(fun y hy=>by cases hy),by simp,by simp [repCs],by simp⟩
 |k+1,hk=>by
  obtain ⟨xs,us,h1,h2,h3,h4,h5,h6⟩:=Zwj hs hlen ih h k (by omega)
  have hk':=h k (by omega)
  rw [List.getElem?_eq_getElem (by omega)] at hk'
  obtain ⟨cs,hc,ht⟩:=Option.bind_eq_some_iff.1 hk'
  obtain ⟨c1,c2⟩:=ZxG hc
  obtain ⟨pl,p1,p2⟩:=ih cs _ ht c1
  have psz:pl.size=s:=by rw [←Xn _ _ p2,c1]
  refine ⟨xs++[pl],us++cs,by simp [h1],fun y hy=> ?_,fun y hy=> ?_,by simp [h4,c1,Nat.add_mul],ZT h5 (by simpa [repCs] using p2),fun j u hu=> ?_⟩
  ·rcases List.mem_append.1 hy with hy|hy
   ·exact h2 y hy
   ·rw [List.mem_singleton.1 hy];exact p1
  ·rcases List.mem_append.1 hy with hy|hy
   ·exact h3 y hy
   ·rw [List.mem_singleton.1 hy];exact psz
  ·by_cases hj:j < us.length
   ·rw [List.getElem?_append_left hj] at hu;exact h6 j u hu
   ·rw [List.getElem?_append_right (by omega)] at hu
    have:=c2 _ _ hu
    rw [Addr.add_add] at this
    rw [←this]
    congr 2
    omega
theorem ZtH {e:TypeId} {n m:Nat} {s:Nat} {cs:List Value} {elems:List (DataW H×List MemPlace)} {len:Nat} (hlen:elems.length=len) (hcs:cs.length=len*s)
 (ih:∀(cs:List Value) (x:DataW H×List MemPlace),DataW.trod enc P w base sp held m e cs=some x→cs.length=s→∃pl,wtP P n e pl∧repC w ZrY pl cs)
 (h:∀i,i < len→DataW.trod enc P w base sp held m e ((cs.drop (i*s)).take s)=elems[i]?):
 ∀k,k≤len→∃(xs:List Pl),xs.length=k∧(∀y,y∈xs→wtP P n e y)∧allSz s xs∧repCs w ZrY xs (cs.take (k*s))
 |0,_=>⟨[],rfl,(fun y hy=>by cases hy),(fun y hy=>by cases hy),by simp [repCs]⟩
 |k+1,hk=>by
  obtain ⟨xs,h1,h2,h3,h5⟩:=ZtH hlen hcs ih h k (by omega)
  have hk':=h k (by omega)
  rw [List.getElem?_eq_getElem (by omega)] at hk'
  have hle:k*s+s≤len*s:=by rw [←Nat.succ_mul];exact Nat.mul_le_mul_right _ hk
  have c1:((cs.drop (k*s)).take s).length=s:=by simp;omega
  obtain ⟨pl,p1,p2⟩:=ih _ _ hk' c1
  have psz:pl.size=s:=by rw [←Xn _ _ p2,c1]
  refine ⟨xs++[pl],by simp [h1],fun y hy=> ?_,fun y hy=> ?_, ?_⟩
  ·rcases List.mem_append.1 hy with hy|hy
   ·exact h2 y hy
   ·rw [List.mem_singleton.1 hy];exact p1
  ·rcases List.mem_append.1 hy with hy|hy
   ·exact h3 y hy
   ·rw [List.mem_singleton.1 hy];exact psz
  ·rw [Nat.add_mul,Nat.one_mul,List.take_add]
   exact ZT h5 (by simpa [repCs] using p2)
theorem Zqw {n m:Nat} {cs:List Value}
 (ih:∀(t:TypeId),Z3 P n t=true→∀(cs:List Value) (x:DataW H×List MemPlace),DataW.trod enc P w base sp held m t cs=some x→∃pl,wtP P n t pl∧repC w ZrY pl cs):
 ∀(fs:List Field) (o:Nat),(∀f,f∈fs→Z3 P n f.type=true)→(∀(j:Nat) f,fs[j]? =some f→f.offset=o+((fs.take j).map fun f=>P.cellsOf f.type).sum)→
  cs.length=o+(fs.map fun f=>P.cellsOf f.type).sum→(∀(j:Nat) f,fs[j]? =some f→∃x,DataW.trod enc P w base sp held m f.type ((cs.drop f.offset).take (P.cellsOf f.type))=some x)→
  ∃(xs:List Pl),ZBd (wtP P n) fs xs∧repCs w ZrY xs (cs.drop o)
 |[],o,_,_,hl,_=>⟨[],trivial,by simp only [repCs];apply List.drop_eq_nil_of_le;simp at hl;omega⟩
 |f::fs,o,hp,ho,hl,h=>by
  obtain ⟨x,hx⟩:=h 0 f rfl
  have ho0:=ho 0 f rfl
  simp at ho0
  rw [ho0] at hx
  obtain ⟨pl,p1,p2⟩:=ih f.type (hp f (List.mem_cons_self ..)) _ _ hx
  simp only [List.map_cons,List.sum_cons] at hl
  obtain ⟨xs,q1,q2⟩:=Zqw ih fs (o+P.cellsOf f.type) (fun g hg=>hp g (List.mem_cons_of_mem _ hg)) (fun j g hg=>by
   have:=ho (j+1) g hg
   simp only [List.take_succ_cons,List.map_cons,List.sum_cons] at this
   omega) (by omega) (fun j g hg=>h (j+1) g hg)
  refine ⟨pl::xs,⟨p1,q1⟩, ?_⟩
  simp only [repCs]
  refine ⟨(cs.drop o).take (P.cellsOf f.type),(cs.drop o).drop (P.cellsOf f.type),(List.take_append_drop ..).symm,p2, ?_⟩
  rw [List.drop_drop]
  exact q2
theorem ZBe:∀(n m:Nat) (t:TypeId),Z3 P n t=true→∀(cs:List Value) (x:DataW H×List MemPlace),DataW.trod enc P w base sp held m t cs=some x→∃pl,wtP P n t pl∧repC w ZrY pl cs:=by
 intro n
 induction n with
 |zero=>intro m t h;simp [Z3] at h
 |succ n ih=>
  intro m t ht cs x h
  unfold Z3 at ht
  split at ht
  ·rename_i hu
   obtain ⟨b,rfl,_⟩:=DataW.trod_bool hu h
   exact ⟨.bool b,by simp [wtP,hu],by simp [repC]⟩
  ·rename_i k hu
   obtain ⟨z,rfl,rfl,hw⟩:=DataW.trod_int hu h
   exact ⟨.int k z,by simp [wtP,hu,hw],by simp [repC]⟩
  ·rename_i hu
   obtain ⟨s,rfl,h2⟩:=DataW.trod_string hu h
   exact ⟨.str s,by simp [wtP,hu];exact h2.2,by simp [repC]⟩
  ·rename_i e hu
   simp only [Bool.and_eq_true,decide_eq_true_eq] at ht
   rcases DataW.trod_slice hu h with ⟨rfl,rfl⟩|⟨a,len,cap,elems,rest,m',rfl,rfl,rfl,_,hle,hcap,hlen,hel,_⟩
   ·exact ⟨.sl none (P.cellsOf e) [],by simp [wtP,hu],by simp only [repC];exact ⟨(fun y hy=>by cases hy),none,0,rfl,Nat.le_refl _,Nat.zero_le _,ZL _,fun _=>rfl,fun h=>absurd rfl h⟩⟩
   ·obtain ⟨xs,us,h1,h2,h3,h4,h5,h6⟩:=Zwj (n:=n) ht.2 hlen (fun cs x hx _=>ih m' e ht.1 cs x hx) hel len (Nat.le_refl _)
    refine ⟨.sl none (P.cellsOf e) xs,by simp only [wtP,hu];exact ⟨trivial,trivial,by omega,h2⟩, ?_⟩
    simp only [repC]
    refine ⟨h3,some a,cap,by rw [h1],by omega,hcap,ZL _,by simp,fun hne=> ?_⟩
    have hpos:0 < us.length:=by
     rw [h4]
     have:0 < len:=by rw [←h1];exact List.length_pos_iff.2 hne
     exact Nat.mul_pos this ht.2
    have hc0:=h6 0 us[0] (List.getElem?_eq_getElem hpos)
    obtain ⟨b,o,spot⟩:=a
    have hspot:spot=none:=by
     cases spot with
     |none=>rfl
     |some z=>
      exfalso
      unfold World.cell? at hc0
      split at hc0
      ·simp [Addr.add] at hc0
      ·cases hc0
    subst hspot
    exact ⟨b,o,us,rfl,h5,fun j u hu=>⟨by have:=h6 j u hu;rwa [Addr.add_lit] at this,trivial⟩⟩
  ·rename_i k e hu
   simp only [Bool.and_eq_true,beq_iff_eq] at ht
   obtain ⟨elems,m',rfl,rfl,hl,hlen,hel⟩:=DataW.trod_array hu h
   obtain ⟨xs,h1,h2,h3,h4⟩:=ZtH (n:=n) (s:=P.cellsOf e) hlen (by rw [hl,ht.2]) (fun cs x hx _=>ih m' e ht.1 cs x hx) hel k (Nat.le_refl _)
   rw [List.take_of_length_le (by rw [hl,ht.2];exact Nat.le_refl _)] at h4
   exact ⟨.arr k (P.cellsOf e) xs,by simp only [wtP,hu];exact ⟨trivial,trivial,h1,h2⟩,by simp only [repC];exact ⟨h1,h3,h4⟩⟩
  ·rename_i fs hu
   simp only [Bool.and_eq_true,beq_iff_eq,List.all_eq_true] at ht
   obtain ⟨⟨t1,t2⟩,t3⟩:=ht
   obtain ⟨elems,m',rfl,rfl,hl,hlen,hel⟩:=DataW.trod_struct hu h
   obtain ⟨xs,q1,q2⟩:=Zqw (n:=n) (m:=m') (cs:=cs) (fun t ht cs x hx=>ih m' t ht cs x hx) fs.toList 0 t1 (fun j f hf=>by
    have hj:j < fs.toList.length:=(List.getElem?_eq_some_iff.1 hf).1
    have:=t3 j (by simpa using hj)
    rw [hf] at this
    simpa using this) (by rw [hl,t2];omega) (fun j f hf=>by
    have hj:j < fs.toList.length:=(List.getElem?_eq_some_iff.1 hf).1
    have:=hel j f (by simpa using hf)
    rw [List.getElem?_eq_getElem (by rw [hlen];simpa using hj)] at this
    exact ⟨_,this⟩)
   exact ⟨.agg xs,by simp only [wtP,hu];exact q1,by simp only [repC];simpa using q2⟩
  ·cases ht
end
end Go.Ev
namespace Go.Ev
open Go.RowKit Go.WideShapes Go.ChangeShapes
def ZBf (P:Program) (n:Nat):List TypeId→List Pl→Prop
 |[],[]=>True
 |t::ts,x::xs=>wtP P n t x∧ZBf P n ts xs
 |_,_=>False
section
variable {H:Type} {enc:TypeId×Value→H} {P:Program}
def sg0 (W:World):Sg:={ F:=ZrY,B:=fun b=>W.heap.size≤b,m:=[],H:=[],w:=W}
theorem ZCK (W:World):Ok (sg0 W) where
 len:=rfl
 inj i j b h:=by simp [sg0] at h
 lt i b h:=by simp [sg0] at h
 ent i e a h:=by simp [sg0] at h
 new b h:=h
 own i b h:=by simp [sg0] at h
theorem Zzz (W:World) (b o:Nat):(sg0 W).stab b o:=⟨.inl trivial,fun id e h=>by simp [sg0] at h⟩
theorem Zop {W:World} {x:Pl} {v:Value} {cs:List Value} (hx:repC W ZrY x cs) (hc:v.cells.toList=cs) (hv:x.isAgg=true→∃a,v=.agg a) (hn:x.isAgg=false→cs=[v]):repDV (sg0 W) (.p x) v:=by
 have hm:repC W (sg0 W).stab x cs:=VV (fun b o u h _=>⟨h,Zzz W b o⟩) x cs hx
 refine ⟨fun ha=> ?_,fun ha=> ?_⟩
 ·obtain ⟨a,rfl⟩:=hv ha
  refine ⟨a,rfl, ?_⟩
  simp only [repD]
  have:a.toList=cs:=by rw [←hc];rfl
  rw [this]
  exact hm
 ·simp only [repD]
  have e:=hn ha
  rw [←e]
  exact hm
theorem ZCL:∀{n:Nat} {t:TypeId} {x:Pl},wtP P n t x→x.isAgg=Xf P t
 |0,_,_,h=>by simp [wtP] at h
 |n+1,t,x,h=>by
  unfold wtP at h
  split at h <;> rename_i hu <;> first|(simp [Pl.isAgg,Xf,hu];done)|exact h.elim
theorem Zwk {W:World} {n:Nat} (hval:∀(t:TypeId) (v:Value),Xf P t=true→Value.okWide P W .any 0 t v→∃a,v=.agg a):
 ∀(ts:List TypeId) (vs:List Value) (ds:List (DataW H)) (ps:List MemPlace),(∀t,t∈ts→Z3 P n t=true)→(∀(j:Nat) t v,ts[j]? =some t→vs[j]? =some v→(Xf P t=true→∃a,v=.agg a)∧(Xf P t=false→v.cells.toList=[v]))→
  DataW.TrodAll enc P W 0 (fun _=>true) true ts vs ds ps→∃xs,ZBf P n ts xs∧repVs (sg0 W) (xs.map .p) vs
 |[],[],[],_,_,_,_=>⟨[],trivial,by simp [repVs]⟩
 |[],_::_,_,_,_,_,h=>by simp [DataW.TrodAll] at h
 |[],[],_::_,_,_,_,h=>by simp [DataW.TrodAll] at h
 |_::_,[],_,_,_,_,h=>by simp [DataW.TrodAll] at h
 |_::_,_::_,[],_,_,_,h=>by simp [DataW.TrodAll] at h
 |t::ts,v::vs,d::ds,ps,hp,hv,h=>by
  obtain ⟨p,q,⟨fuel,h1⟩,h2,rfl⟩:=h
  obtain ⟨x,x1,x2⟩:=ZBe n fuel t (hp t (List.mem_cons_self ..)) _ _ h1
  obtain ⟨xs,xs1,xs2⟩:=Zwk hval ts vs ds q (fun u hu=>hp u (List.mem_cons_of_mem _ hu)) (fun j u w' hj hw=>hv (j+1) u w' hj hw) h2
  obtain ⟨v1,v2⟩:=hv 0 t v rfl rfl
  refine ⟨x::xs,⟨x1,xs1⟩, ?_⟩
  simp only [List.map_cons,repVs]
  have ha:=ZCL x1
  exact ⟨v,vs,rfl,Zop x2 rfl (fun e=>v1 (by rw [←ha];exact e)) (fun e=>v2 (by rw [←ha];exact e)),xs2⟩
theorem ZiB {W W':World} {sp':Nat→Bool} {n:Nat}:∀(ts:List TypeId) (vs:List Value) (ds:List (DataW H)) (ps:List MemPlace),(∀t,t∈ts→Z3 P n t=true)→
 DataW.TrodAll enc P W 0 (fun _=>true) true ts vs ds ps→(∀p∈ps,W.sameAt W' p)→(∀p∈ps,sp' p.block=true)→DataW.TrodAll enc P W' 0 sp' true ts vs ds ps
 |[],[],[],_,_,h,_,_=>h
 |[],_::_,_,_,_,h,_,_=>by simp [DataW.TrodAll] at h
 |[],[],_::_,_,_,h,_,_=>by simp [DataW.TrodAll] at h
 |_::_,[],_,_,_,h,_,_=>by simp [DataW.TrodAll] at h
 |_::_,_::_,[],_,_,h,_,_=>by simp [DataW.TrodAll] at h
 |t::ts,v::vs,d::ds,ps,hp,h,hs,hb=>by
  obtain ⟨p,q,⟨fuel,h1⟩,h2,rfl⟩:=h
  refine ⟨p,q,⟨fuel, ?_⟩,ZiB ts vs ds q (fun u hu=>hp u (List.mem_cons_of_mem _ hu)) h2 (fun z hz=>hs z (List.mem_append_right _ hz)) (fun z hz=>hb z (List.mem_append_right _ hz)),rfl⟩
  exact DataW.trod_stays (ZrX P) (fun {t e} ⟨n,hn⟩ hu=>by
   cases n with
   |zero=>simp [Z3] at hn
   |succ n=>simp [Z3,hu] at hn;exact hn.2) (by simp) ⟨n,hp t (List.mem_cons_self ..)⟩ h1 (fun z hz=>hs z (List.mem_append_left _ hz)) (fun z hz=>hb z (List.mem_append_left _ hz))
theorem ZtI {W:World} {σ':Sg} (h:To (sg0 W) σ'):Below W.heap.size W σ'.w:=
 ⟨h.os,h.tape,h.output,h.size,fun b hb=>h.block b hb (fun id=>by simp [sg0])⟩
theorem Zoq {f:Func} {s:ChangeSpec} {apart fresh handsOn again:Bool} {W W':World} {args:Array Value} {v:Value} {ds gs:List (DataW H)} {before pa pv:List MemPlace}
 (hW:DataW.Whole enc P f.params.toList s.vars apart W args.toList ds gs before)
 (hres:∀(b:Nat) (sp:Nat→Bool) (hd:Bool),DataW.TrodAll enc P W' b sp hd f.resultTypes.toList (v.resultList f.resultTypes.size) (s.fn H (ds++gs)).results [])
 (hargs:∀sp:Nat→Bool,(∀p∈before,sp p.block=true)→DataW.TrodAll enc P W' 0 sp true f.params.toList args.toList (s.fn H (ds++gs)).args pa)
 (hvars:∀sp:Nat→Bool,(∀p∈before,sp p.block=true)→DataW.TrodVars enc P W' sp s.vars (s.fn H (ds++gs)).vars pv)
 (hps:before=pa++pv) (hb:Below W.heap.size W W')
 (hok:∀(j:Nat) (t:TypeId) (r:Value),f.resultTypes[j]? =some t→(v.resultList f.resultTypes.size)[j]? =some r→Value.okWide P W' .any 0 t r):
 s.post enc P f apart fresh handsOn again W args v W':=by
 have hlt:∀p∈before,p.block < W.heap.size:=fun p hp=>hW.lt p hp
 have hold:∀p∈before,(fun b=>decide (b < W.heap.size)) p.block=true:=fun p hp=>by simpa using hlt p hp
 refine ⟨ds,gs,before,[],pa,pv,hW,hres _ _ _,hargs _ hold,hvars _ hold,World.keptBut_mono (fun p hp=>⟨hp, ?_⟩) (hb.frame (· ∈before)),fun _=> ?_⟩
 ·rw [hps,List.mem_append] at hp
  exact Or.inr hp
 ·obtain ⟨_,_,_,_,_,hz,hn⟩:=hW
  refine ⟨hok,_,_,([]++pa)++pv,⟨[]++pa,pv,trodAll_append (hargs _ (fun _ _=>rfl)) (hres _ _ _),hvars _ (fun _ _=>rfl),rfl, ?_, ?_⟩, ?_⟩
  ·intro b off hp
   have hin:MemPlace.cell b off∈before:=by rw [hps];simpa using hp
   rw [hb.frozen (hlt _ hin)]
   exact hz b off hin
  ·intro ha
   have:=hn ha
   rw [hps] at this
   simpa using this
  ·intro p hp _
   rw [hps]
   simpa using hp
theorem ZrZ {f:FuncId} {fn:Func} {s:ChangeSpec} {n:Nat} {tb:TypeId} (hr:fn.resultTypes= #[tb]) (ht:P.underlying tb=some .bool) (hv:s.vars=[])
 (hs:∀ds:List (DataW H),ds.length=fn.params.toList.length→s.fn H ds={ results:=[.lit (.bool true)],args:=ds}) (hp:∀t,t∈fn.params.toList→Z3 P n t=true)
 (W:World) (base:Nat) (args:Array Value) (ds gs:List (DataW H)) (before:List MemPlace)
 (hval:∀(j:Nat) t v,fn.params[j]? =some t→args[j]? =some v→Value.okWide P W .any base t v) (hW:DataW.Whole enc P fn.params.toList s.vars false W args.toList ds gs before)
 (hc:∀xs:List Pl,ZBf P n fn.params.toList xs→repVs (sg0 W) (xs.map .p) args.toList→Con P f (xs.map .p) [] (.p (.bool true)) []):
 Calls P f args W fun e W'=>∃v,e=.returned v∧s.post enc P fn false true false false W args v W':=by
 have hW':=hW
 obtain ⟨p,q,hA,hV,rfl,hfz,hnd⟩:=hW
 rw [hv] at hV
 obtain ⟨rfl,rfl⟩:gs=[]∧q=[]:=by
  cases gs with
  |nil=>exact ⟨rfl,hV⟩
  |cons g r=>simp [DataW.TrodVars] at hV
 have hlen:=trodAll_length hA
 obtain ⟨xs,x1,x2⟩:=Zwk (enc:=enc) (P:=P) (W:=W) (n:=n) (fun t v ha hok=>by
  unfold Value.okWide at hok
  unfold Xf at ha
  split at hok
  ·obtain ⟨cs,rfl,_⟩:=hok;exact ⟨cs,rfl⟩
  ·obtain ⟨cs,rfl,_⟩:=hok;exact ⟨cs,rfl⟩
  ·rename_i h1 h2
   split at ha
   ·rename_i fs hu;exact absurd hu (h1 fs)
   ·rename_i k e hu;exact absurd hu (h2 k e)
   ·cases ha) fn.params.toList args.toList ds p hp (fun j t v hj hvv=>by
  have hok:=hval j t v (by simpa using hj) (by simpa using hvv)
  refine ⟨fun ha=> ?_,fun ha=> ?_⟩
  ·unfold Value.okWide at hok
   unfold Xf at ha
   split at hok
   ·obtain ⟨cs,rfl,_⟩:=hok;exact ⟨cs,rfl⟩
   ·obtain ⟨cs,rfl,_⟩:=hok;exact ⟨cs,rfl⟩
   ·rename_i h1 h2
    split at ha
    ·rename_i fs hu;exact absurd hu (h1 fs)
    ·rename_i k e hu;exact absurd hu (h2 k e)
    ·cases ha
  ·obtain ⟨m,hm⟩:∃m,Z3 P (m+1) t=true:=by
    have:=hp t (List.mem_of_getElem? hj)
    cases n with
    |zero=>simp [Z3] at this
    |succ n=>exact ⟨n,this⟩
   unfold Value.okWide at hok
   unfold Z3 at hm
   unfold Xf at ha
   split at hm <;> rename_i hu <;> simp only [hu] at hok ha
   all_goals first
    |(cases ha;done)
    |(cases hm;done)
    |(unfold Cell.okWide Cell.ok at hok;simp only [hu] at hok;cases v <;> first|rfl|(simp at hok;done))) hA
 have hcall:=hc xs x1 x2 (sg0 W) args.toList (ZCK W) rfl x2
 rw [Array.toArray_toList] at hcall
 refine Calls.mono hcall ?_
 rintro e W' ⟨v,σ',rfl,rfl,hH,hto,hok,hrep⟩
 have hbv:v=.bool true:=by simpa [repDV,Dv.isAgg,Pl.isAgg,repD,repC] using hrep
 subst hbv
 have hb:=ZtI hto
 simp only [List.append_nil] at hW'
 have hlt:=hW'.lt
 have hsame:∀z∈p,W.sameAt σ'.w z:=by
  intro z hz
  have hz':=hlt z hz
  cases z with
  |cell b o=>exact hb.cell (p:=⟨b,o,none⟩) hz'
  |map b=>exact hb.block b hz'
 have hfn:=hs ds hlen.2
 refine ⟨_,rfl,Zoq (pa:=p) (pv:=[]) hW' (fun b sp hd=> ?_) (fun sp h=> ?_) (fun sp h=> ?_) (by simp) hb ?_⟩
 ·rw [List.append_nil,hfn,hr]
  exact trodAll_cons_mk (shut_bool ht _) trodAll_mk0
 ·rw [List.append_nil,hfn]
  exact ZiB fn.params.toList args.toList ds p hp hA hsame h
 ·rw [List.append_nil,hfn,hv]
  rfl
 ·intro j t r hj hjr
  rw [hr] at hj hjr
  cases j with
  |zero=>
   simp at hj
   subst hj
   have:r=.bool true:=by simpa [Value.resultList] using hjr.symm
   subst this
   exact okWide_bool_mk ht _
  |succ j=>simp at hj
end
end Go.Ev
namespace Go.Ev
end Go.Ev
end
section
namespace Go.Ev
mutual
def Ty.Wf:(t:Ty)→t.den→Prop
 |.int k,n=>(Lit.int k n).wf=true
 |.u8,_=>True
 |.u32,_=>True
 |.u64,_=>True
 |.bool,_=>True
 |.str,s=>s.size≤maxLen
 |.sl t,l=>List.length l≤maxLen∧∀x,List.Mem x l→Ty.Wf t x
 |.arr n t,l=>List.length l=n∧∀x,List.Mem x l→Ty.Wf t x
 |.st fs,x=>Ty.Wfs fs x
def Ty.Wfs:(fs:List Ty)→Ty.dens fs→Prop
 |[],_=>True
 |[t],x=>Ty.Wf t x
 |t::u::r,x=>Ty.Wf t x.1∧Ty.Wfs (u::r) x.2
end
mutual
def Zvd (P:Program):Nat→TypeId→Ty→Bool
 |0,_,_=>false
 |n+1,t,T=>match P.underlying t,T with
  |some (.int .u8),.u8=>true
  |some (.int .u32),.u32=>true
  |some (.int .u64),.u64=>true
  |some (.int k),.int k'=>decide (k=k')
  |some .bool,.bool=>true
  |some .string,.str=>true
  |some (.slice e),.sl T'=>P.cellsOf e==T'.size&&Zvd P n e T'
  |some (.array m e),.arr m' T'=>m==m'&&(P.cellsOf e==T'.size&&Zvd P n e T')
  |some (.struct fs),.st Ts=>tyOks P n fs.toList Ts
  |_,_=>false
def tyOks (P:Program):Nat→List Field→List Ty→Bool
 |0,_,_=>false
 |_+1,[],[]=>true
 |n+1,f::fs,T::Ts=>Zvd P n f.type T&&tyOks P n fs Ts
 |_+1,_,_=>false
end
theorem ZDm {m:Int} (h:(Lit.int .u8 m).wf=true):∃b:UInt8,m=(b.toNat:Int):=by
 simp only [Lit.wf,Bool.and_eq_true,decide_eq_true_eq] at h
 have h1:(0:Int)≤m:=h.1
 have h2:m≤255:=h.2
 refine ⟨UInt8.ofNat m.toNat, ?_⟩
 have:(UInt8.ofNat m.toNat).toNat=m.toNat:=by simp;omega
 rw [this]
 omega
theorem ZCM {m:Int} (h:(Lit.int .u32 m).wf=true):∃b:UInt32,m=(b.toNat:Int):=by
 simp only [Lit.wf,Bool.and_eq_true,decide_eq_true_eq] at h
 have h1:(0:Int)≤m:=h.1
 have h2:m≤4294967295:=h.2
 refine ⟨UInt32.ofNat m.toNat, ?_⟩
 have:(UInt32.ofNat m.toNat).toNat=m.toNat:=by simp;omega
 rw [this]
 omega
theorem ZCN {m:Int} (h:(Lit.int .u64 m).wf=true):∃b:UInt64,m=(b.toNat:Int):=by
 simp only [Lit.wf,Bool.and_eq_true,decide_eq_true_eq] at h
 have h1:(0:Int)≤m:=h.1
 have h2:m≤18446744073709551615:=h.2
 refine ⟨UInt64.ofNat m.toNat, ?_⟩
 have:(UInt64.ofNat m.toNat).toNat=m.toNat:=by simp;omega
 rw [this]
 omega
theorem Zve {α β:Type} {f:α→β} {R:α→Prop}:∀{ys:List β},(∀y,y∈ys→∃x,y=f x∧R x)→∃l:List α,ys=l.map f∧∀x,List.Mem x l→R x
 |[],_=>⟨[],rfl,fun x hx=>by cases hx⟩
 |y::ys,h=>by
  obtain ⟨x,rfl,hx⟩:=h y (List.mem_cons_self ..)
  obtain ⟨l,rfl,hl⟩:=Zve (fun z hz=>h z (List.mem_cons_of_mem _ hz))
  exact ⟨x::l,rfl,fun z hz=>by
   cases hz with
   |head=>exact hx
   |tail _ hz=>exact hl z hz⟩
mutual
theorem Zqx {P:Program}:∀(m n:Nat) (t:TypeId) (T:Ty) (x:Pl),Zvd P m t T=true→wtP P n t x→∃v:T.den,T.Wf v∧x=T.enc v
 |0,_,_,_,_,h,_=>by simp [Zvd] at h
 |_+1,0,_,_,_,_,h=>by simp [wtP] at h
 |m+1,n+1,t,T,x,h,hw=>by
  unfold Zvd at h
  split at h
  ·rename_i hu
   unfold wtP at hw
   rw [hu] at hw
   cases x <;> try exact hw.elim
   obtain ⟨rfl,h2⟩:=hw
   obtain ⟨b,rfl⟩:=ZDm h2
   exact ⟨b,trivial,rfl⟩
  ·rename_i hu
   unfold wtP at hw
   rw [hu] at hw
   cases x <;> try exact hw.elim
   obtain ⟨rfl,h2⟩:=hw
   obtain ⟨b,rfl⟩:=ZCM h2
   exact ⟨b,trivial,rfl⟩
  ·rename_i hu
   unfold wtP at hw
   rw [hu] at hw
   cases x <;> try exact hw.elim
   obtain ⟨rfl,h2⟩:=hw
   obtain ⟨b,rfl⟩:=ZCN h2
   exact ⟨b,trivial,rfl⟩
  ·rename_i k k' hu
   have h:=of_decide_eq_true h
   subst h
   unfold wtP at hw
   rw [hu] at hw
   cases x <;> try exact hw.elim
   obtain ⟨rfl,h2⟩:=hw
   exact ⟨_,h2,rfl⟩
  ·rename_i hu
   unfold wtP at hw
   rw [hu] at hw
   cases x <;> try exact hw.elim
   exact ⟨_,trivial,rfl⟩
  ·rename_i hu
   unfold wtP at hw
   rw [hu] at hw
   cases x <;> try exact hw.elim
   exact ⟨_,hw,rfl⟩
  ·rename_i e T' hu
   simp only [Bool.and_eq_true,beq_iff_eq] at h
   unfold wtP at hw
   rw [hu] at hw
   cases x <;> try exact hw.elim
   obtain ⟨rfl,rfl,h3,h4⟩:=hw
   obtain ⟨l,rfl,h5⟩:=Zve fun y hy=>(by
    obtain ⟨v,a,b⟩:=Zqx m n e T' y h.2 (h4 y hy)
    exact ⟨v,b,a⟩:∃v:T'.den,y=T'.enc v∧T'.Wf v)
   refine ⟨l,⟨by simpa using h3,h5⟩, ?_⟩
   rw [h.1]
   rfl
  ·rename_i m0 e m' T' hu
   simp only [Bool.and_eq_true,beq_iff_eq] at h
   obtain ⟨rfl,h⟩:=h
   unfold wtP at hw
   rw [hu] at hw
   cases x <;> try exact hw.elim
   obtain ⟨rfl,rfl,h3,h4⟩:=hw
   obtain ⟨l,rfl,h5⟩:=Zve fun y hy=>(by
    obtain ⟨v,a,b⟩:=Zqx m n e T' y h.2 (h4 y hy)
    exact ⟨v,b,a⟩:∃v:T'.den,y=T'.enc v∧T'.Wf v)
   refine ⟨l,⟨by simpa using h3,h5⟩, ?_⟩
   rw [h.1]
   rfl
  ·rename_i fs Ts hu
   unfold wtP at hw
   rw [hu] at hw
   cases x <;> try exact hw.elim
   rename_i xs
   obtain ⟨v,h1,rfl⟩:=wt_tys m n fs.toList Ts xs h hw
   exact ⟨v,h1,rfl⟩
  ·cases h
theorem wt_tys {P:Program}:∀(m n:Nat) (fs:List Field) (Ts:List Ty) (xs:List Pl),tyOks P m fs Ts=true→ZBd (wtP P n) fs xs→∃v:Ty.dens Ts,Ty.Wfs Ts v∧xs=Ty.encs Ts v
 |0,_,_,_,_,h,_=>by simp [tyOks] at h
 |m+1,n,[],[],[],h,hw=>⟨(),trivial,rfl⟩
 |m+1,n,[],[],_::_,h,hw=>hw.elim
 |m+1,n,[],_::_,_,h,hw=>by cases h
 |m+1,n,_::_,[],_,h,hw=>by cases h
 |m+1,n,_::_,_::_,[],h,hw=>hw.elim
 |m+1,n,f::fs,[T],x::xs,h,hw=>by
  simp only [tyOks,Bool.and_eq_true] at h
  obtain ⟨v,h1,rfl⟩:=Zqx m n f.type T x h.1 hw.1
  cases fs with
  |nil=>cases xs with
   |nil=>exact ⟨v,h1,rfl⟩
   |cons _ _=>exact hw.2.elim
  |cons _ _=>
   cases m with
   |zero=>exact absurd h.2 (by simp [tyOks])
   |succ m=>exact absurd h.2 (by simp [tyOks])
 |m+1,n,f::fs,T::U::Ts,x::xs,h,hw=>by
  simp only [tyOks,Bool.and_eq_true] at h
  obtain ⟨v,h1,rfl⟩:=Zqx m n f.type T x h.1 hw.1
  obtain ⟨w,h2,rfl⟩:=wt_tys m n fs (U::Ts) xs h.2 hw.2
  exact ⟨(v,w),⟨h1,h2⟩,rfl⟩
end
theorem Zqy {I X:Type} {step:I→Option (I⊕X)} (Inv:I→Prop) (mu:I→Nat) (Post:X→Prop)
 (h:∀i,Inv i→(∃j,step i=some (.inl j)∧Inv j∧mu j < mu i)∨(∃x,step i=some (.inr x)∧Post x)):∀(n:Nat) (i:I),Inv i→mu i < n→∃x,Zk step n i=some x∧Post x
 |0,i,_,hn=>by omega
 |n+1,i,hi,hn=>by
  unfold Zk
  rcases h i hi with ⟨j,h1,h2,h3⟩|⟨x,h1,h2⟩
  ·rw [h1,Option.bind_some]
   exact Zqy Inv mu Post h n j h2 (by omega)
  ·rw [h1,Option.bind_some]
   exact ⟨x,rfl,h2⟩
theorem Y0 {I X:Type} {step:I→Option (I⊕X)} (Inv:I→Prop) (mu:I→Nat) (Post:X→Prop)
 (h:∀i,Inv i→(∃j,step i=some (.inl j)∧Inv j∧mu j < mu i)∨(∃x,step i=some (.inr x)∧Post x)) (i:I) (hi:Inv i) (hm:mu i < 18446744073709551616):∃x,Zk step fuel i=some x∧Post x:=by
 refine Zqy Inv mu Post h fuel i hi ?_
 rw [Zkn]
 exact hm
theorem Y1 {z:Int} (h1: -9223372036854775808≤z) (h2:z≤9223372036854775807):wi z=z:=by
 simp only [wi,IntKind.wrap,IntKind.signed,IntKind.bits]
 simp
 omega
theorem ZbH {α:Type} {l:List α} {i:Int} {y:α} (h0:0≤i) (h:l[i.toNat]? =some y):idx l i=some y:=by
 unfold idx
 rw [if_pos h0,h]
theorem Qq {α:Type} {l:List α} {i:Nat} (h:i < l.length):∃y,l[i]? =some y:=⟨_,List.getElem?_eq_getElem h⟩
theorem WG {i:Int} {n:Nat} (h1:0≤i) (h2:i < (n:Int)):inB i n=true:=by simp [inB,h1,h2]
theorem Xt {n m b:Nat} (h1:(n+m)*b≤140737488355328) (h2:n+m≤9223372036854775807):apB n m b=true:=by
 unfold apB
 rw [Bool.and_eq_true]
 exact ⟨decide_eq_true h1,decide_eq_true h2⟩
end Go.Ev
end
section
namespace Go.Ev
def tdv:(ts:List Ty)→Ty.dens ts→List TD
 |[],_=>[]
 |[t],x=>[.p (.v t x)]
 |t::u::r,x=>.p (.v t x.1)::tdv (u::r) x.2
theorem Zwl:∀(ts:List Ty) (x:Ty.dens ts),Sh.fills (ts.map .v) (ofD ts x)=some (tdv ts x,[])
 |[],_=>rfl
 |[t],x=>by
  rw [show ofD [t] x=[⟨t,x⟩] from rfl,List.map_cons,List.map_nil,Sh.fills,Sh.fill]
  have e:=Yd t x
  dsimp only
  rw [e]
  rfl
 |t::u::r,x=>by
  have h:=Zwl (u::r) x.2
  have e:=Yd t x.1
  rw [show ofD (t::u::r) x=⟨t,x.1⟩::ofD (u::r) x.2 from rfl,List.map_cons,Sh.fills,Sh.fill]
  dsimp only
  rw [e,Option.map_some,Option.bind_some,h]
  rfl
theorem ZzA {L:Lk}:∀(ts:List Ty) (x:Ty.dens ts),TD.ers L (tdv ts x)=(Ty.encs ts x).map .p
 |[],_=>rfl
 |[t],x=>rfl
 |t::u::r,x=>by
  rw [show tdv (t::u::r) x=.p (.v t x.1)::tdv (u::r) x.2 from rfl,Zx,List.map_cons, ←Zx,ZzA (u::r) x.2]
  rfl
theorem ZBg {P:Program} {g:FuncId} {ts:List Ty} {M:Ty.dens ts→Option Bool} (hok:Fs.Ok (⟨g,ts.map .v,[],ts,[⟨.ret,[(0,.v .bool)],[],[.bool]⟩],M⟩:Fs P)) {x:Ty.dens ts} (h:M x=some true):
 Con P g ((Ty.encs ts x).map .p) [] (.p (.bool true)) []:=by
 obtain ⟨args,R,H,h1,h2,h3⟩:=hok x true h
 have e:=(Zwl ts x).symm.trans (show Sh.fills (ts.map .v) (ofD ts x)=some (args,R) from h1)
 cases e
 cases h2
 obtain ⟨r,h4,h5⟩:=h3 _ [⟨.bool,true⟩] ([.p (.v .bool true)],[]) ⟨rfl,rfl⟩ (by
  simp only [XY,shs]
  rfl)
 cases h4
 rw [←ZzA (L:=lk [])]
 exact h5
theorem ZCO {P:Program} {s:Fs P} (h:s.Ok) {M:Ty.dens s.ins→Option (XSh.sum s.xs)} (e:∀x,M x=s.M x):Fs.Ok (P:=P) { s with M:=M}:=by
 have:M=s.M:=funext e
 subst this
 exact h
def Zor (P:Program) (m:Nat):List TypeId→List Ty→Bool
 |[],[]=>true
 |t::ts,T::Ts=>Zvd P m t T&&Zor P m ts Ts
 |_,_=>false
theorem Zwm {P:Program} {m n:Nat}:∀{ts:List TypeId} {Ts:List Ty} {xs:List Pl},Zor P m ts Ts=true→ZBf P n ts xs→∃v:Ty.dens Ts,Ty.Wfs Ts v∧xs=Ty.encs Ts v
 |[],[],[],_,_=>⟨(),trivial,rfl⟩
 |[],[],_::_,_,h=>h.elim
 |[],_::_,_,h,_=>by cases h
 |_::_,[],_,h,_=>by cases h
 |_::_,_::_,[],_,h=>h.elim
 |t::ts,[T],x::xs,h,hw=>by
  simp only [Zor,Bool.and_eq_true] at h
  obtain ⟨v,h1,rfl⟩:=Zqx m n t T x h.1 hw.1
  cases ts with
  |nil=>cases xs with
   |nil=>exact ⟨v,h1,rfl⟩
   |cons _ _=>exact hw.2.elim
  |cons _ _=>exact absurd h.2 (by simp [Zor])
 |t::ts,T::U::Ts,x::xs,h,hw=>by
  simp only [Zor,Bool.and_eq_true] at h
  obtain ⟨v,h1,rfl⟩:=Zqx m n t T x h.1 hw.1
  obtain ⟨w,h2,rfl⟩:=Zwm (Ts:=U::Ts) h.2 hw.2
  exact ⟨(v,w),⟨h1,h2⟩,rfl⟩
end Go.Ev
end
section
namespace Go.Ev
def ZzB:List Hint:=[.raw,.raw,.raw,.raw,.raw,.raw,.raw,.b false,.raw,.raw,.raw,.raw,.bare,.raw,.raw,.bare,.bare,.raw,.raw,.raw,.raw,.raw,.raw,.raw]
def ZBh (x:Pl):List Prop:=[(0:Int)≤0,(0:Int)≤1,(1:Int)≤((1:Nat):Int),((1:Nat):Int)≤((1:Nat):Int),((0:Int)==1)=false,(0:Int)≤0,(0:Int)≤((1:Nat):Int),(0:Int)≤1,(1:Int)≤((1:Nat):Int),1+0≤1,(([x]:List Pl).drop 1).take 0=[],
 (0:Int)≤((0:Nat):Int),((0:Nat):Int)≤((1:Nat):Int),0+1≤1,0+1≤1]
theorem ZBi (x:Pl):AllP (ZBh x):=⟨by decide,by decide,by decide,by decide,by decide,by decide,by decide,by decide,by decide,by decide,rfl,by decide,by decide,by decide,by decide,trivial⟩
theorem ZBj {P:Program} {g:FuncId} {s:Nat} {e:TypeId} {z:Pl} (h:∀x:Pl,evF P g [.rv 0 1 s 0 1,.p (.int .i64 0),.p (.int .i64 1)] [.row 1 s true e (.p (.arr 1 s [x]))] ZzB []=some (ZBh x,.rv 0 1 s 0 0,[.row 1 s true e (.p (.arr 1 s [z]))])) (x:Pl):
 Con P g [.rv 0 1 s 0 1,.p (.int .i64 0),.p (.int .i64 1)] [.row 1 s true e (.p (.arr 1 s [x]))] (.rv 0 1 s 0 0) [.row 1 s true e (.p (.arr 0 s []))]:=
 ZAo ZzB [] (ZBh x) (h x) (ZBi x) (Wk.refl _) (.cons (.shr (Nat.zero_le 1)) .nil)
def ZxH {t:Ty} (i j:Int) (v:List Unit) (l:List t.den):Option (List Unit×List t.den):=if (decide (i=0)&&decide (j=1)&&(decide (v.length=1)&&decide (l.length=1)))=true then some (v,[]) else none
theorem ZCP {P:Program} {g:FuncId} {t:Ty} {e:TypeId} {z:Pl} (h:∀x:Pl,evF P g [.rv 0 1 t.size 0 1,.p (.int .i64 0),.p (.int .i64 1)] [.row 1 t.size true e (.p (.arr 1 t.size [x]))] ZzB []=some (ZBh x,.rv 0 1 t.size 0 0,[.row 1 t.size true e (.p (.arr 1 t.size [z]))])):
 Fs.Ok (⟨g,[.rw 0,.v (.int .i64),.v (.int .i64)],[.row t true e],[.int .i64,.int .i64,.sl (.st []),.sl t],[⟨.ret,[(0,.rw 0)],[.row t true e],[.sl (.st []),.sl t]⟩],fun x=>ZxH x.1 x.2.1 x.2.2.1 x.2.2.2⟩:Fs P):=by
 rintro ⟨i,j,v,l⟩ o hM
 have key:∀(i j:Int) (v:List Unit) (l:List t.den) (o:List Unit×List t.den),ZxH i j v l=some o→i=0∧j=1∧v=[()]∧(∃x,l=[x])∧o=(v,[]):=fun i j v l o hM=>by
  unfold ZxH at hM
  obtain ⟨h1,h2⟩:=Za (α:=List Unit×List t.den) hM
  rw [Bool.and_eq_true,Bool.and_eq_true,Bool.and_eq_true,decide_eq_true_eq,decide_eq_true_eq,decide_eq_true_eq,decide_eq_true_eq] at h1
  obtain ⟨u,hu⟩:=List.length_eq_one_iff.1 h1.2.1
  exact ⟨h1.1.1,h1.1.2,hu,List.length_eq_one_iff.1 h1.2.2,(Option.some.inj h2).symm⟩
 obtain ⟨rfl,rfl,rfl,⟨x,rfl⟩,rfl⟩:=key i j v l o hM
 have c1:Ty.cast (.sl (.st [])) (.sl (.st [])) ([()]:List Unit)=some ([()]:List Unit):=Yd (.sl (.st [])) ([()]:List Unit)
 have c2:Ty.cast (.sl t) (.sl t) ([x]:List t.den)=some ([x]:List t.den):=Yd (.sl t) ([x]:List t.den)
 have c3:Ty.cast (.sl t) (.sl t) ([]:List t.den)=some ([]:List t.den):=Yd (.sl t) ([]:List t.den)
 refine ⟨[.rw 0,.p (.v (.int .i64) (0:Int)),.p (.v (.int .i64) (1:Int))],[⟨.sl (.st []),([()]:List Unit)⟩,⟨.sl t,([x]:List t.den)⟩],[.rowT t [()] true e [x]],rfl, ?_,fun xx vs s' hs hf=> ?_⟩
 ·show ((Ty.cast (.sl (.st [])) (.sl (.st [])) ([()]:List Unit)).bind fun (v:List Unit)=>(Ty.cast (.sl t) (.sl t) ([x]:List t.den)).map fun (l:List t.den)=>((TEnt.rowT t v true e l,([]:List TV)):TEnt×List TV)).bind (fun a=>(ESh.fills [] a.2).map fun b=>(a.1::b.1,b.2))=_
  rw [c1,c2]
  rfl
 ·obtain ⟨rfl,rfl⟩:=hs
  have e2:XY 1 [(0,.rw 0)] [.row t true e] [⟨.sl (.st []),([()]:List Unit)⟩,⟨.sl t,([]:List t.den)⟩]=some ([.rw 0],[.rowT t [()] true e []]):=by
   show (((Ty.cast (.sl (.st [])) (.sl (.st [])) ([()]:List Unit)).bind fun (v:List Unit)=>(Ty.cast (.sl t) (.sl t) ([]:List t.den)).map fun (l:List t.den)=>((TEnt.rowT t v true e l,([]:List TV)):TEnt×List TV)).bind (fun a=>(ESh.fills [] a.2).map fun b=>(a.1::b.1,b.2))).bind (fun w=>if w.2.isEmpty then some ([TD.rw 0],w.1) else none)=_
   rw [c1,c3]
   rfl
  have e3:=hf.symm.trans e2
  cases e3
  refine ⟨_,rfl, ?_⟩
  have r1:TD.er (lk [TEnt.rowT t [()] true e [x]]) (.rw 0)=.rv 0 1 t.size 0 1:=(Zm5 (v:=[()]) rfl).1
  have r2:TD.er (lk [TEnt.rowT t [()] true e ([]:List t.den)]) (.rw 0)=.rv 0 1 t.size 0 0:=(Zm5 (v:=[()]) rfl).1
  show Con P g [TD.er (lk [TEnt.rowT t [()] true e [x]]) (.rw 0),.p (.int .i64 0),.p (.int .i64 1)] [.row 1 t.size true e (.p (.arr 1 t.size [t.enc x]))] (TD.er (lk [TEnt.rowT t [()] true e ([]:List t.den)]) (.rw 0)) [.row 1 t.size true e (.p (.arr 0 t.size []))]
  rw [r1,r2]
  exact ZBj h (t.enc x)
theorem ZBk {P:Program} {g:FuncId} {t:Ty} {xs:List XSh} {MA M:Ty.dens [.sl t]→Option (XSh.sum xs)} (hA:Fs.Ok (⟨g,[.sl true t],[],[.sl t],xs,MA⟩:Fs P))
 (h1:M ([]:List t.den)=none) (h2:∀(x:t.den) (l:List t.den),M (x::l)=MA (x::l)):Fs.Ok (⟨g,[.v (.sl t)],[],[.sl t],xs,M⟩:Fs P):=by
 intro l o hM
 have key:∀(l:List t.den),Ty.cast (.sl t) (.sl t) l=some l:=fun l=>Yd (.sl t) l
 have h3:∀l:List t.den,M l=some o→MA l=some o∧l≠[]:=fun l hl=>by
  cases l with
  |nil=>rw [h1] at hl;cases hl
  |cons x l=>exact ⟨by rw [←h2];exact hl,by simp⟩
 obtain ⟨hMA,hne⟩:=h3 l hM
 obtain ⟨a1,R1,H1,f1,f2,f3⟩:=hA l o hMA
 have e1:a1=[.p (.sl (some true) t l)]∧R1=[]:=by
  have:Sh.fills [.sl true t] [(⟨.sl t,l⟩:TV)]=some (a1,R1):=f1
  simp only [Sh.fills,Sh.fill] at this
  rw [key l] at this
  have this:some (([.p (.sl (some true) t l)]:List TD),([]:List TV))=some (a1,R1):=this
  cases this
  exact ⟨rfl,rfl⟩
 obtain ⟨rfl,rfl⟩:=e1
 cases f2
 refine ⟨[.p (.v (.sl t) l)],[],[], ?_,rfl,fun e vs s' hs hf=> ?_⟩
 ·show Sh.fills [.v (.sl t)] [(⟨.sl t,l⟩:TV)]=_
  simp only [Sh.fills,Sh.fill]
  rw [key l]
  rfl
 ·obtain ⟨r,r1,r2⟩:=f3 e vs s' hs hf
  exact ⟨r,r1,ZvF (xs:=List.map t.enc l) r2 fun hl=>absurd (List.map_eq_nil_iff.1 hl) hne⟩
end Go.Ev
end
section
namespace Go.Ev
structure Md (N b0:Nat) (σ σ':Sg):Prop where
 leaf:Leaf σ σ'
 F:∀b o,σ'.F b o→σ.F b o
 B:∀b,σ'.B b→σ.B b
 os:σ'.w.os=σ.w.os
 tape:σ'.w.tape=σ.w.tape
 output:σ'.w.output=σ.w.output
 size:σ.w.heap.size≤σ'.w.heap.size
 block:∀b,b < N→b≠b0→(∀id:Nat,σ.m[id]? ≠some (some b))→σ'.w.heap[b]? =σ.w.heap[b]?
 same:∀id b:Nat,σ'.m[id]? =some (some b)→σ.m[id]? =some (some b)∨N≤b
theorem Md.refl {N b0:Nat} (σ:Sg):Md N b0 σ σ:=⟨Leaf.refl σ,fun _ _ h=>h,fun _ h=>h,rfl,rfl,rfl,Nat.le_refl _,fun _ _ _ _=>rfl,fun _ _ h=>.inl h⟩
theorem Md.of_to {N b0:Nat} {σ σ':Sg} (h:To σ σ') (hN:N≤σ.w.heap.size):Md N b0 σ σ' where
 leaf:=h.leaf
 F b o k:=by rw [h.F] at k;exact k
 B b k:=by rw [h.B] at k;exact k
 os:=h.os
 tape:=h.tape
 output:=h.output
 size:=h.size
 block b k1 _ k2:=h.block b (Nat.lt_of_lt_of_le k1 hN) k2
 same id b k:=by
  rcases h.same id b k with q|q
  ·exact .inl q
  ·exact .inr (Nat.le_trans hN q)
theorem Md.trans {N b0:Nat} {a b c:Sg} (h:Md N b0 a b) (k:Md N b0 b c):Md N b0 a c where
 leaf:=h.leaf.trans k.leaf
 F x o q:=h.F x o (k.F x o q)
 B x q:=h.B x (k.B x q)
 os:=k.os.trans h.os
 tape:=k.tape.trans h.tape
 output:=k.output.trans h.output
 size:=Nat.le_trans h.size k.size
 block x h1 h2 h3:=(k.block x h1 h2 (fun id q=>by
  rcases h.same id x q with r|r
  ·exact h3 id r
  ·omega)).trans (h.block x h1 h2 h3)
 same id x q:=by
  rcases k.same id x q with r|r
  ·exact h.same id x r
  ·exact .inr r
structure Pv (b0:Nat) (σ:Sg) (b:Nat):Prop where
 B:¬σ.B b
 F:∀o,¬σ.F b o
 lt:b < σ.w.heap.size
 un:∀id:Nat,σ.m[id]? ≠some (some b)
 ne:b≠b0
theorem Pv.to {b0 b:Nat} {σ σ':Sg} (h:Pv b0 σ b) (to:To σ σ'):Pv b0 σ' b where
 B:=by rw [to.B];exact h.B
 F o:=by rw [to.F];exact h.F o
 lt:=Nat.lt_of_lt_of_le h.lt to.size
 un id q:=by
  rcases to.same id b q with r|r
  ·exact h.un id r
  ·have:=h.lt
   omega
 ne:=h.ne
theorem Pv.not_stab {b0 b o:Nat} {σ:Sg} (h:Pv b0 σ b):¬σ.stab b o:=fun q=>q.1.elim (h.F o) h.B
def RowIn (σ:Sg) (s:Nat) (e:TypeId) (xs:List Pl) (v:Value) (b:Nat):Prop:=
 ∃c cur,v=.slice (some ⟨b,0,none⟩) xs.length c∧σ.w.heap[b]? =some (.cells cur e (0,0))∧cur.size=c*s∧xs.length≤c∧c≤maxLen∧allSz s xs∧repCs σ.w σ.stab xs (cur.toList.take (xs.length*s))
theorem RowIn.leaf {σ σ':Sg} {s:Nat} {e:TypeId} {xs:List Pl} {v:Value} {b:Nat} (h:RowIn σ s e xs v b) (l:Leaf σ σ') (hb:σ'.w.heap[b]? =σ.w.heap[b]?):RowIn σ' s e xs v b:=by
 obtain ⟨c,cur,h1,h2,h3,h4,h5,h6,h7⟩:=h
 exact ⟨c,cur,h1,by rw [hb];exact h2,h3,h4,h5,h6,repCs_mono l.cells _ _ h7⟩
structure MR (N b0 s:Nat) (e:TypeId) (σ:Sg) (gs:List (Pl×List Pl×Nat)) (es:Array MapEntry) (clock:Nat):Prop where
 ge:N≤σ.w.heap.size
 F:∀b o,σ.F b o→b < N
 heap:σ.w.heap[b0]? =some (.map es clock)
 un:∀id:Nat,σ.m[id]? ≠some (some b0)
 len:es.size=gs.length
 ent:∀(q:Nat) g en,gs[q]? =some g→es[q]? =some en→repDV σ (.p g.1) en.key∧RowIn σ s e g.2.1 en.val g.2.2∧en.born < clock∧Pv b0 σ g.2.2∧N≤g.2.2
 born:∀(q q':Nat) en en',es[q]? =some en→es[q']? =some en'→en.born=en'.born→q=q'
 dist:∀(q q':Nat) g g',gs[q]? =some g→gs[q']? =some g'→g.2.2=g'.2.2→q=q'
theorem Zko {w:World} {b:Nat} {x:Obj} (h:w.heap[b]? =some x):b < w.heap.size:=(Array.getElem?_eq_some_iff.1 h).1
theorem MR.to {N b0 s:Nat} {e:TypeId} {σ σ':Sg} {gs:List (Pl×List Pl×Nat)} {es:Array MapEntry} {clock:Nat} (h:MR N b0 s e σ gs es clock) (to:To σ σ'):MR N b0 s e σ' gs es clock where
 ge:=Nat.le_trans h.ge to.size
 F b o q:=h.F b o (by rw [to.F] at q;exact q)
 heap:=(to.block b0 (Zko h.heap) h.un).trans h.heap
 un id q:=by
  rcases to.same id b0 q with r|r
  ·exact h.un id r
  ·have:=Zko h.heap
   omega
 len:=h.len
 ent q g en h1 h2:=by
  obtain ⟨a1,a2,a3,a4,a5⟩:=h.ent q g en h1 h2
  exact ⟨YF to.leaf a1,a2.leaf to.leaf (to.block _ a4.lt a4.un),a3,a4.to to,a5⟩
 born:=h.born
 dist:=h.dist
theorem Zos {σ:Sg} {w':World} {B':Nat→Prop} (hc:∀(b o:Nat) (v:Value),σ.w.cell? ⟨b,o,none⟩=some v→σ.stab b o→w'.heap[b]? =σ.w.heap[b]? ∧(σ.B b→B' b))
 (hm:∀id b:Nat,σ.m[id]? =some (some b)→w'.heap[b]? =σ.w.heap[b]?):Leaf σ { σ with w:=w',B:=B'}:=by
 refine ⟨fun b o v h1 h2=> ?_,fun id b h1 h2=>⟨h1,h2⟩,fun id s len A c h=> ?_,fun id b h1 h2=>⟨h1,h2⟩,fun id v s st e d h=>⟨v,st,d,h,Nat.le_refl _,fun _=>⟨rfl,fun b cur hb hc'=>⟨cur, ?_,rfl⟩⟩⟩⟩
 ·obtain ⟨q1,q2⟩:=hc b o v h1 h2
  exact ⟨by rw [World.cell?_of_block (w:=σ.w) q1];exact h1,h2.1.imp id q2,h2.2⟩
 ·obtain ⟨e,ys,h1,h2,h3⟩:=h
  refine ⟨e,ys,h1,h2,fun q=> ?_⟩
  rcases h3 q with h4|⟨b,cur,h4,h5,h6,h7⟩
  ·exact .inl h4
  ·exact .inr ⟨b,cur,h4,h5,by show w'.heap[b]? =_;rw [hm id b h4];exact h6,h7⟩
 ·show w'.heap[b]? =_
  rw [hm id b hb]
  exact hc'
theorem Zvf {σ:Sg} {w':World} {B':Nat→Prop} (ok:Ok σ) (leaf:Leaf σ { σ with w:=w',B:=B'}) (hm:∀id b:Nat,σ.m[id]? =some (some b)→w'.heap[b]? =σ.w.heap[b]?) (hs:σ.w.heap.size≤w'.heap.size)
 (hB:∀b,w'.heap.size≤b→B' b) (hB2:∀id b:Nat,σ.m[id]? =some (some b)→B' b):Ok { σ with w:=w',B:=B'} where
 len:=ok.len
 inj:=ok.inj
 lt i b h:=Nat.lt_of_lt_of_le (ok.lt i b h) hs
 ent i e a h1 h2:=WP leaf (fun b hb=>hm i b (by rw [←hb];exact h2)) (ok.ent i e a h1 h2)
 new:=hB
 own:=hB2
structure More (P:Program) (b0 s:Nat) (e t u ty:TypeId) (σ:Sg) (v S:Value) (b:Nat) (ys:List Pl) (v':Value) (w':World) (b':Nat) (B':Nat→Prop):Prop where
 run:(Builtin.append_ #[t,u] ty #[v,S]).run P σ.w=.ok v' w'
 leaf:Leaf σ { σ with w:=w',B:=B'}
 ok:Ok { σ with w:=w',B:=B'}
 row:RowIn { σ with w:=w',B:=B'} s e ys v' b'
 pv:Pv b0 { σ with w:=w',B:=B'} b'
 other:∀x,x≠b→x < σ.w.heap.size→w'.heap[x]? =σ.w.heap[x]?
 blk:b'=b∨σ.w.heap.size≤b'
 B:∀x,B' x→σ.B x
 os:w'.os=σ.w.os
 tape:w'.tape=σ.w.tape
 output:w'.output=σ.w.output
 size:σ.w.heap.size≤w'.heap.size
theorem Zmd {σ:Sg} (ok:Ok σ) {id b x:Nat} (h:σ.m[id]? =some (some b)) (hx:σ.w.heap.size≤x):b≠x:=by
 have:=ok.lt id b h
 omega
theorem Zwn {σ:Sg} {b o:Nat} {v:Value} (h:σ.w.cell? ⟨b,o,none⟩=some v):b < σ.w.heap.size:=YN h
theorem ZtJ {P:Program} {b0 s:Nat} {e t u ty:TypeId} {σ:Sg} (ok:Ok σ) (hb0:b0 < σ.w.heap.size) (hF:∀o,¬σ.F σ.w.heap.size o) {v S:Value} {b:Nat} {ys:List Pl} {cs:Array Value} {c:Nat}
 (run:(Builtin.append_ #[t,u] ty #[v,S]).run P σ.w=.ok (.slice (some ⟨σ.w.heap.size,0,none⟩) ys.length c) (σ.w.drew.alloc (.cells cs e))) (hcs:cs.size=c*s) (hle:ys.length≤c) (hcm:c≤maxLen) (hall:allSz s ys)
 (hr:repCs σ.w σ.stab ys (cs.toList.take (ys.length*s))):
 More P b0 s e t u ty σ v S b ys (.slice (some ⟨σ.w.heap.size,0,none⟩) ys.length c) (σ.w.drew.alloc (.cells cs e)) σ.w.heap.size (fun x=>σ.B x∧x≠σ.w.heap.size):=by
 have hg:=Yc σ.w (.cells cs e) none
 have hblk:∀x,x < σ.w.heap.size→(σ.w.drew.alloc (.cells cs e)).heap[x]? =σ.w.heap[x]? :=fun x hx=>hg.block x hx (by simp)
 have hnew:(σ.w.drew.alloc (.cells cs e)).heap[σ.w.heap.size]? =some (.cells cs e (0,0)):=heap_alloc_new σ.w.drew _
 have leaf:Leaf σ { σ with w:=σ.w.drew.alloc (.cells cs e),B:=fun x=>σ.B x∧x≠σ.w.heap.size}:=Zos (fun x o v h1 h2=>⟨hblk x (Zwn h1),fun h=>⟨h,by have:=Zwn h1;omega⟩⟩) (fun id x h=>hblk x (ok.lt id x h))
 have hlt:=Zko hnew
 exact { run:=run,leaf:=leaf,ok:=Zvf ok leaf (fun id x h=>hblk x (ok.lt id x h)) hg.size (fun x hx=>⟨ok.new x (by have:=hg.size;omega),by omega⟩) (fun id x h=>⟨ok.own id x h,Zmd ok h (Nat.le_refl _)⟩),
         row:=⟨c,cs,rfl,hnew,hcs,hle,hcm,hall,repCs_mono leaf.cells _ _ hr⟩,
         pv:=⟨fun h=>h.2 rfl,hF,hlt,fun id q=>Zmd ok q (Nat.le_refl _) rfl,by omega⟩,
         other:=fun x _ hx=>hblk x hx,blk:=.inr (Nat.le_refl _),B:=fun x h=>h.1,os:=hg.os,tape:=hg.tape,output:=hg.output,size:=hg.size}
theorem ZzC {P:Program} {b0 s:Nat} {e t u ty:TypeId} {i:TypeInfo} {σ:Sg} (ok:Ok σ) (hb0:b0 < σ.w.heap.size) (hF:∀o,¬σ.F σ.w.heap.size o) (ht:P.underlying t=some (.slice e)) (hi:P.info? e=some i) (hz:zOk i=true)
 (hs:i.size=s) {xs:List Pl} {v S:Value} {b:Nat} {y:Pl} (hr:RowIn σ s e xs v b) (hp:Pv b0 σ b) (hsrc:ZjT P σ s u S [y]) (hb:(xs.length+1)*i.bytes≤bytesBound) (hm:xs.length+1≤maxLen):
 ∃v' w' b' B',More P b0 s e t u ty σ v S b (xs++[y]) v' w' b' B':=by
 obtain ⟨c,cur,rfl,h2,h3,h4,h5,h6,h7⟩:=hr
 obtain ⟨news,hS,hrn,hall⟩:=hsrc
 subst hs
 have hnl:news.length=1*i.size:=hS.cells
 have hone:∀v,v∈news→v.oneCell'=true:=repCs_one _ _ hrn
 have hall2:allSz i.size (xs++[y]):=Vf h6 (hall (by simp))
 have hus:(cur.toList.take (xs.length*i.size)).length=xs.length*i.size:=by
  have hcl:cur.toList.length=c*i.size:=by simpa using h3
  rw [List.length_take,hcl]
  exact Nat.min_eq_left (Nat.mul_le_mul_right _ h4)
 have hrr:repCs σ.w σ.stab (xs++[y]) (cur.toList.take (xs.length*i.size)++news):=ZT h7 hrn
 have hlen:(xs++[y]).length=xs.length+1:=by simp
 obtain ⟨z,hzz,hzs⟩:=Qe hz
 rcases Nat.lt_or_ge c (xs.length+1) with hgr|hroom
 ·have hold:(Builtin.firstCells i.size xs.length (.slice (some ⟨b,0,none⟩) xs.length c)).run P σ.w.drew=.ok (cur.toList.take (xs.length*i.size)).toArray σ.w.drew:=by
   refine run_firstCells_some _ _ _ ⟨b,_,none⟩ _ c _ hus (fun j v hv=> ?_)
   rw [Addr.add_mk,Nat.zero_add]
   have hv2:cur[j]? =some v:=by
    rw [List.getElem?_take] at hv
    split at hv
    ·rw [←Array.getElem?_toList];exact hv
    ·cases hv
   rw [cell_of_row σ.w.drew b j cur e (0,0) h2]
   exact hv2
  have hrun:=Zc5 (P:=P) (ty:=ty) ht hi hzz hS hold hgr hm hb
  have hge:=grownCap_ge σ.w (xs.length+1) c e
  have hcm:=grownCap_le_maxLen σ.w (xs.length+1) c e hm
  have hl1:xs.length+[y].length=(xs++[y]).length:=by simp
  rw [hl1] at hrun
  refine ⟨_,_,_,_,ZtJ ok hb0 hF hrun ?_ (by rw [hlen];exact hge) (by rw [hlen];exact hcm) hall2 ?_⟩
  ·simp only [Array.size_append,List.size_toArray,size_zeroCells,hzs,hus,hnl, ←Nat.add_mul,hlen]
   congr 1
   have:xs.length+1≤grownCap σ.w (xs.length+1) c e:=hge
   omega
  ·have e1:(cur.toList.take (xs.length*i.size)++news).length=(xs++[y]).length*i.size:=by rw [List.length_append,hus,hnl,hlen,Nat.add_mul]
   rw [←e1]
   simp only [Array.toList_append,List.take_left',List.append_assoc]
   rw [←List.append_assoc,List.take_left' rfl]
   exact hrr
 ·have hrun:=ZgB (P:=P) (ty:=ty) ht hi hS hone h2 hroom h3
  let ncur:Array Value:=(cur.toList.take (xs.length*i.size)++news++cur.toList.drop (xs.length*i.size+news.length)).toArray
  have hblk:(σ.w.setRow b ncur).heap[b]? =some (.cells ncur e (0,0)):=setRow_heap σ.w b cur _ e _ h2
  have hoth:∀j,j≠b→(σ.w.setRow b ncur).heap[j]? =σ.w.heap[j]? :=fun j hj=>setRow_other σ.w b j _ hj
  have hfit:xs.length*i.size+news.length≤cur.size:=by rw [hnl,h3, ←Nat.add_mul];exact Nat.mul_le_mul_right _ hroom
  have hncs:ncur.size=c*i.size:=by
   simp only [ncur,List.size_toArray,List.length_append,List.length_drop,Array.length_toList,hus]
   omega
  have htk:ncur.toList.take ((xs++[y]).length*i.size)=cur.toList.take (xs.length*i.size)++news:=by
   have e1:(cur.toList.take (xs.length*i.size)++news).length=(xs++[y]).length*i.size:=by rw [List.length_append,hus,hnl,hlen,Nat.add_mul]
   rw [←e1]
   exact List.take_left
  have leaf:Leaf σ { σ with w:=σ.w.setRow b ncur,B:=σ.B}:=Zos (fun x o v h1 h2'=>⟨hoth x (fun q=>by subst q;exact hp.not_stab h2'),fun h=>h⟩) (fun id x h=>hoth x (fun q=>by subst q;exact hp.un id h))
  have hsz:(σ.w.setRow b ncur).heap.size=σ.w.heap.size:=by simp
  have hl1:xs.length+[y].length=(xs++[y]).length:=by simp
  rw [hl1] at hrun
  have ok2:Ok { σ with w:=σ.w.setRow b ncur,B:=σ.B}:=Zvf ok leaf (fun id x h=>hoth x (fun q=>by subst q;exact hp.un id h)) (by rw [hsz];exact Nat.le_refl _) (fun x hx=>ok.new x (by rw [←hsz];exact hx)) ok.own
  refine ⟨_,_,b,σ.B,hrun,leaf,ok2,⟨c,ncur,rfl,hblk,hncs,by rw [hlen];exact hroom,h5,hall2,by rw [htk];exact repCs_mono leaf.cells _ _ hrr⟩,⟨hp.B,hp.F, ?_,hp.un,hp.ne⟩,fun x hx _=>hoth x hx,.inl rfl,fun x h=>h,rfl,rfl,rfl, ?_⟩
  ·show b < (σ.w.setRow b ncur).heap.size
   rw [hsz]
   exact hp.lt
  ·exact Nat.le_of_eq hsz.symm
theorem ZzD {P:Program} {b0 s:Nat} {e t u ty:TypeId} {i:TypeInfo} {σ:Sg} {a:Act} {ts:List Dv} (ok:Ok σ) (hrep:RepT σ ts a) (hb0:b0 < σ.w.heap.size) (hF:∀o,¬σ.F σ.w.heap.size o) (ht:P.underlying t=some (.slice e)) (hi:P.info? e=some i) (hz:zOk i=true)
 (hs:i.size=s) (hne:i.size≠0) {S:Operand} {y:Pl} {b:Nat} (hsrc:ZjT P σ s u (a.eval S) [y]) (hb:1*i.bytes≤bytesBound) (hm:1≤maxLen):
 ∃v' w' b' B',More P b0 s e t u ty σ (.slice none 0 0) (a.eval S) b [y] v' w' b' B':=by
 subst hs
 have hce:P.cellsOf e=i.size:=by simp [Program.cellsOf,hi]
 rcases XN (P:=P) (ty:=ty) ok hrep ht hi hz hne (by rw [hce];exact hsrc) (by simpa using hb) (by simpa using hm) with ⟨h,_⟩|⟨news,rest,hys,hall,hr,hge,hcm,hcs,hrun⟩
 ·cases h
 ·have hnl:news.length=[y].length*i.size:=by rw [repCs_size _ _ hr,sizes_all hall]
  refine ⟨_,_,_,_,ZtJ ok hb0 hF hrun hcs hge hcm hall ?_⟩
  rw [←hnl]
  simp only [Array.toList_append,List.take_left']
  exact hr
theorem Zwo {P:Program} {σ:Sg} {kt:TypeId} {k:Pl} {F:List MapEntry→Nat→Option (Nat×Value)→Prop} (hF:Finder P σ kt k F):∀(ks:List Pl) (es:List MapEntry) (i:Nat),
 (∀(j:Nat) key en,ks[j]? =some key→es[j]? =some en→repDV σ (.p key) en.key∧fitP P 20 kt key)→ks.length=es.length→
 (∀q,ks[q]? =some k→(∀j,j < q→ks[j]? ≠some k)→∃en,es[q]? =some en∧F es i (some (i+q,en.val)))∧((∀j:Nat,ks[j]? ≠some k)→F es i none)
 |[],[],i,_,_=>⟨fun q h _=>by simp at h,fun _=>hF.nil i⟩
 |[],_::_,_,_,h=>by simp at h
 |_::_,[],_,_,h=>by simp at h
 |x::ks,e::es,i,hr,hl=>by
  obtain ⟨r1,r2⟩:=hr 0 x e rfl rfl
  obtain ⟨a1,a2⟩:=Zwo hF ks es (i+1) (fun j key en h1 h2=>hr (j+1) key en h1 h2) (by simpa using hl)
  refine ⟨fun q hq hb=> ?_,fun hn=> ?_⟩
  ·cases q with
   |zero=>
    have hk:x=k:=by simpa using hq
    exact ⟨e,rfl,hF.eq e es i x r2 r1 hk.symm⟩
   |succ q=>
    have hne:k≠x:=fun h=>hb 0 (Nat.zero_lt_succ q) (by rw [h];rfl)
    obtain ⟨en,b1,b2⟩:=a1 q (by simpa using hq) (fun j hj=>by have:=hb (j+1) (Nat.succ_lt_succ hj);simpa using this)
    exact ⟨en,b1,by have:=hF.ne e es i x _ r2 r1 hne b2;rwa [show i+1+q=i+(q+1) by omega] at this⟩
  ·have hne:k≠x:=fun h=>hn 0 (by rw [h];rfl)
   exact hF.ne e es i x _ r2 r1 hne (a2 fun j=>by have:=hn (j+1);simpa using this)
theorem Zwp {σ:Sg} (ok:Ok σ) {b0:Nat} {es es':Array MapEntry} {clock clock':Nat} (hb:σ.w.heap[b0]? =some (.map es clock)) (un:∀id:Nat,σ.m[id]? ≠some (some b0)):
 Leaf σ { σ with w:={ σ.w with heap:=σ.w.heap.setIfInBounds b0 (.map es' clock')}}∧Ok { σ with w:={ σ.w with heap:=σ.w.heap.setIfInBounds b0 (.map es' clock')}}:=by
 obtain ⟨g1,g2⟩:=Go.MapKept.heap_set (w:=σ.w) (o':=.map es' clock') hb
 have hm:∀id b:Nat,σ.m[id]? =some (some b)→(σ.w.heap.setIfInBounds b0 (.map es' clock'))[b]? =σ.w.heap[b]? :=fun id b h=>g2 b (fun q=>by subst q;exact un id h)
 have leaf:Leaf σ { σ with w:={ σ.w with heap:=σ.w.heap.setIfInBounds b0 (.map es' clock')},B:=σ.B}:=Zos (fun b o v h1 h2=>⟨g2 b (fun q=>by
  subst q
  simp [World.cell?,hb] at h1),fun h=>h⟩) hm
 exact ⟨leaf,Zvf ok leaf hm (by simp) (fun b h=>ok.new b (by simpa using h)) ok.own⟩
inductive GPut (gs:List (Pl×List Pl×Nat)) (k p:Pl) (b':Nat):List (Pl×List Pl×Nat)→Prop where
 |old (q:Nat) (xs:List Pl) (b:Nat) (h:gs[q]? =some (k,xs,b)) (hn:∀j g,j < q→gs[j]? =some g→g.1≠k):GPut gs k p b' (gs.set q (k,xs++[p],b'))
 |new (hn:∀(j:Nat) g,gs[j]? =some g→g.1≠k):GPut gs k p b' (gs++[(k,[p],b')])
theorem Zqz (k:Pl):∀(gs:List (Pl×List Pl×Nat)),(∃(q:Nat) (xs:List Pl) (b:Nat),gs[q]? =some (k,xs,b)∧∀(j:Nat) (g:Pl×List Pl×Nat),j < q→gs[j]? =some g→g.1≠k)∨∀(j:Nat) (g:Pl×List Pl×Nat),gs[j]? =some g→g.1≠k
 |[]=>.inr fun j g h=>by simp at h
 |x::r=>by
  by_cases hx:x.1=k
  ·exact .inl ⟨0,x.2.1,x.2.2,by rw [←hx];rfl,fun j g h=>absurd h (Nat.not_lt_zero j)⟩
  ·rcases Zqz k r with ⟨q,xs,b,h1,h2⟩|h
   ·refine .inl ⟨q+1,xs,b,by simpa using h1,fun j g hj hg=> ?_⟩
    cases j with
    |zero=>cases hg;exact hx
    |succ j=>exact h2 j g (Nat.lt_of_succ_lt_succ hj) (by simpa using hg)
   ·refine .inr fun j g hg=> ?_
    cases j with
    |zero=>cases hg;exact hx
    |succ j=>exact h j g (by simpa using hg)
theorem ZxI {es:Array MapEntry} {q:Nat} {en:MapEntry} (h:es[q]? =some en) (hb:∀(q':Nat) en',es[q']? =some en'→en'.born=en.born→q'=q):
 (es.findIdx? fun e=>(e.born:Int)==(en.born:Int))=some q:=by
 have hlt:q < es.size:=(Array.getElem?_eq_some_iff.1 h).1
 rw [Array.findIdx?_eq_some_iff_getElem]
 refine ⟨hlt, ?_,fun j hj=> ?_⟩
 ·rw [(Array.getElem?_eq_some_iff.1 h).2]
  simp
 ·have hj2:j < es.size:=by omega
  have h2:es[j]? =some es[j]:=Array.getElem?_eq_getElem hj2
  simp only [beq_iff_eq]
  intro he
  have:=hb j es[j] h2 (by exact_mod_cast he)
  omega
section
variable {P:Program} {a:Act} {σ:Sg} {ts:List Dv}
theorem ZxJ {ops:Array Oper} {Q:Exit→Act→World→Prop} {p t0 t1 t2 t3 tm:Nat} {o1 o2 o3 o4 o5:Oper} (g1:ops[p]? =some o1) (g2:ops[p+1]? =some o2) (g3:ops[p+2]? =some o3) (g4:ops[p+3]? =some o4) (g5:ops[p+4]? =some o5)
 (n1:o1.guard=none) (n2:o2.guard=none) (n3:o3.guard=none) (n4:o4.guard=none) (n5:o5.guard=none) {t tt u t5 kt et e:TypeId} {k y:Operand} {c:Call}
 (h1:o1.op=.mapEntry t (.tmp tm) k) (d1:o1.dst=some t0) (h2:o2.op=.extract (.tmp t0) 0) (d2:o2.dst=some t1) (h3:o3.op=.call c) (hc:c.callee=.builtin .append) (ha:c.args.toList=[.tmp t1,y]) (hty:c.argTypes.toList=[tt,u]) (d3:o3.dst=some t2)
 (h4:o4.op=.extract (.tmp t0) 1) (d4:o4.dst=some t3) (h5:o5.op=.entryStore t5 (.tmp tm) (.tmp t3) (.tmp t2)) (d5:o5.dst=none) (q01:t0≠t1) (q02:t0≠t2) (q23:t2≠t3) (m0:tm≠t0) (m1:tm≠t1) (m2:tm≠t2) (m3:tm≠t3) (l0:t0 < ts.length) (l1:t1 < ts.length) (l2:t2 < ts.length) (l3:t3 < ts.length)
 (ok:Ok σ) (hrep:RepT σ ts a) {N b0 s:Nat} {gs:List (Pl×List Pl×Nat)} {es:Array MapEntry} {clock:Nat} (hmr:MR N b0 s e σ gs es clock) (hraw:a.eval (.tmp tm)=.map (some b0)) {kk pp:Pl} {s0:Nat} {i:TypeInfo} (hu:P.underlying t=some (.map kt et)) (hk:argD P ts kt k=.p kk)
 (hkt:keyTy P kt=true) (hfit:fitP P 20 kt kk) (hfits:∀(j:Nat) g,gs[j]? =some g→fitP P 20 kt g.1) (hzt:hasZero P et=true) (hzd:zeroD P et=.p (.sl (some false) s0 [])) (htt:P.underlying tt=some (.slice e)) (hi:P.info? e=some i) (hz:zOk i=true) (hne:i.size≠0) (hs:i.size=s)
 (hsrc:srcOf P (P.cellsOf e) u (argD P ((ts.set t0 .junk).set t1 .junk) u y)=some [pp]) (hbd:∀(j:Nat) g,gs[j]? =some g→(g.2.1.length+1)*i.bytes≤bytesBound∧g.2.1.length+1≤maxLen) (hb1:1*i.bytes≤bytesBound)
 (hQ:∀a' σ' gs' es' clock' b',GPut gs kk pp b' gs'→MR N b0 s e σ' gs' es' clock'→σ'.H=σ.H→σ'.m=σ.m→Md N b0 σ σ'→Ok σ'→RepT σ' ((((ts.set t0 .junk).set t1 .junk).set t2 .junk).set t3 .junk) a'→(∀x,x≠t0→x≠t1→x≠t2→x≠t3→a'.eval (.tmp x)=a.eval (.tmp x))→Q .normal a' σ'.w):wpOps P ops Q [p,p+1,p+2,p+3,p+4] a σ.w:=by
 have hkv:=Zl (P:=P) hrep kt k
 rw [hk] at hkv
 have hb0:=hmr.heap
 obtain ⟨F,hF,hrunF⟩:=Zag (P:=P) hkt hfit hkv
 have hchk:=XR (em:=false) 20 kt kk _ hfit hkv 9980
 have hesl:es.toList.length=gs.length:=by rw [Array.length_toList];exact hmr.len
 obtain ⟨fi1,fi2⟩:=Zwo hF (gs.map (·.1)) es.toList 0 (fun j key en k1 k2=>by
  rw [List.getElem?_map] at k1
  cases hg:gs[j]? with
  |none=>rw [hg] at k1;cases k1
  |some g=>
   rw [hg] at k1
   cases k1
   exact ⟨(hmr.ent j g en hg (by rw [←Array.getElem?_toList];exact k2)).1,hfits j g hg⟩) (by rw [List.length_map,hesl])
 obtain ⟨zv,hzv,hzr⟩:∃z,(zeroValue et).run P σ.w=.ok z σ.w∧repDV σ (zeroD P et) z:=by
  unfold hasZero at hzt
  split at hzt
  ·rename_i i hi
   cases hzz:i.zero with
   |none=>simp [hzz] at hzt
   |some z=>
    refine ⟨z,by simp [zeroValue,typeInfo,hi,hzz], ?_⟩
    unfold zeroD
    rw [hi]
    simp only [hzz]
    exact WO
  ·cases hzt
 rw [hzd] at hzr
 have hzn:=ZjU hzr
 subst hzn
 have step1:∃(es1:Array MapEntry) (clock1 q:Nat) (en1:MapEntry) (v:Value) (ys:List Pl) (b:Nat),(Instr.mapEntry t (a.eval (.tmp tm)) (a.eval k)).run P σ.w=.ok (.tuple #[v,goInt en1.born]) { σ.w with heap:=σ.w.heap.setIfInBounds b0 (.map es1 clock1)}∧
  es1[q]? =some en1∧repDV σ (.p kk) en1.key∧en1.born < clock1∧clock≤clock1∧(∀j,j≠q→es1[j]? =es[j]?)∧(∀q' en',es1[q']? =some en'→en'.born=en1.born→q'=q)∧
  ((∃xs,ys=xs++[pp]∧gs[q]? =some (kk,xs,b)∧(∀j g,j < q→gs[j]? =some g→g.1≠kk)∧RowIn σ s e xs v b∧Pv b0 σ b∧N≤b∧es1.size=es.size)∨(ys=[pp]∧v=.slice none 0 0∧(∀(j:Nat) g,gs[j]? =some g→g.1≠kk)∧q=es.size∧es1.size=es.size+1)):=by
  rcases Zqz kk gs with ⟨q,xs,b,e1,e2⟩|e1
  ·obtain ⟨en,f1,f2⟩:=fi1 q (by rw [List.getElem?_map,e1];rfl) (fun j hj h=>by
    rw [List.getElem?_map] at h
    cases hg:gs[j]? with
    |none=>rw [hg] at h;cases h
    |some g=>rw [hg] at h;exact e2 j g hj hg (Option.some.inj h))
   rw [Nat.zero_add] at f2
   have g5:=hrunF _ _ f2
   have f1':es[q]? =some en:=by rw [←Array.getElem?_toList];exact f1
   obtain ⟨r1,r2,r3,r4,r5⟩:=hmr.ent q _ en e1 f1'
   have hsame:en.key=a.eval k:=Zi8 (Zcf 20 kt kk hfit) r1 hkv
   have hbits:Instr.sameBits 10000 en.key (a.eval k)=true:=by
    rw [hsame]
    exact ZpW (Zcf 20 kt kk hfit) hkv
   have hes:(es.modify q fun e=>{ e with key:=a.eval k})=es:=by
    apply Array.ext_getElem?
    intro j
    rw [Array.getElem?_modify]
    by_cases hj:q=j
    ·subst hj
     rw [if_pos rfl,f1']
     simp only [Option.map_some, ←hsame]
    ·rw [if_neg hj]
   refine ⟨es,clock,q,en,en.val,xs++[pp],b, ?_,f1',r1,r3,Nat.le_refl _,fun _ _=>rfl,fun q' en' h h'=>hmr.born q' q en' en h f1' h',.inl ⟨xs,rfl,e1,e2,r2,r4,r5,rfl⟩⟩
   rw [hraw]
   simp only [Instr.mapEntry,Sem.run_bind,run_underlying hu,Result.andThen_ok,Y9 hb0,hchk,g5,Instr.keyThatStays,f1',Option.map_some,Option.getD_some,hbits,if_true,Sem.run_pure,hes,Go.MapKept.run_setObj_map _ hb0]
  ·have g5:=hrunF _ _ (fi2 fun j h=>by
    rw [List.getElem?_map] at h
    cases hg:gs[j]? with
    |none=>rw [hg] at h;cases h
    |some g=>rw [hg] at h;exact e1 j g hg (Option.some.inj h))
   have hlast:(es.push { key:=a.eval k,val:=.slice none 0 0,born:=clock})[es.size]? =some { key:=a.eval k,val:=.slice none 0 0,born:=clock}:=by simp
   have hold:∀j,j≠es.size→(es.push { key:=a.eval k,val:=.slice none 0 0,born:=clock})[j]? =es[j]? :=fun j hj=>by
    rw [Array.getElem?_push,if_neg hj]
   refine ⟨es.push { key:=a.eval k,val:=.slice none 0 0,born:=clock},clock+1,es.size,_,.slice none 0 0,[pp],0, ?_,hlast,hkv,Nat.lt_succ_self _,Nat.le_succ _,hold,fun q' en' h h'=> ?_,.inr ⟨rfl,rfl,e1,rfl,by simp⟩⟩
   ·rw [hraw]
    simp only [Instr.mapEntry,Sem.run_bind,run_underlying hu,Result.andThen_ok,Y9 hb0,hchk,g5,hzv,Sem.run_pure,Go.MapKept.run_setObj_map _ hb0]
   ·by_cases hj:q'=es.size
    ·exact hj
    ·rw [hold q' hj] at h
     have hlt:q' < gs.length:=by rw [←hmr.len];exact (Array.getElem?_eq_some_iff.1 h).1
     have:=(hmr.ent q' _ en' (List.getElem?_eq_getElem hlt) h).2.2.1
     simp only at h'
     omega
 obtain ⟨es1,clock1,q,en1,v,ys,b,run1,e1q,e1k,e1c,e1cc,e1o,e1b,e1⟩:=step1
 obtain ⟨leaf1,ok1⟩:=Zwp (es':=es1) (clock':=clock1) ok hb0 hmr.un
 obtain ⟨w1a,w1b⟩:=Go.MapKept.heap_set (w:=σ.w) (o':=.map es1 clock1) hb0
 let σ1:Sg:={ σ with w:={ σ.w with heap:=σ.w.heap.setIfInBounds b0 (.map es1 clock1)}}
 have leaf1:Leaf σ σ1:=leaf1
 have ok1:Ok σ1:=ok1
 have w1a:σ1.w.heap[b0]? =some (.map es1 clock1):=w1a
 have w1b:∀x,x≠b0→σ1.w.heap[x]? =σ.w.heap[x]? :=w1b
 have sz1:σ1.w.heap.size=σ.w.heap.size:=by show (σ.w.heap.setIfInBounds b0 (.map es1 clock1)).size=_;simp
 have x1:(execOp a.eval o1).run P σ.w=.ok (.value (.tuple #[v,goInt en1.born])) σ1.w:=by simp [execOp,h1,run1];rfl
 refine XT g1 n1 x1 ?_
 rw [d1]
 have r1:RepT σ1 (ts.set t0 .junk) (a.put (some t0) (.tuple #[v,goInt en1.born])):=Vh (hrep.to leaf1)
 have k1:(a.put (some t0) (.tuple #[v,goInt en1.born])).eval (.tmp tm)=.map (some b0):=by rw [ZZ m0];exact hraw
 generalize ha1:a.put (some t0) (.tuple #[v,goInt en1.born])=a1 at r1 k1 ⊢
 have ht0:t0 < a.tmps.size:=by rw [hrep.size];exact l0
 have v1:a1.eval (.tmp t0)=.tuple #[v,goInt en1.born]:=by rw [←ha1];exact Qm ht0
 have x2:(execOp a1.eval o2).run P σ1.w=.ok (.value v) σ1.w:=by
  have:(Instr.extract (a1.eval (.tmp t0)) 0).run P σ1.w=.ok v σ1.w:=by rw [v1];simp [Instr.extract]
  simp [execOp,h2,this]
 refine XT g2 n2 x2 ?_
 rw [d2]
 have r2:RepT σ1 ((ts.set t0 .junk).set t1 .junk) (a1.put (some t1) v):=Vh r1
 have k2:(a1.put (some t1) v).eval (.tmp tm)=.map (some b0):=by rw [ZZ m1];exact k1
 have s1:t1 < a1.tmps.size:=by rw [r1.size,List.length_set];exact l1
 generalize ha2:a1.put (some t1) v=a2 at r2 k2 ⊢
 have v2:a2.eval (.tmp t1)=v:=by rw [←ha2];exact Qm s1
 have v20:a2.eval (.tmp t0)=.tuple #[v,goInt en1.born]:=by rw [←ha2,ZZ q01];exact v1
 have hce:P.cellsOf e=i.size:=by simp [Program.cellsOf,hi]
 have hF1:∀o,¬σ1.F σ1.w.heap.size o:=fun o h=>by
  have h1:=hmr.F _ _ h
  have h2:=hmr.ge
  omega
 have hb1lt:b0 < σ1.w.heap.size:=Zko w1a
 have hso:ZjT P σ1 s u (a2.eval y) [pp]:=by
  have:=WQ (P:=P) r2 hsrc
  rw [hce,hs] at this
  exact this
 have step3:∃v' w' b' B' bb,More P b0 s e tt u o3.type σ1 v (a2.eval y) bb ys v' w' b' B'∧bb≠b0∧(∀j g,j≠q→gs[j]? =some g→g.2.2≠bb)∧(N≤bb):=by
  rcases e1 with ⟨xs,rfl,f1,f2,f3,f4,f5,f6⟩|⟨rfl,rfl,f2,f3,f4⟩
  ·have hbb:=hbd q _ f1
   obtain ⟨v',w',b',B',hm⟩:=ZzC (P:=P) (u:=u) (ty:=o3.type) (S:=a2.eval y) (y:=pp) ok1 hb1lt hF1 htt hi hz hs (f3.leaf leaf1 (w1b _ f4.ne)) ⟨f4.B,f4.F,by show b < σ1.w.heap.size;rw [sz1];exact f4.lt,f4.un,f4.ne⟩ hso hbb.1 hbb.2
   exact ⟨v',w',b',B',b,hm,f4.ne,fun j g hj hg h=>hj (hmr.dist j q g _ hg f1 h),f5⟩
  ·obtain ⟨v',w',b',B',hm⟩:=ZzD (P:=P) (u:=u) (ty:=o3.type) (S:=y) (y:=pp) (b:=σ1.w.heap.size) ok1 r2 hb1lt hF1 htt hi hz hs hne hso hb1 (by simp [maxLen])
   refine ⟨v',w',b',B',_,hm,by omega,fun j g hj hg h=> ?_,by rw [sz1];exact hmr.ge⟩
   have hlt:j < es.size:=by rw [hmr.len];exact (List.getElem?_eq_some_iff.1 hg).1
   have:=(hmr.ent j g _ hg (Array.getElem?_eq_getElem hlt)).2.2.2.1.lt
   rw [sz1] at h
   omega
 obtain ⟨v3,w3,b3,B3,bb,hm,hbb0,hbbo,hbbN⟩:=step3
 let σ3:Sg:={ σ1 with w:=w3,B:=B3}
 have x3:(execOp a2.eval o3).run P σ1.w=.ok (.value v3) σ3.w:=ZN (σ:=σ1) (w':=w3) h3 hc ha hty (by rw [v2];exact hm.run)
 refine XT g3 n3 x3 ?_
 rw [d3]
 have r3:RepT σ3 (((ts.set t0 .junk).set t1 .junk).set t2 .junk) (a2.put (some t2) v3):=Vh (r2.to hm.leaf)
 have k3:(a2.put (some t2) v3).eval (.tmp tm)=.map (some b0):=by rw [ZZ m2];exact k2
 have s2:t2 < a2.tmps.size:=by rw [r2.size,List.length_set,List.length_set];exact l2
 generalize ha3:a2.put (some t2) v3=a3 at r3 k3 ⊢
 have v30:a3.eval (.tmp t0)=.tuple #[v,goInt en1.born]:=by rw [←ha3,ZZ q02];exact v20
 have v32:a3.eval (.tmp t2)=v3:=by rw [←ha3];exact Qm s2
 have x4:(execOp a3.eval o4).run P σ3.w=.ok (.value (goInt en1.born)) σ3.w:=by
  have:(Instr.extract (a3.eval (.tmp t0)) 1).run P σ3.w=.ok (goInt en1.born) σ3.w:=by rw [v30];simp [Instr.extract]
  simp [execOp,h4,this]
 refine XT g4 n4 x4 ?_
 rw [d4]
 have r4:RepT σ3 ((((ts.set t0 .junk).set t1 .junk).set t2 .junk).set t3 .junk) (a3.put (some t3) (goInt en1.born)):=Vh r3
 have k4:(a3.put (some t3) (goInt en1.born)).eval (.tmp tm)=.map (some b0):=by rw [ZZ m3];exact k3
 have s3:t3 < a3.tmps.size:=by rw [r3.size,List.length_set,List.length_set,List.length_set];exact l3
 generalize ha4:a3.put (some t3) (goInt en1.born)=a4 at r4 k4 ⊢
 have v43:a4.eval (.tmp t3)=goInt en1.born:=by rw [←ha4];exact Qm s3
 have v42:a4.eval (.tmp t2)=v3:=by rw [←ha4,ZZ q23];exact v32
 have w3a:σ3.w.heap[b0]? =some (.map es1 clock1):=(hm.other b0 (Ne.symm hbb0) hb1lt).trans w1a
 have hfi:=ZxI e1q e1b
 let en5:MapEntry:={ en1 with val:=v3}
 let es5:Array MapEntry:=es1.modify q fun e=>{ e with val:=v3}
 obtain ⟨leaf5,ok5⟩:=Zwp (es':=es5) (clock':=clock1) (σ:=σ3) hm.ok w3a hmr.un
 obtain ⟨w5a,w5b⟩:=Go.MapKept.heap_set (w:=σ3.w) (o':=.map es5 clock1) w3a
 let σ5:Sg:={ σ3 with w:={ σ3.w with heap:=σ3.w.heap.setIfInBounds b0 (.map es5 clock1)}}
 have leaf5:Leaf σ3 σ5:=leaf5
 have ok5:Ok σ5:=ok5
 have w5b:∀x,x≠b0→σ5.w.heap[x]? =σ3.w.heap[x]? :=w5b
 have sz5:σ5.w.heap.size=σ3.w.heap.size:=by show (σ3.w.heap.setIfInBounds b0 (.map es5 clock1)).size=_;simp
 have x5:(execOp a4.eval o5).run P σ3.w=.ok .skip σ5.w:=by
  have:(Instr.entryStore t5 (a4.eval (.tmp tm)) (a4.eval (.tmp t3)) (a4.eval (.tmp t2))).run P σ3.w=.ok () σ5.w:=by
   rw [k4,v43,v42]
   simp only [Instr.entryStore,goInt,asInt,asIntOf,Sem.run_bind,Y9 w3a,Result.andThen_ok,Sem.run_pure,hfi,Go.MapKept.run_setObj_map _ w3a]
   rfl
  simp [execOp,h5,this]
 refine Zoh g5 n5 x5 ?_
 rw [d5]
 have hle3:σ1.w.heap.size≤σ3.w.heap.size:=hm.size
 have es5q:es5[q]? =some en5:=by
  show (es1.modify q _)[q]? =_
  rw [Array.getElem?_modify,if_pos rfl,e1q]
  rfl
 have es5o:∀j,j≠q→es5[j]? =es1[j]? :=fun j hj=>by
  show (es1.modify q _)[j]? =_
  rw [Array.getElem?_modify,if_neg (Ne.symm hj)]
 have hl5:es5.size=es1.size:=by show (es1.modify q _).size=_;simp
 have hrow5:RowIn σ5 s e ys v3 b3:=hm.row.leaf leaf5 (w5b _ hm.pv.ne)
 have hpv5:Pv b0 σ5 b3:=⟨hm.pv.B,hm.pv.F,by rw [sz5];exact hm.pv.lt,hm.pv.un,hm.pv.ne⟩
 have leaf15:Leaf σ σ5:=(leaf1.trans hm.leaf).trans leaf5
 have hb3N:N≤b3:=by
  rcases hm.blk with h|h
  ·rw [h];exact hbbN
  ·rw [sz1] at h
   exact Nat.le_trans hmr.ge h
 have hmd:Md N b0 σ σ5:=by
  refine ⟨leaf15,fun x o h=>h,fun x h=>hm.B x h, ?_, ?_, ?_, ?_,fun x h1 h2 _=> ?_,fun id x h=>.inl h⟩
  ·exact hm.os
  ·exact hm.tape
  ·exact hm.output
  ·rw [sz5]
   exact Nat.le_trans (Nat.le_of_eq sz1.symm) hle3
  ·rw [w5b x h2,hm.other x (by omega) (by rw [sz1];exact Nat.lt_of_lt_of_le h1 hmr.ge),w1b x h2]
 have hoth:∀(j:Nat) g en,j≠q→gs[j]? =some g→es[j]? =some en→repDV σ5 (.p g.1) en.key∧RowIn σ5 s e g.2.1 en.val g.2.2∧en.born < clock1∧Pv b0 σ5 g.2.2∧N≤g.2.2∧g.2.2≠b3:=by
  intro j g en hj hg he
  obtain ⟨a1,a2,a3,a4,a5⟩:=hmr.ent j g en hg he
  have hne:=hbbo j g hj hg
  have hlt:g.2.2 < σ1.w.heap.size:=by rw [sz1];exact a4.lt
  have hh:σ5.w.heap[g.2.2]? =σ.w.heap[g.2.2]? :=by rw [w5b _ a4.ne,hm.other _ hne hlt,w1b _ a4.ne]
  refine ⟨YF leaf15 a1,a2.leaf leaf15 hh,Nat.lt_of_lt_of_le a3 e1cc,⟨fun h=>a4.B (hm.B _ h),a4.F,by rw [sz5];exact Nat.lt_of_lt_of_le hlt hle3,a4.un,a4.ne⟩,a5,fun h=> ?_⟩
  rcases hm.blk with r|r
  ·exact hne (h.trans r)
  ·omega
 have hge5:N≤σ5.w.heap.size:=by rw [sz5];exact Nat.le_trans (by rw [sz1];exact hmr.ge) hle3
 have hborn5:∀(j j':Nat) x x',es5[j]? =some x→es5[j']? =some x'→x.born=x'.born→j=j':=by
  intro j j' x x' hx hx' hb
  by_cases hj:j=q
  ·subst hj
   rw [es5q] at hx
   cases hx
   by_cases hj':j'=j
   ·exact hj'.symm
   ·rw [es5o j' hj'] at hx'
    exact (e1b j' x' hx' hb.symm).symm
  ·rw [es5o j hj] at hx
   by_cases hj':j'=q
   ·subst hj'
    rw [es5q] at hx'
    cases hx'
    exact e1b j x hx hb
   ·rw [es5o j' hj',e1o j' hj'] at hx'
    rw [e1o j hj] at hx
    exact hmr.born j j' x x' hx hx' hb
 have e5k:repDV σ5 (.p kk) en5.key:=YF leaf15 e1k
 have kept:∀x,x≠t0→x≠t1→x≠t2→x≠t3→a4.eval (.tmp x)=a.eval (.tmp x):=fun x z0 z1 z2 z3=>by rw [←ha4,ZZ z3, ←ha3,ZZ z2, ←ha2,ZZ z1, ←ha1,ZZ z0]
 rcases e1 with ⟨xs,rfl,f1,f2,f3,f4,f5,f6⟩|⟨rfl,rfl,f2,f3,f4⟩
 ·have hql:q < gs.length:=(List.getElem?_eq_some_iff.1 f1).1
  refine hQ a4 σ5 (gs.set q (kk,xs++[pp],b3)) es5 clock1 b3 (.old q xs b f1 f2) ⟨hge5,hmr.F,w5a,hmr.un,by rw [hl5,f6,List.length_set];exact hmr.len,fun j g en hg he=> ?_,hborn5,fun j j' g g' hg hg' hb=> ?_⟩ rfl rfl hmd ok5 (r4.to leaf5) kept
  ·by_cases hj:j=q
   ·subst hj
    rw [es5q] at he
    cases he
    rw [List.getElem?_set_self hql] at hg
    cases hg
    exact ⟨e5k,hrow5,e1c,hpv5,hb3N⟩
   ·rw [es5o j hj,e1o j hj] at he
    rw [List.getElem?_set_ne (Ne.symm hj)] at hg
    obtain ⟨z1,z2,z3,z4,z5,_⟩:=hoth j g en hj hg he
    exact ⟨z1,z2,z3,z4,z5⟩
  ·have key:∀(j:Nat) g,j≠q→gs[j]? =some g→g.2.2≠b3:=fun j g hj hg=>by
    have hlt:j < es.size:=by rw [hmr.len];exact (List.getElem?_eq_some_iff.1 hg).1
    exact (hoth j g _ hj hg (Array.getElem?_eq_getElem hlt)).2.2.2.2.2
   by_cases hj:j=q
   ·subst hj
    rw [List.getElem?_set_self hql] at hg
    cases hg
    by_cases hj':j'=j
    ·exact hj'.symm
    ·rw [List.getElem?_set_ne (Ne.symm hj')] at hg'
     exact absurd hb.symm (key j' g' hj' hg')
   ·rw [List.getElem?_set_ne (Ne.symm hj)] at hg
    by_cases hj':j'=q
    ·subst hj'
     rw [List.getElem?_set_self hql] at hg'
     cases hg'
     exact absurd hb (key j g hj hg)
    ·rw [List.getElem?_set_ne (Ne.symm hj')] at hg'
     exact hmr.dist j j' g g' hg hg' hb
 ·have hqg:q=gs.length:=by rw [f3,hmr.len]
  refine hQ a4 σ5 (gs++[(kk,[pp],b3)]) es5 clock1 b3 (.new f2) ⟨hge5,hmr.F,w5a,hmr.un,by rw [hl5,f4,List.length_append,hmr.len];rfl,fun j g en hg he=> ?_,hborn5,fun j j' g g' hg hg' hb=> ?_⟩ rfl rfl hmd ok5 (r4.to leaf5) kept
  ·by_cases hj:j=q
   ·subst hj
    rw [es5q] at he
    cases he
    rw [hqg,List.getElem?_concat_length] at hg
    cases hg
    exact ⟨e5k,hrow5,e1c,hpv5,hb3N⟩
   ·rw [es5o j hj,e1o j hj] at he
    have hlt:j < gs.length:=by rw [←hmr.len];exact (Array.getElem?_eq_some_iff.1 he).1
    rw [List.getElem?_append_left hlt] at hg
    obtain ⟨z1,z2,z3,z4,z5,_⟩:=hoth j g en hj hg he
    exact ⟨z1,z2,z3,z4,z5⟩
  ·have key:∀(j:Nat) g,j < gs.length→gs[j]? =some g→g.2.2≠b3:=fun j g hj hg=>by
    have hlt:j < es.size:=by rw [hmr.len];exact hj
    exact (hoth j g _ (by omega) hg (Array.getElem?_eq_getElem hlt)).2.2.2.2.2
   have cs:∀(j:Nat) g,(gs++[(kk,[pp],b3)])[j]? =some g→(j < gs.length∧gs[j]? =some g)∨(j=gs.length∧g.2.2=b3):=fun j g hg=>by
    rcases Nat.lt_trichotomy j gs.length with h|h|h
    ·rw [List.getElem?_append_left h] at hg
     exact .inl ⟨h,hg⟩
    ·subst h
     rw [List.getElem?_concat_length] at hg
     cases hg
     exact .inr ⟨rfl,rfl⟩
    ·rw [List.getElem?_eq_none (by simp;omega)] at hg
     cases hg
   rcases cs j g hg with ⟨c1,c2⟩|⟨c1,c2⟩
   ·rcases cs j' g' hg' with ⟨c3,c4⟩|⟨c3,c4⟩
    ·exact hmr.dist j j' g g' c2 c4 hb
    ·exact absurd (hb.trans c4) (key j g c1 c2)
   ·rcases cs j' g' hg' with ⟨c3,c4⟩|⟨c3,c4⟩
    ·exact absurd (hb.symm.trans c2) (key j' g' c3 c4)
    ·rw [c1,c3]
end
theorem ZzE {a:Act} {d:Option Tmp} {v:Value} {t:Nat} (h:d≠some t):(a.put d v).eval (.tmp t)=a.eval (.tmp t):=by
 cases d with
 |none=>rfl
 |some s=>exact ZZ (fun e=>h (by rw [e]))
theorem Zjl {P:Program} {ops:Array Oper} (Q:Exit→Act→World→Prop) {ts':List Dv} (more:List Nat):∀(l:List Oper) (k:Nat) (ts:List Dv) (σ:Sg) (a:Act) (hs hs':List Hint) (C:List Prop) (H':List Ent),
 (∀(j:Nat) (x:Oper),l[j]? =some x→ops[k+j]? =some x)→Ok σ→RepT σ ts a→evOps P ops l ts σ.H hs=some (C,ts',H',hs')→AllP C→
 (∀a' σ',(∀t,(∀x,x∈l→x.dst≠some t)→a'.eval (.tmp t)=a.eval (.tmp t))→σ'.H=H'→To σ σ'→Ok σ'→RepT σ' ts' a'→wpOps P ops Q more a' σ'.w)→wpOps P ops Q (List.range' k l.length++more) a σ.w
 |[],k,ts,σ,a,hs,hs',C,H',_,ok,hrep,h,hc,hQ=>by
  simp only [evOps,Option.some.injEq,Prod.mk.injEq] at h
  obtain ⟨rfl,rfl,rfl,rfl⟩:=h
  exact hQ a σ (fun _ _=>rfl) rfl (To.refl σ) ok hrep
 |o::l,k,ts,σ,a,hs,hs',C,H',hl,ok,hrep,h,hc,hQ=>by
  simp only [evOps] at h
  split at h
  ·rename_i C1 d1 H1 hs1 h1
   split at h
   ·rename_i C2 ts2 H2 hs2 h2
    simp only [Option.some.injEq,Prod.mk.injEq] at h
    obtain ⟨rfl,rfl,rfl,rfl⟩:=h
    obtain ⟨c1,c2⟩:=Zh.1 hc
    have h0:ops[k]? =some o:=by simpa using hl 0 o rfl
    simp only [List.length_cons,List.range'_succ,List.cons_append,wpOps,h0]
    have key:=ZhT (P:=P) (ops:=ops) ok hrep h1 c1 (wpOps P ops Q (List.range' (k+1) l.length++more)) Q (fun v σ1 e1 to1 ok1 hrep1=>by
     subst e1
     exact Zjl Q more l (k+1) _ σ1 _ hs1 _ C2 _ (fun j x hx=>by have:=hl (j+1) x (by simpa using hx);simpa [Nat.add_assoc,Nat.add_comm 1 j] using this) ok1 hrep1 h2 c2
      (fun a' σ' e0 e2 to2 ok2 hrep2=>hQ a' σ' (fun t hd=>(e0 t fun x hx=>hd x (List.mem_cons_of_mem _ hx)).trans (ZzE (hd o (List.mem_cons_self ..)))) e2 (to1.trans to2) ok2 hrep2))
    by_cases hw:Region.wanted o (yielded ops a.tmps)=true
    ·rw [if_pos hw] at key ⊢
     exact .inl key
    ·rw [if_neg hw] at key ⊢
     exact key
   ·cases h
  ·cases h
theorem Zdk {P:Program} {ops:Array Oper} {id t:Nat} {Q:Exit→Act→World→Prop} {ts ts':List Dv} {σ:Sg} {a:Act} {hs:List Hint} {C:List Prop} {H':List Ent} (hd:∀x,x∈ops.toList→x.dst≠some t) (ok:Ok σ) (hrep:RepT σ ts a)
 (h:evOps P ops ops.toList ts σ.H hs=some (C,ts',H',[])) (hc:AllP C) (hQ:∀a' σ',a'.eval (.tmp t)=a.eval (.tmp t)→σ'.H=H'→To σ σ'→Ok σ'→RepT σ' ts' a'→Q .normal a' σ'.w):(Code.region id ops false).wp P Q a σ.w:=by
 refine wp_region ?_
 have:=Zjl (P:=P) (ops:=ops) Q [] ops.toList 0 ts σ a hs [] C H' (fun j x hx=>by simpa using hx) ok hrep h hc (fun a' σ' e0 e1 to ok' hr=>hQ a' σ' (e0 t hd) e1 to ok' hr)
 rw [List.range_eq_range']
 simpa using this
theorem ZtK (n:Nat):once (List.range n)=true:=by
 have key:∀(l:List Nat),l.Nodup→once l=true:=by
  intro l
  induction l with
  |nil=>intro _;rfl
  |cons x r ih=>
   intro h
   rw [List.nodup_cons] at h
   simp only [once,Bool.and_eq_true,Bool.not_eq_true',ih h.2,and_true]
   simpa using h.1
 exact key _ List.nodup_range
theorem ZBl {N b0:Nat} {σ σ':Sg} (ok:Ok σ) (to:Md N b0 σ σ') (hlen:σ.m.length≤σ'.m.length) (hN:N≤σ.w.heap.size) {H:List Ent} (hin:subEnts σ'.H (List.range σ.H.length) (List.range σ.H.length)=some H):Md N b0 σ (Zd8 σ' (List.range σ.H.length) H):=by
 have ho:once (List.range σ.H.length)=true:=ZtK _
 have hf:∀id,id < σ.H.length→toIds (List.range σ.H.length) id=some id:=fun id h=>idxOf?_of ho (List.getElem?_range h)
 have rn:=ZbB hin
 refine ⟨⟨fun b o v h1 h2=> ?_,fun id b h1 h2=> ?_,fun id s len A c h1=> ?_,fun id b h1 h2=> ?_,fun id v s st e d h1=> ?_⟩,to.F,to.B,to.os,to.tape,to.output,to.size,fun b h1 h2 h3=>to.block b h1 h2 h3,fun id b h=> ?_⟩
 ·obtain ⟨h3,h4⟩:=to.leaf.cells b o v h1 h2
  exact ⟨h3,rn.stab b o v h3 h4⟩
 ·have hlt:id < σ.H.length:=by rw [←ok.len];exact (List.getElem?_eq_some_iff.1 h1).1
  obtain ⟨h3,h4⟩:=to.leaf.var id b h1 h2
  exact ⟨rn.m _ _ (hf id hlt) _ h3,rn.var (hf id hlt) h4⟩
 ·have hlt:id < σ.H.length:=by
   obtain ⟨e,ys,h2,_⟩:=h1
   exact (List.getElem?_eq_some_iff.1 h2).1
  exact rn.front (hf id hlt) (to.leaf.front _ _ _ _ _ h1)
 ·have hlt:id < σ.H.length:=by rw [←ok.len];exact (List.getElem?_eq_some_iff.1 h1).1
  obtain ⟨h3,h4⟩:=to.leaf.map id b h1 h2
  exact ⟨rn.m _ _ (hf id hlt) _ h3,rn.map (hf id hlt) h4⟩
 ·have hlt:id < σ.H.length:=(List.getElem?_eq_some_iff.1 h1).1
  obtain ⟨v',st',d',h5,h6,h7⟩:=to.leaf.row _ _ _ _ _ _ h1
  obtain ⟨d2,h8⟩:=rn.row (hf id hlt) h5
  refine ⟨v',st',d2,h8,h6,fun hv=> ?_⟩
  obtain ⟨h9,h10⟩:=h7 hv
  refine ⟨?_,h10⟩
  have hmm:∃x,σ.m[id]? =some x:=⟨_,List.getElem?_eq_getElem (by rw [ok.len];exact hlt)⟩
  obtain ⟨x,hx⟩:=hmm
  rw [hx]
  exact rn.m _ _ (hf id hlt) _ (by rw [h9];exact hx)
 ·obtain ⟨x,h1,h2⟩:=V1 h
  rcases to.same x b h2 with h3|h3
  ·have hlt:x < σ.H.length:=by rw [←ok.len];exact (List.getElem?_eq_some_iff.1 h3).1
   have:=idxOf?_of ho h1
   have h4:=hf x hlt
   unfold toIds at h4
   rw [this] at h4
   cases h4
   exact .inl h3
  ·exact .inr h3
theorem MR.part {N b0 s:Nat} {e:TypeId} {σ:Sg} {gs:List (Pl×List Pl×Nat)} {es:Array MapEntry} {clock:Nat} (h:MR N b0 s e σ gs es clock) {L:List Nat} {H:List Ent} (hin:subEnts σ.H L L=some H):MR N b0 s e (Zd8 σ L H) gs es clock:=by
 have rn:=ZbB hin
 have un:∀b,(∀id:Nat,σ.m[id]? ≠some (some b))→∀id:Nat,(Zd8 σ L H).m[id]? ≠some (some b):=fun b hb id q=>by
  obtain ⟨x,_,h2⟩:=V1 q
  exact hb x h2
 refine ⟨h.ge,h.F,h.heap,un b0 h.un,h.len,fun q g en h1 h2=> ?_,h.born,h.dist⟩
 obtain ⟨a1,a2,a3,a4,a5⟩:=h.ent q g en h1 h2
 obtain ⟨c,cur,b1,b2,b3,b4,b5,b6,b7⟩:=a2
 exact ⟨Zb8 rn rfl a1,⟨c,cur,b1,b2,b3,b4,b5,b6,repCs_mono rn.cells _ _ b7⟩,a3,⟨a4.B,a4.F,a4.lt,un _ a4.un,a4.ne⟩,a5⟩
inductive GS (key elt:Nat→Pl):Nat→List (Pl×List Pl×Nat)→Prop where
 |zero:GS key elt 0 []
 |succ {i b:Nat} {gs gs':List (Pl×List Pl×Nat)} (h:GS key elt i gs) (g:GPut gs (key i) (elt i) b gs'):GS key elt (i+1) gs'
theorem GS.bound {key elt:Nat→Pl} {i:Nat} {gs:List (Pl×List Pl×Nat)} (h:GS key elt i gs):∀(j:Nat) g,gs[j]? =some g→g.2.1.length≤i∧∃m,m < i∧g.1=key m:=by
 induction h with
 |zero=>intro j g hg;simp at hg
 |succ h k ih=>
  rename_i i b gs gs'
  intro j g hg
  cases k with
  |old q xs b2 h1 hn=>
   rw [List.getElem?_set] at hg
   split at hg
   ·split at hg
    ·cases hg
     have:=(ih q _ h1).1
     exact ⟨by simpa using this,i,Nat.lt_succ_self i,rfl⟩
    ·cases hg
   ·obtain ⟨a,m,b,c⟩:=ih j g hg
    exact ⟨by omega,m,by omega,c⟩
  |new hn=>
   rcases Nat.lt_trichotomy j gs.length with hj|hj|hj
   ·rw [List.getElem?_append_left hj] at hg
    obtain ⟨a,m,b,c⟩:=ih j g hg
    exact ⟨by omega,m,by omega,c⟩
   ·subst hj
    rw [List.getElem?_concat_length] at hg
    cases hg
    exact ⟨by simp,i,Nat.lt_succ_self i,rfl⟩
   ·rw [List.getElem?_eq_none (by simp;omega)] at hg
    cases hg
structure Gat (P:Program) (A B C D:Array Oper) (tc tm tq t0 t1 t2 t3:Nat) (x0:Nat) (T TA TB TC TD:Nat→List Dv) (HB:Nat→List Ent) (H1:List Ent) (keep:List Nat) (n s:Nat) (e:TypeId) (key elt:Nat→Pl):Prop where
 ha:∀i,i≤n→∃hs K,evOps P A A.toList (T i) H1 hs=some (K,TA i,H1,[])∧AllP K
 hc:∀i,i≤n→argD P (TA i) 0 (.tmp tc)=.p (.bool (decide (i < n)))
 hb:∀i,i < n→∃hs K,evOps P B B.toList (TA i) H1 hs=some (K,TB i,HB i,[])∧AllP K
 hc1:∀i,i < n→∃hs K,evOps P C ((C.toList.take 5).drop 1) ((TB i).set tq .junk) (HB i) hs=some (K,TC i,HB i,[])∧AllP K
 hd:∀i,i < n→∃hs K,evOps P D D.toList (((((TC i).set t0 .junk).set t1 .junk).set t2 .junk).set t3 .junk) (HB i) hs=some (K,TD i,HB i,[])∧AllP K
 drop:∀i,i < n→subEnts (HB i) (List.range H1.length) (List.range H1.length)=some H1∧Dv.rns (toIds (List.range H1.length)) (maskFrom keep 0 (TD i))=some (T (i+1))
 nw:∀x,x∈A.toList∨x∈B.toList∨x∈(C.toList.take 5).drop 1∨x∈D.toList→x.dst≠some tm
 nq:∀x,x∈(C.toList.take 5).drop 1→x.dst≠some tq
 mv:∃o0,C[0]? =some o0∧o0.guard=none∧o0.op=.move (.tmp tm)∧o0.dst=some tq
 lenB:∀i,i < n→tq < (TB i).length
 size:C.size=10
 len:∀i,i < n→t0 < (TC i).length∧t1 < (TC i).length∧t2 < (TC i).length∧t3 < (TC i).length
 ops:∃o1 o2 o3 o4 o5 t tt u t5 kt et k y c s0 i,C[5]? =some o1∧C[6]? =some o2∧C[7]? =some o3∧C[8]? =some o4∧C[9]? =some o5∧o1.guard=none∧o2.guard=none∧o3.guard=none∧o4.guard=none∧o5.guard=none∧
  o1.op=.mapEntry t (.tmp tq) k∧o1.dst=some t0∧o2.op=.extract (.tmp t0) 0∧o2.dst=some t1∧o3.op=.call c∧c.callee=.builtin .append∧c.args.toList=[.tmp t1,y]∧c.argTypes.toList=[tt,u]∧o3.dst=some t2∧
  o4.op=.extract (.tmp t0) 1∧o4.dst=some t3∧o5.op=.entryStore t5 (.tmp tq) (.tmp t3) (.tmp t2)∧o5.dst=none∧P.underlying t=some (.map kt et)∧keyTy P kt=true∧hasZero P et=true∧zeroD P et=.p (.sl (some false) s0 [])∧
  P.underlying tt=some (.slice e)∧P.info? e=some i∧zOk i=true∧i.size≠0∧i.size=s∧n*i.bytes≤bytesBound∧n≤maxLen∧(∀j,j < n→argD P (TC j) kt k=.p (key j))∧(∀j,j < n→fitP P 20 kt (key j))∧
  ∀j,j < n→srcOf P (P.cellsOf e) u (argD P (((TC j).set t0 .junk).set t1 .junk) u y)=some [elt j]
 ne:t0≠t1∧t0≠t2∧t2≠t3∧tm≠t0∧tm≠t1∧tm≠t2∧tm≠t3∧tq≠t0∧tq≠t1∧tq≠t2∧tq≠t3∧tm≠tq
def Qr (rA rB rC rD x0 x1:Nat) (A B C D:Array Oper) (tc:Nat):Code:=
 .seq (.region rA A false) (.seq (.cond (.tmp tc) .skip (.exit x0)) (.seq (.block x1 (.seq (.region rB B false) (.region rC C false))) (.region rD D false)))
theorem Zr0 {P:Program} {A B C D:Array Oper} {tc tm tq t0 t1 t2 t3 x0:Nat} {T TA TB TC TD:Nat→List Dv} {HB:Nat→List Ent} {H1:List Ent} {keep:List Nat} {n s:Nat} {e:TypeId} {key elt:Nat→Pl}
 (G:Gat P A B C D tc tm tq t0 t1 t2 t3 x0 T TA TB TC TD HB H1 keep n s e key elt) (rA rB rC rD x1:Nat) {N b0 i:Nat} (hi:i < n) {gs:List (Pl×List Pl×Nat)} {es:Array MapEntry} {clock:Nat} {σ:Sg} {a:Act} (hgs:GS key elt i gs) (ok:Ok σ) (hH:σ.H=H1) (hrep:RepT σ (T i) a)
 (hmr:MR N b0 s e σ gs es clock) (hraw:a.eval (.tmp tm)=.map (some b0)):
 (Qr rA rB rC rD x0 x1 A B C D tc).wp P (fun ex a' w'=>ex=.normal∧∃σ' gs' es' clock',σ'.w=w'∧σ'.H=H1∧Md N b0 σ σ'∧Ok σ'∧RepT σ' (T (i+1)) a'∧GS key elt (i+1) gs'∧MR N b0 s e σ' gs' es' clock'∧a'.eval (.tmp tm)=.map (some b0)) a σ.w:=by
 obtain ⟨hsA,KA,eA,cA⟩:=G.ha i (Nat.le_of_lt hi)
 obtain ⟨hsB,KB,eB,cB⟩:=G.hb i hi
 obtain ⟨hsC,KC,eC,cC⟩:=G.hc1 i hi
 obtain ⟨hsD,KD,eD,cD⟩:=G.hd i hi
 obtain ⟨hsub,hrns⟩:=G.drop i hi
 obtain ⟨o1,o2,o3,o4,o5,t,tt,u,t5,kt,et,k,y,c,s0,inf,g1,g2,g3,g4,g5,n1,n2,n3,n4,n5,h1,d1,h2,d2,h3,hc,ha,hty,d3,h4,d4,h5,d5,hu,hkt,hzt,hzd,htt,hif,hz,hne,hs,hb1,hb2,hk,hfit,hsrc⟩:=G.ops
 obtain ⟨q01,q02,q23,m0,m1,m2,m3,z0,z1,z2,z3,zq⟩:=G.ne
 obtain ⟨o0,mv1,mv2,mv3,mv4⟩:=G.mv
 obtain ⟨l0,l1,l2,l3⟩:=G.len i hi
 unfold Qr
 rw [←hH] at eA
 refine wp_seq (Zdk (t:=tm) (fun x hx=>G.nw x (.inl hx)) ok hrep eA cA fun a1 σ1 k1 f1 to1 ok1 r1=> ?_)
 show (Code.seq (.cond (.tmp tc) .skip (.exit x0)) _).wp P _ a1 σ1.w
 have hcond:=Zl (P:=P) r1 0 (.tmp tc)
 rw [G.hc i (Nat.le_of_lt hi),decide_eq_true hi] at hcond
 refine wp_seq (wp_cond_true (Z0 hcond) (wp_skip ?_))
 show (Code.seq (.block x1 _) _).wp P _ a1 σ1.w
 refine wp_seq (wp_block ?_)
 rw [←f1.trans hH] at eB
 refine wp_seq (Zdk (t:=tm) (fun x hx=>G.nw x (.inr (.inl hx))) ok1 r1 eB cB fun a2 σ2 k2 f2 to2 ok2 r2=> ?_)
 show (Code.region rC C false).wp P _ a2 σ2.w
 refine wp_region ?_
 have hrange:List.range C.size=0::(List.range' 1 ((C.toList.take 5).drop 1).length++[5,6,7,8,9]):=by
  rw [G.size,show ((C.toList.take 5).drop 1).length=4 by rw [List.length_drop,List.length_take,Array.length_toList,G.size];rfl]
  rfl
 rw [hrange]
 rw [←f2] at eC
 have hrawm:a2.eval (.tmp tm)=.map (some b0):=by rw [k2,k1];exact hraw
 have xmv:(execOp a2.eval o0).run P σ2.w=.ok (.value (.map (some b0))) σ2.w:=by
  simp [execOp,mv3,hrawm]
 refine XT mv1 mv2 xmv ?_
 rw [mv4]
 have r2q:RepT σ2 ((TB i).set tq .junk) (a2.put (some tq) (.map (some b0))):=Vh r2
 have hq:(a2.put (some tq) (.map (some b0))).eval (.tmp tq)=.map (some b0):=Qm (by rw [r2.size];exact G.lenB i hi)
 have hqm:(a2.put (some tq) (.map (some b0))).eval (.tmp tm)=.map (some b0):=by rw [ZZ zq];exact hrawm
 generalize a2.put (some tq) (.map (some b0))=a2 at r2q hq hqm ⊢
 refine Zjl (P:=P) _ _ _ 1 _ σ2 a2 hsC [] KC _ (fun j x hx=> ?_) ok2 r2q eC cC fun a3 σ3 k3 f3 to3 ok3 r3=> ?_
 ·rw [List.getElem?_drop,List.getElem?_take] at hx
  split at hx
  ·simpa [Nat.add_comm] using hx
  ·cases hx
 have to13:To σ σ3:=(to1.trans to2).trans to3
 have hmr3:=hmr.to to13
 have hraw3:a3.eval (.tmp tq)=.map (some b0):=by rw [k3 tq G.nq];exact hq
 have hraw3m:a3.eval (.tmp tm)=.map (some b0):=by rw [k3 tm fun x hx=>G.nw x (.inr (.inr (.inl hx)))];exact hqm
 have hle:∀(m:Nat),m≤n→m*inf.bytes≤bytesBound∧m≤maxLen:=fun m hm=>⟨Nat.le_trans (Nat.mul_le_mul_right _ hm) hb1,Nat.le_trans hm hb2⟩
 refine ZxJ (P:=P) (ts:=TC i) g1 g2 g3 g4 g5 n1 n2 n3 n4 n5 h1 d1 h2 d2 h3 hc ha hty d3 h4 d4 h5 d5 q01 q02 q23 z0 z1 z2 z3 l0 l1 l2 l3 ok3 r3 hmr3 hraw3 hu (hk i hi) hkt (hfit i hi) (fun j g hg=> ?_) hzt hzd htt hif hz hne hs (hsrc i hi) (fun j g hg=> ?_) ?_ ?_
 ·obtain ⟨_,m,hm,e⟩:=hgs.bound j g hg
  rw [e]
  exact hfit m (by omega)
 ·have:=(hgs.bound j g hg).1
  exact hle _ (by omega)
 ·exact (hle 1 (by omega)).1
 intro a4 σ4 gs' es' clock' b' hput hmr4 f4 fm md ok4 r4 kept
 have hraw4:a4.eval (.tmp tm)=.map (some b0):=(kept tm m0 m1 m2 m3).trans hraw3m
 show (Code.region rD D false).wp P _ a4 σ4.w
 have h4B:σ4.H=HB i:=f4.trans (f3.trans f2)
 rw [←h4B] at eD
 refine Zdk (t:=tm) (fun x hx=>G.nw x (.inr (.inr (.inr hx)))) ok4 r4 eD cD fun a5 σ5 k5 f5 to5 ok5 r5=> ?_
 have hHB:σ5.H=HB i:=f5.trans h4B
 have hN:N≤σ.w.heap.size:=hmr.ge
 have md5:Md N b0 σ σ5:=((Md.of_to to13 hN).trans md).trans (Md.of_to to5 hmr4.ge)
 have hlen:σ.m.length≤σ5.m.length:=by
  have h1:=to13.len
  have h2:=to5.len
  rw [fm] at h2
  exact Nat.le_trans h1 h2
 subst hH
 rw [←hHB] at hsub
 have hpart:=ZBl ok md5 hlen hN hsub
 refine ⟨rfl,Zd8 σ5 (List.range σ.H.length) σ.H,gs',es',clock',rfl,rfl,hpart,Zm0 ok5 (ZtK _) hsub,Zj2 (ZbB hsub) hrns (Qg keep r5),.succ hgs hput,(hmr4.to to5).part hsub,by rw [k5];exact hraw4⟩
theorem ZiC {P:Program} {A B C D:Array Oper} {tc tm tq t0 t1 t2 t3 x0:Nat} {T TA TB TC TD:Nat→List Dv} {HB:Nat→List Ent} {H1:List Ent} {keep:List Nat} {n s:Nat} {e:TypeId} {key elt:Nat→Pl}
 (G:Gat P A B C D tc tm tq t0 t1 t2 t3 x0 T TA TB TC TD HB H1 keep n s e key elt) (rA rB rC rD x1:Nat) {N b0:Nat}:∀(m i:Nat),i+m=n→∀{gs:List (Pl×List Pl×Nat)} {es:Array MapEntry} {clock:Nat} {σ:Sg} {a:Act},GS key elt i gs→Ok σ→σ.H=H1→RepT σ (T i) a→
 MR N b0 s e σ gs es clock→a.eval (.tmp tm)=.map (some b0)→∀(b:Frame) (k:List Item) (cs:List Frame),
 ∃ex a' w',(ex=Exit.exit x0∧∃σ' gs' es' clock',σ'.w=w'∧σ'.H=H1∧Md N b0 σ σ'∧Ok σ'∧RepT σ' (TA n) a'∧GS key elt n gs'∧MR N b0 s e σ' gs' es' clock'∧a'.eval (.tmp tm)=.map (some b0))∧
  Arrives P (lone (b.at a (.code (Qr rA rB rC rD x0 x1 A B C D tc)::.inLoop (Qr rA rB rC rD x0 x1 A B C D tc)::k)) cs σ.w) b k cs ex a' w'
 |0,i,him,gs,es,clock,σ,a,hgs,ok,hH,hrep,hmr,hraw,b,k,cs=>by
  have hin:i=n:=by omega
  subst hin
  obtain ⟨hsA,KA,eA,cA⟩:=G.ha i (Nat.le_refl i)
  rw [←hH] at eA
  have hbody:(Qr rA rB rC rD x0 x1 A B C D tc).wp P (fun ex a' w'=>ex=Exit.exit x0∧∃σ' gs' es' clock',σ'.w=w'∧σ'.H=H1∧Md N b0 σ σ'∧Ok σ'∧RepT σ' (TA i) a'∧GS key elt i gs'∧MR N b0 s e σ' gs' es' clock'∧a'.eval (.tmp tm)=.map (some b0)) a σ.w:=by
   unfold Qr
   refine wp_seq (Zdk (t:=tm) (fun x hx=>G.nw x (.inl hx)) ok hrep eA cA fun a1 σ1 k1 f1 to1 ok1 r1=> ?_)
   show (Code.seq (.cond (.tmp tc) .skip (.exit x0)) _).wp P _ a1 σ1.w
   have hcond:=Zl (P:=P) r1 0 (.tmp tc)
   rw [G.hc i (Nat.le_refl i),decide_eq_false (Nat.lt_irrefl i)] at hcond
   refine wp_seq (wp_cond_false (Z0 hcond) (wp_exit ?_))
   exact ⟨rfl,σ1,gs,es,clock,rfl,f1.trans hH,Md.of_to to1 hmr.ge,ok1,r1,hgs,hmr.to to1,by rw [k1];exact hraw⟩
  obtain ⟨ex,a1,w1,⟨rfl,hq⟩,harr⟩:=hbody b (.inLoop (Qr rA rB rC rD x0 x1 A B C D tc)::k) cs
  exact ⟨_,a1,w1,⟨rfl,hq⟩,.pass (x:=.inLoop (Qr rA rB rC rD x0 x1 A B C D tc)) rfl (fun _ _=>.inl (by simp)) harr⟩
 |m+1,i,him,gs,es,clock,σ,a,hgs,ok,hH,hrep,hmr,hraw,b,k,cs=>by
  obtain ⟨ex,a1,w1,⟨rfl,σ1,gs1,es1,clock1,rfl,f1,md1,ok1,r1,hgs1,hmr1,hraw1⟩,harr⟩:=Zr0 G rA rB rC rD x1 (by omega:i < n) hgs ok hH hrep hmr hraw b (.inLoop (Qr rA rB rC rD x0 x1 A B C D tc)::k) cs
  obtain ⟨ex,a2,w2,⟨rfl,σ2,gs2,es2,clock2,rfl,f2,md2,ok2,r2,hgs2,hmr2,hraw2⟩,harr2⟩:=ZiC G rA rB rC rD x1 m (i+1) (by omega) hgs1 ok1 f1 r1 hmr1 hraw1 b k cs
  exact ⟨_,a2,_,⟨rfl,σ2,gs2,es2,clock2,rfl,f2,md1.trans md2,ok2,r2,hgs2,hmr2,hraw2⟩,.of_steps (Steps.trans harr (.one step_inLoop)) harr2⟩
def ZiD (id:Nat) (j:Nat):Option Nat:=if j=id then none else some j
theorem ZtL {σ:Sg} {ts:List Dv} {a:Act} (h:RepT σ ts a) {t:Nat} {d:Dv} (hd:repDV σ d (a.tmps.getD t undef)):RepT σ (ts.set t d) a:=by
 refine ⟨by rw [List.length_set];exact h.size,fun i x hx=> ?_,h.defers⟩
 rw [List.getElem?_set] at hx
 split at hx
 ·rename_i he
  subst he
  split at hx
  ·cases hx
   exact hd
  ·cases hx
 ·exact h.at_ i x hx
theorem ZzF {w:World} {b o:Nat} {es:Array MapEntry} {clock:Nat} {v:Value} (h:w.heap[b]? =some (.map es clock)) (hc:w.cell? ⟨b,o,none⟩=some v):False:=by
 simp [World.cell?,h] at hc
theorem ZtM {P:Program} {A B C D:Array Oper} {tc tm tq t0 t1 t2 t3 x0:Nat} {T TA TB TC TD:Nat→List Dv} {HB:Nat→List Ent} {H1:List Ent} {keep:List Nat} {n s:Nat} {e:TypeId} {key elt:Nat→Pl}
 (G:Gat P A B C D tc tm tq t0 t1 t2 t3 x0 T TA TB TC TD HB H1 keep n s e key elt) (rA rB rC rD x1:Nat) {id:Nat} {tid:TypeId} {ts0:List Dv} {H0:List Ent} (keepE:List Nat) {KV:List (Pl×List Pl)} (hdet:∀gs,GS key elt n gs→gs.map (fun g=>(g.1,g.2.1))=KV)
 (hid:H0[id]? =some (.map tid [])) (htm:ts0[tm]? =some (.mp id)) (h1:H1=H0.set id .gone) (hT:Dv.rns (ZiD id) (ts0.set tm .junk)=some (T 0)) (hent:∀(j:Nat) x,j≠id→H0[j]? =some x→x.rn (ZiD id)=some x):
 Xm P (.loop (Qr rA rB rC rD x0 x1 A B C D tc)) ts0 H0 (.exit x0) ((maskFrom keepE 0 (TA n)).set tm (.mp id)) (H0.set id (.map tid (KV.map fun q=>(q.1,.sl none s q.2)))):=by
 intro σ a ok hH hrep b k cs
 subst hH
 have hmv:=hrep.at_ tm _ htm
 obtain ⟨b0,hmb,hmv⟩:=Zi9 hmv
 have hraw:a.eval (.tmp tm)=.map (some b0):=hmv
 obtain ⟨b',es,clock,e1,hbk,hkr⟩:=ok.ent id _ _ hid hmb
 cases e1
 have hes:es.size=0:=by
  have:=ZhR _ _ hkr
  simpa using this
 have hidl:id < σ.m.length:=(List.getElem?_eq_some_iff.1 hmb).1
 have hidH:id < σ.H.length:=(List.getElem?_eq_some_iff.1 hid).1
 have hb0lt:=Zko hbk
 let σ1:Sg:={ F:=fun b o=>σ.F b o∧b < σ.w.heap.size,B:=σ.B,m:=σ.m.set id none,H:=H1,w:=σ.w}
 have m1:∀j,j≠id→σ1.m[j]? =σ.m[j]? :=fun j hj=>getElem?_set_ne' (Ne.symm hj)
 have m1i:σ1.m[id]? =some none:=getElem?_set_eq' hmb
 have H1e:∀j,j≠id→σ1.H[j]? =σ.H[j]? :=fun j hj=>by
  show H1[j]? =_
  rw [h1]
  exact getElem?_set_ne' (Ne.symm hj)
 have H1i:σ1.H[id]? =some .gone:=by
  show H1[id]? =_
  rw [h1]
  exact getElem?_set_eq' hid
 have stab1:∀(b o:Nat) (v:Value),σ.w.cell? ⟨b,o,none⟩=some v→σ.stab b o→σ1.stab b o:=fun b o v hc hs=>by
  refine ⟨hs.1.imp (fun h=>⟨h,YN hc⟩) (fun h=>h),fun j x hj hx=> ?_⟩
  by_cases hji:j=id
  ·subst hji
   rw [H1i] at hx
   cases hx
   trivial
  ·rw [m1 j hji] at hj
   rw [H1e j hji] at hx
   exact hs.2 j x hj hx
 have rn:Rn (ZiD id) σ σ1:=by
  refine ⟨rfl,stab1,fun j j' hj x hx=> ?_,fun j j' hj x hx=> ?_⟩
  ·unfold ZiD at hj
   split at hj
   ·cases hj
   ·cases hj
    rename_i hne
    rw [m1 j hne]
    exact hx
  ·unfold ZiD at hj
   split at hj
   ·cases hj
   ·cases hj
    rename_i hne
    exact ⟨x,by rw [H1e j hne];exact hx,hent j x hne hx⟩
 have ok1:Ok σ1:=by
  refine ⟨by show (σ.m.set id none).length=H1.length;rw [h1,List.length_set,List.length_set];exact ok.len,fun i j x hi hj=> ?_,fun i x hi=> ?_,fun i x y hx hy=> ?_,ok.new,fun i x hi=> ?_⟩
  ·have hii:i≠id:=fun q=>by subst q;rw [m1i] at hi;cases hi
   have hjj:j≠id:=fun q=>by subst q;rw [m1i] at hj;cases hj
   rw [m1 i hii] at hi
   rw [m1 j hjj] at hj
   exact ok.inj i j x hi hj
  ·have hii:i≠id:=fun q=>by subst q;rw [m1i] at hi;cases hi
   rw [m1 i hii] at hi
   exact ok.lt i x hi
  ·by_cases hii:i=id
   ·subst hii
    rw [H1i] at hx
    cases hx
    trivial
   ·rw [H1e i hii] at hx
    rw [m1 i hii] at hy
    exact ZjY rn (hent i x hii hx) (ok.ent i x y hx hy)
  ·have hii:i≠id:=fun q=>by subst q;rw [m1i] at hi;cases hi
   rw [m1 i hii] at hi
   exact ok.own i x hi
 have rep1:RepT σ1 (T 0) a:=Zj2 rn hT (ZtL hrep YG)
 have un1:∀j:Nat,σ1.m[j]? ≠some (some b0):=fun j hj=>by
  have hjj:j≠id:=fun q=>by subst q;rw [m1i] at hj;cases hj
  rw [m1 j hjj] at hj
  exact hjj (ok.inj j id b0 hj hmb)
 have mr1:MR σ.w.heap.size b0 s e σ1 [] es clock:=⟨Nat.le_refl _,fun b o h=>h.2,hbk,un1,hes,fun q g en h _=>by simp at h,fun q q' en en' h _ _=>by
  have:=(Array.getElem?_eq_some_iff.1 h).1
  omega,fun q q' g g' h _ _=>by simp at h⟩
 obtain ⟨ex,a2,w2,⟨rfl,σ2,gs,es2,clock2,rfl,f2,md,ok2,rep2,hgs,mr2,hraw2⟩,harr⟩:=ZiC G rA rB rC rD x1 n 0 (by omega) .zero ok1 rfl rep1 mr1 hraw b k cs
 have hKV:=hdet gs hgs
 have len2:σ2.m.length=σ.m.length:=by rw [ok2.len,f2,h1,List.length_set,ok.len]
 let σf:Sg:={ F:=σ.F,B:=σ.B,m:=σ2.m.set id (some b0),H:=σ.H.set id (.map tid (KV.map fun q=>(q.1,.sl none s q.2))),w:=σ2.w}
 have mfe:∀j,j≠id→σf.m[j]? =σ2.m[j]? :=fun j hj=>getElem?_set_ne' (Ne.symm hj)
 have mfi:σf.m[id]? =some (some b0):=by
  show (σ2.m.set id (some b0))[id]? =_
  rw [List.getElem?_set_self (by rw [len2];exact hidl)]
 have Hfe:∀j,j≠id→σf.H[j]? =σ2.H[j]? :=fun j hj=>by
  show (σ.H.set id _)[j]? =_
  rw [getElem?_set_ne' (Ne.symm hj),f2]
  exact (H1e j hj).symm
 have Hfi:σf.H[id]? =some (.map tid (KV.map fun q=>(q.1,.sl none s q.2))):=getElem?_set_eq' hid
 have H2i:σ2.H[id]? =some .gone:=by rw [f2];exact H1i
 have leafF:Leaf σ2 σf:=by
  refine ⟨fun x o v hc hs=>⟨hc, ?_,fun j y hj hy=> ?_⟩,fun j x hj hx=> ?_,fun j s' len A' c h=> ?_,fun j x hj hx=> ?_,fun j v s' st e' d h=> ?_⟩
  ·exact hs.1.imp (fun h=>(md.F _ _ h).1) (fun h=>md.B _ h)
  ·by_cases hji:j=id
   ·subst hji
    rw [mfi] at hj
    cases hj
    exact (ZzF mr2.heap hc).elim
   ·rw [mfe j hji] at hj
    rw [Hfe j hji] at hy
    exact hs.2 j y hj hy
  ·have hji:j≠id:=fun q=>by subst q;obtain ⟨d,st,hx⟩:=hx;rw [H2i] at hx;cases hx
   rw [mfe j hji,Hfe j hji]
   exact ⟨hj,hx⟩
  ·obtain ⟨e',ys,h2,h3⟩:=h
   have hji:j≠id:=fun q=>by subst q;rw [H2i] at h2;cases h2
   exact ⟨e',ys,by rw [Hfe j hji];exact h2,by rw [mfe j hji];exact h3⟩
  ·have hji:j≠id:=fun q=>by subst q;obtain ⟨d,st,hx⟩:=hx;rw [H2i] at hx;cases hx
   rw [mfe j hji,Hfe j hji]
   exact ⟨hj,hx⟩
  ·have hji:j≠id:=fun q=>by subst q;rw [H2i] at h;cases h
   exact ⟨v,st,d,by rw [Hfe j hji];exact h,Nat.le_refl _,fun _=>⟨mfe j hji,fun b cur _ hc=>⟨cur,hc,rfl⟩⟩⟩
 have un2:∀x:Nat,x≠b0→(∀j:Nat,σ2.m[j]? ≠some (some x))→∀j:Nat,σf.m[j]? ≠some (some x):=fun x hx hu j hj=>by
  by_cases hji:j=id
  ·subst hji
   rw [mfi] at hj
   cases hj
   exact hx rfl
  ·rw [mfe j hji] at hj
   exact hu j hj
 have hkv:Qa σf (KV.map fun q=>(q.1,.sl none s q.2)) es2.toList:=by
  rw [←hKV,List.map_map]
  have key:∀(l:List (Pl×List Pl×Nat)) (el:List MapEntry),l.length=el.length→(∀(q:Nat) g en,l[q]? =some g→el[q]? =some en→repDV σf (.p g.1) en.key∧repDV σf (.p (.sl none s g.2.1)) en.val)→Qa σf (l.map ((fun q=>(q.1,.sl none s q.2)) ∘ fun g=>(g.1,g.2.1))) el:=by
   intro l
   induction l with
   |nil=>intro el hl _;cases el with
    |nil=>trivial
    |cons _ _=>simp at hl
   |cons g l ih=>intro el hl h;cases el with
    |nil=>simp at hl
    |cons en el=>
     obtain ⟨z1,z2⟩:=h 0 g en rfl rfl
     exact ⟨z1,z2,ih el (by simpa using hl) fun q g' en' y1 y2=>h (q+1) g' en' (by simpa using y1) (by simpa using y2)⟩
  refine key gs es2.toList (by rw [Array.length_toList];exact mr2.len.symm) fun q g en hg he=> ?_
  obtain ⟨z1,⟨c,cur,rfl_,y2,y3,y4,y5,y6,y7⟩,z3,z4,z5⟩:=mr2.ent q g en hg (by rw [←Array.getElem?_toList];exact he)
  refine ⟨YF leafF z1, ?_⟩
  rw [rfl_]
  refine Z4 y6 y4 y5 (ZL _) (fun h=>by cases h) fun _=>⟨_,_,_,rfl,repCs_mono leafF.cells _ _ y7, ?_⟩
  refine Zae y2 (fun o _=>⟨.inr (ok.new _ z5),fun j y hj _=>absurd hj (un2 _ z4.ne z4.un j)⟩) ?_
  rw [List.length_take,Array.length_toList,Nat.min_eq_left (by rw [y3];exact Nat.mul_le_mul_right _ y4)]
 have okf:Ok σf:=by
  refine ⟨by show (σ2.m.set id (some b0)).length=(σ.H.set id _).length;rw [List.length_set,List.length_set,len2];exact ok.len,fun i j x hi hj=> ?_,fun i x hi=> ?_,fun i x y hx hy=> ?_,fun x hx=>ok.new x (Nat.le_trans md.size hx),fun i x hi=> ?_⟩
  ·by_cases hii:i=id
   ·subst hii
    rw [mfi] at hi
    cases hi
    by_cases hjj:j=i
    ·exact hjj.symm
    ·rw [mfe j hjj] at hj
     exact absurd hj (mr2.un j)
   ·rw [mfe i hii] at hi
    by_cases hjj:j=id
    ·subst hjj
     rw [mfi] at hj
     cases hj
     exact absurd hi (mr2.un i)
    ·rw [mfe j hjj] at hj
     exact ok2.inj i j x hi hj
  ·by_cases hii:i=id
   ·subst hii
    rw [mfi] at hi
    cases hi
    exact Nat.lt_of_lt_of_le hb0lt md.size
   ·rw [mfe i hii] at hi
    exact ok2.lt i x hi
  ·by_cases hii:i=id
   ·subst hii
    rw [Hfi] at hx
    rw [mfi] at hy
    cases hx
    cases hy
    exact ⟨b0,es2,clock2,rfl,mr2.heap,hkv⟩
   ·rw [Hfe i hii] at hx
    rw [mfe i hii] at hy
    exact WP leafF (fun b _=>rfl) (ok2.ent i x y hx hy)
  ·by_cases hii:i=id
   ·subst hii
    rw [mfi] at hi
    cases hi
    exact ok.own _ _ hmb
   ·rw [mfe i hii] at hi
    exact md.B _ (ok2.own i x hi)
 have leaf0:Leaf σ σf:=by
  refine ⟨fun x o v hc hs=> ?_,fun j x hj hx=> ?_,fun j s' len A' c h=> ?_,fun j x hj hx=> ?_,fun j v s' st e' d h=> ?_⟩
  ·obtain ⟨h3,h4⟩:=md.leaf.cells x o v hc (stab1 x o v hc hs)
   exact leafF.cells x o v h3 h4
  ·have hji:j≠id:=fun q=>by subst q;obtain ⟨d,st,hx⟩:=hx;rw [hid] at hx;cases hx
   obtain ⟨h3,h4⟩:=md.leaf.var j x (by rw [m1 j hji];exact hj) (by rw [H1e j hji];exact hx)
   exact leafF.var j x h3 h4
  ·have hji:j≠id:=fun q=>by subst q;obtain ⟨e',ys,h2,_⟩:=h;rw [hid] at h2;cases h2
   refine leafF.front j s' len A' c (md.leaf.front j s' len A' c ?_)
   obtain ⟨e',ys,h2,h3⟩:=h
   exact ⟨e',ys,by rw [H1e j hji];exact h2,by rw [m1 j hji];exact h3⟩
  ·by_cases hji:j=id
   ·subst hji
    rw [hmb] at hj
    cases hj
    exact ⟨mfi,_,_,Hfi⟩
   ·obtain ⟨h3,h4⟩:=md.leaf.map j x (by rw [m1 j hji];exact hj) (by rw [H1e j hji];exact hx)
    exact leafF.map j x h3 h4
  ·have hji:j≠id:=fun q=>by subst q;rw [hid] at h;cases h
   obtain ⟨v1,st1,d1,h3,h4,h5⟩:=md.leaf.row j v s' st e' d (by rw [H1e j hji];exact h)
   obtain ⟨v2,st2,d2,h6,h7,h8⟩:=leafF.row j v1 s' st1 e' d1 h3
   refine ⟨v2,st2,d2,h6,Nat.le_trans h4 h7,fun hv=> ?_⟩
   have q1:v1=v:=by omega
   have q2:v2=v1:=by omega
   obtain ⟨p1,p2⟩:=h5 q1
   obtain ⟨p3,p4⟩:=h8 q2
   refine ⟨p3.trans (p1.trans (m1 j hji)),fun b cur hb hc=> ?_⟩
   obtain ⟨cur1,c1,c2⟩:=p2 b cur (by rw [m1 j hji];exact hb) hc
   obtain ⟨cur2,c3,c4⟩:=p4 b cur1 (by rw [p1,m1 j hji];exact hb) c1
   exact ⟨cur2,c3,by rw [c4,c2]⟩
 have to0:To σ σf:=by
  refine ⟨leaf0,rfl,rfl,md.os,md.tape,md.output,md.size,fun x hx hu=> ?_,fun j x hj=> ?_,by show σ.m.length≤(σ2.m.set id _).length;rw [List.length_set,len2];exact Nat.le_refl _⟩
  ·refine md.block x hx (fun q=> ?_) (fun j hj=> ?_)
   ·subst q
    exact hu id hmb
   ·have hji:j≠id:=fun q=>by subst q;rw [m1i] at hj;cases hj
    rw [m1 j hji] at hj
    exact hu j hj
  ·by_cases hji:j=id
   ·subst hji
    rw [mfi] at hj
    cases hj
    exact .inl hmb
   ·rw [mfe j hji] at hj
    rcases md.same j x hj with h|h
    ·rw [m1 j hji] at h
     exact .inl h
    ·exact .inr h
 refine ⟨_,a2,_,⟨rfl,σf,rfl,rfl,to0,okf,ZtL ((Qg keepE rep2).to leafF) ?_⟩,.of_steps (.one step_loop) harr⟩
 have:a2.tmps.getD tm undef=.map (some b0):=hraw2
 rw [this,Zg rfl]
 simp only [repD]
 exact ⟨b0,mfi,⟨_,_,Hfi⟩,rfl⟩
end Go.Ev
end
section
namespace Go.Ev
def ZBm {K V:Type} [DecidableEq K] (kf:V→K) (m:List (K×List V)) (p:V):List (K×List V):=Zjb m (kf p) ((Zd9 m (kf p)).getD []++[p])
def Zei {K V:Type} [DecidableEq K] (kf:V→K) (l:List V):List (K×List V):=l.foldl (ZBm kf) []
theorem ZxK {K V:Type} [DecidableEq K] (kf:V→K) (l:List V) (p:V):Zei kf (l++[p])=ZBm kf (Zei kf l) p:=by unfold Zei;rw [List.foldl_append];rfl
def Zib {K V:Type} (ek:K→Pl) (ev:V→Pl) (m:List (K×List V)):List (Pl×List Pl):=m.map fun q=>(ek q.1,q.2.map ev)
theorem Zwq {K V:Type} [DecidableEq K] {ek:K→Pl} {ev:V→Pl} (hi:∀x y,ek x=ek y↔x=y) (k:K) (p:V):∀(m:List (K×List V)) (gs:List (Pl×List Pl×Nat)) (q:Nat) (xs:List Pl) (b b':Nat),gs.map (fun g=>(g.1,g.2.1))=Zib ek ev m→
 gs[q]? =some (ek k,xs,b)→(∀j g,j < q→gs[j]? =some g→g.1≠ek k)→(gs.set q (ek k,xs++[ev p],b')).map (fun g=>(g.1,g.2.1))=Zib ek ev (Zjb m k ((Zd9 m k).getD []++[p]))
 |[],gs,q,xs,b,b',h,h1,h2=>by
  have:gs=[]:=by simpa [Zib] using h
  subst this
  simp at h1
 |x::m,[],q,xs,b,b',h,h1,h2=>by simp at h1
 |x::m,g::gs,q,xs,b,b',h,h1,h2=>by
  simp only [Zib,List.map_cons,List.cons.injEq,Prod.mk.injEq] at h
  obtain ⟨⟨e1,e2⟩,e3⟩:=h
  cases q with
  |zero=>
   have hg:g=(ek k,xs,b):=by simpa using h1
   subst hg
   have hk:k=x.1:=(hi _ _).1 e1
   have hxs:xs=x.2.map ev:=e2
   simp only [List.set_cons_zero,List.map_cons,Zjb,Zd9,if_pos hk,Zib,Option.getD_some,List.map_append,List.map_nil,hxs]
   congr 1
  |succ q=>
   have hne:k≠x.1:=fun hk=>h2 0 g (Nat.zero_lt_succ q) rfl (by rw [e1,hk])
   have ih:=Zwq hi k p m gs q xs b b' e3 (by simpa using h1) (fun j g' hj hg=>h2 (j+1) g' (Nat.succ_lt_succ hj) (by simpa using hg))
   simp only [List.set_cons_succ,List.map_cons,Zjb,Zd9,if_neg hne,Zib]
   rw [show (g.1,g.2.1)=(ek x.1,x.2.map ev) by rw [e1,e2]]
   congr 1
theorem Zwr {K V:Type} [DecidableEq K] {ek:K→Pl} {ev:V→Pl} (hi:∀x y,ek x=ek y↔x=y) (k:K) (p:V) (b':Nat):∀(m:List (K×List V)) (gs:List (Pl×List Pl×Nat)),gs.map (fun g=>(g.1,g.2.1))=Zib ek ev m→
 (∀(j:Nat) g,gs[j]? =some g→g.1≠ek k)→(gs++[(ek k,[ev p],b')]).map (fun g=>(g.1,g.2.1))=Zib ek ev (Zjb m k ((Zd9 m k).getD []++[p]))
 |[],gs,h,h2=>by
  have:gs=[]:=by simpa [Zib] using h
  subst this
  rfl
 |x::m,[],h,h2=>by simp [Zib] at h
 |x::m,g::gs,h,h2=>by
  simp only [Zib,List.map_cons,List.cons.injEq,Prod.mk.injEq] at h
  obtain ⟨⟨e1,e2⟩,e3⟩:=h
  have hne:k≠x.1:=fun hk=>h2 0 g rfl (by rw [e1,hk])
  have ih:=Zwr hi k p b' m gs e3 (fun j g' hg=>h2 (j+1) g' (by simpa using hg))
  simp only [List.cons_append,List.map_cons,Zjb,Zd9,if_neg hne,Zib]
  rw [show (g.1,g.2.1)=(ek x.1,x.2.map ev) by rw [e1,e2]]
  congr 1
theorem Zws {K V:Type} [DecidableEq K] {ek:K→Pl} {ev:V→Pl} (hi:∀x y,ek x=ek y↔x=y) (kf:V→K) (l:List V) {key elt:Nat→Pl} (hk:∀(i:Nat) p,l[i]? =some p→key i=ek (kf p)∧elt i=ev p):∀(n:Nat) (gs:List (Pl×List Pl×Nat)),n≤l.length→GS key elt n gs→
 gs.map (fun g=>(g.1,g.2.1))=Zib ek ev (Zei kf (l.take n))
 |0,gs,_,h=>by cases h;rfl
 |n+1,gs',hn,h=>by
  cases h with
  |succ h g=>
   rename_i b gs
   have ih:=Zws hi kf l hk n gs (by omega) h
   have hp:l[n]? =some l[n]:=List.getElem?_eq_getElem (by omega)
   obtain ⟨e1,e2⟩:=hk n _ hp
   rw [List.take_add_one,hp,Option.toList_some,ZxK]
   unfold ZBm
   rw [e1,e2] at g
   cases g with
   |old q xs b2 h1 hne=>exact Zwq hi _ _ _ _ q xs b2 b ih h1 hne
   |new hne=>exact Zwr hi _ _ b _ _ ih hne
section
variable {P:Program}
def Zkp (P:Program) (hi:HI) (ops:Array Oper) (l:List Oper) (a:List TD) (h:List TEnt):Option (List TD×List TEnt):=Ztq P hi { l:=[]} ops l a h fun a h _=>some (a,h)
theorem Zfa {hi:HI} {ops:Array Oper} {l:List Oper} {a a':List TD} {h h':List TEnt} (k:Zkp P hi ops l a h=some (a',h')):a'.length=a.length∧∃hs C,evOps P ops l (TD.ers (lk h) a) (erH h) hs=some (C,TD.ers (lk h') a',erH h',[])∧AllP C:=by
 obtain ⟨a1,h1,hs,C,k1,k2,k3,k4⟩:=Zh3 (okS (l:=[]) trivial) _ _ _ _ k
 cases k1
 have:=k4 []
 rw [List.append_nil] at this
 exact ⟨k2,hs,C,this,k3⟩
theorem Zwt {f:Nat→Option Nat}:∀{l l':List TEnt},TEnt.rns f l=some l'→∀(j:Nat) x,l[j]? =some x→∃y,l'[j]? =some y∧x.rn f=some y
 |[],_,_,j,x,hx=>by simp at hx
 |z::l,l',h,j,x,hx=>by
  simp only [TEnt.rns] at h
  split at h
  ·rename_i y ys h1 h2
   cases h
   cases j with
   |zero=>cases hx;exact ⟨y,rfl,h1⟩
   |succ j=>exact Zwt h2 j x (by simpa using hx)
  ·cases h
def Zvg {K V O:Type} (i0 nn:Int) (l:List V) (m:List (K×List V)) (b:Nat) (out:O):Option O:=if (decide (i0=0)&&decide (nn=(l.length:Int))&&m.isEmpty&&lenB l.length b)=true then some out else none
theorem ZxL {K V O:Type} {i0 nn:Int} {l:List V} {m:List (K×List V)} {b:Nat} {out o:O} (h:Zvg i0 nn l m b out=some o):i0=0∧nn=(l.length:Int)∧m=[]∧l.length*b≤bytesBound∧l.length≤maxLen∧o=out:=by
 unfold Zvg at h
 obtain ⟨h1,h2⟩:=Za h
 cases h2
 simp only [Bool.and_eq_true,decide_eq_true_eq,List.isEmpty_iff] at h1
 obtain ⟨⟨⟨h1,h2⟩,h3⟩,h4⟩:=h1
 exact ⟨h1,h2,h3,(WV h4).1,(WV h4).2,rfl⟩
theorem ZCQ {α:Type} {l:List α} {j:Nat} {p:α} (h:l[j]? =some p):idx l (j:Int)=some p:=by
 unfold idx
 rw [if_pos (Int.natCast_nonneg j),Int.toNat_natCast]
 exact h
theorem ZCR {α:Type} {l:List α} {j:Nat} {p:α} (h:l[j]? =some p):inB (j:Int) l.length=true:=by
 have:=(List.getElem?_eq_some_iff.1 h).1
 unfold inB
 simp only [Bool.and_eq_true,decide_eq_true_eq]
 omega
def gA:Code→Array Oper
 |.seq (.region _ A _) _=>A
 |_=> #[]
def gB:Code→Array Oper
 |.seq _ (.seq _ (.seq (.block _ (.seq (.region _ B _) _)) _))=>B
 |_=> #[]
def gC:Code→Array Oper
 |.seq _ (.seq _ (.seq (.block _ (.seq _ (.region _ C _))) _))=>C
 |_=> #[]
def gD:Code→Array Oper
 |.seq _ (.seq _ (.seq _ (.region _ D _)))=>D
 |_=> #[]
def ZgS (C:Array Oper) (j:Nat):Oper:=(C[j]?).getD default
def ZzG (o:Oper):Call:=match o.op with
 |.call c=>c
 |_=>default
def ZzH (P:Program) (e:TypeId):TypeInfo:=(P.info? e).getD default
theorem ZzI {N:Nat} {body:Code} {sl sl2:Slots} {es es2:List ESh} {I ty2:List Ty} {L:Ty.dens I→Option (Ty.dens ty2)} (rA rB rC rD x0 x1 tc tm tq ti t0 t1 t2 t3 id n0:Nat) (A B C D:Array Oper) (hbody:body=Qr rA rB rC rD x0 x1 A B C D tc)
 {K T:Ty} {tid e kt t tt u t5 et:TypeId} (hi:HI) (keep keepE:List Nat) (st:Ty.dens I→List TD×List TEnt) (lst:Ty.dens I→List T.den) (kf:T.den→K.den) (i0 nn:Ty.dens I→Int) (mp:Ty.dens I→List (K.den×List T.den)) (fin:Ty.dens I→Ty.dens ty2) (o1 o2 o3 o4 o5:Oper) (k y:Operand) (c:Call) (s0:Nat) (i:TypeInfo)
 (aA:Ty.dens I→Int→List TD) (aB aC aD:Ty.dens I→Int→T.den→List TD) (hB:Ty.dens I→Int→T.den→List TEnt)
 (hL:∀v,L v=@Zvg K.den T.den (Ty.dens ty2) (i0 v) (nn v) (lst v) (mp v) i.bytes (fin v))
 (h0:∀v,XY N sl es (ofD I v)=some (st v))
 (hX:∀v,XY N sl2 es2 (ofD ty2 (fin v))=some ((Zbm keepE 0 (aA v (nn v))).set tm (.mp id),(st v).2.set id (.map tid K (.sl T) (@Zei K.den T.den (Ty.deq K) kf (lst v)))))
 (f0:∀v,(st v).1[ti]? =some (.p (.v (.int .i64) (i0 v)))∧(st v).1[tm]? =some (.mp id)∧(st v).2[id]? =some (.map tid K (.sl T) (mp v))∧(st v).1.length=N∧(st v).2.length=n0)
 (f1:∀v,TD.rns (ZiD id) ((st v).1.set tm .junk)=some ((st v).1.set tm .junk)∧TEnt.rns (ZiD id) ((st v).2.set id .gone)=some ((st v).2.set id .gone))
 (fA:∀v z,Zkp P hi A A.toList (((st v).1.set tm .junk).set ti (.p (.v (.int .i64) z))) ((st v).2.set id .gone)=some (aA v z,(st v).2.set id .gone))
 (fc:∀v z,arT P (aA v z) 0 (.tmp tc)=some (.p (.v .bool (decide (z < nn v)))))
 (fB:∀v (j:Nat) p,(lst v)[j]? =some p→Zkp P hi B B.toList (aA v (j:Int)) ((st v).2.set id .gone)=some (aB v (j:Int) p,hB v (j:Int) p))
 (fC:∀v z p,Zkp P hi C ((C.toList.take 5).drop 1) ((aB v z p).set tq .junk) (hB v z p)=some (aC v z p,hB v z p))
 (fk:∀v z p,arT P (aC v z p) kt k=some (.p (.v K (kf p))))
 (fy:∀v z p,(arT P (((aC v z p).set t0 .junk).set t1 .junk) u y).bind (Zps (lk (hB v z p)) P T u)=some [p])
 (fD:∀v z p,Zkp P hi D D.toList (((((aC v z p).set t0 .junk).set t1 .junk).set t2 .junk).set t3 .junk) (hB v z p)=some (aD v z p,hB v z p))
 (fd:∀v z p,XS (hB v z p) (List.range n0) (List.range n0)=some ((st v).2.set id .gone)∧TD.rns (toIds (List.range n0)) (Zbm keep 0 (aD v z p))=some (((st v).1.set tm .junk).set ti (.p (.v (.int .i64) (wi (z+1))))))
 (nw:(A.toList++B.toList++(C.toList.take 5).drop 1++D.toList).all (fun x=>x.dst !=some tm)=true) (nq:((C.toList.take 5).drop 1).all (fun x=>x.dst !=some tq)=true) (mv:(ZgS C 0).guard=none∧(ZgS C 0).op=.move (.tmp tm)∧(ZgS C 0).dst=some tq) (size:C.size=10) (lt:tq < N∧t0 < N∧t1 < N∧t2 < N∧t3 < N)
 (g:C[5]? =some o1∧C[6]? =some o2∧C[7]? =some o3∧C[8]? =some o4∧C[9]? =some o5∧o1.guard=none∧o2.guard=none∧o3.guard=none∧o4.guard=none∧o5.guard=none∧
   o1.op=.mapEntry t (.tmp tq) k∧o1.dst=some t0∧o2.op=.extract (.tmp t0) 0∧o2.dst=some t1∧o3.op=.call c∧c.callee=.builtin .append∧c.args.toList=[.tmp t1,y]∧c.argTypes.toList=[tt,u]∧o3.dst=some t2∧
   o4.op=.extract (.tmp t0) 1∧o4.dst=some t3∧o5.op=.entryStore t5 (.tmp tq) (.tmp t3) (.tmp t2)∧o5.dst=none)
 (pt:P.underlying t=some (.map kt et)∧hasZero P et=true∧zeroD P et=.p (.sl (some false) s0 [])∧P.underlying tt=some (.slice e)∧P.info? e=some i) (pz:(zOk i&&(i.size !=0)&&decide (i.size=T.size))=true) (pk:ZgM P kt K=true)
 (ne:t0≠t1∧t0≠t2∧t2≠t3∧tm≠t0∧tm≠t1∧tm≠t2∧tm≠t3∧tq≠t0∧tq≠t1∧tq≠t2∧tq≠t3∧tm≠tq):Lp.Ok P N body ⟨sl,es,I,[⟨.exit x0,sl2,es2,ty2⟩],L⟩:=by
 intro v o hv s hs ex vs s' hsel hf
 letI:=Ty.deq K
 subst hbody
 obtain ⟨rfl,rfl⟩:=hsel
 have hv:L v=some o:=hv
 rw [hL v] at hv
 obtain ⟨e1,e2,e3,e4,e5,rfl⟩:=ZxL hv
 have hs:XY N sl es (ofD I v)=some s:=hs
 rw [h0 v] at hs
 cases hs
 have hf:XY N sl2 es2 (ofD ty2 (fin v))=some s':=hf
 rw [hX v] at hf
 cases hf
 obtain ⟨i1,i2,i3,i4,i5⟩:=f0 v
 obtain ⟨j1,j2⟩:=f1 v
 rw [e1] at i1
 rw [e3] at i3
 simp only [Bool.and_eq_true,bne_iff_ne,decide_eq_true_eq] at pz
 obtain ⟨⟨pz1,pz2⟩,pz3⟩:=pz
 obtain ⟨pt1,pt2,pt3,pt4,pt5⟩:=pt
 have hce:P.cellsOf e=T.size:=by rw [←pz3];simp [Program.cellsOf,pt5]
 let h1:List TEnt:=(st v).2.set id .gone
 have hlk:lk h1=lk (st v).2:=WF i3 rfl rfl
 have herH1:erH h1=(erH (st v).2).set id .gone:=YY hlk
 have hset:∀(L:Lk) (l:List TD) (j:Nat) (d:TD),TD.ers L (l.set j d)=(TD.ers L l).set j (d.er L):=fun L l j d=>by rw [Zx,Zx,List.map_set]
 let pp:Nat→Option T.den:=fun j=>(lst v)[j]?
 let T0:Nat→List Dv:=fun j=>TD.ers (lk h1) (((st v).1.set tm .junk).set ti (.p (.v (.int .i64) (j:Int))))
 let TA:Nat→List Dv:=fun j=>TD.ers (lk h1) (aA v (j:Int))
 let TB:Nat→List Dv:=fun j=>match pp j with
  |some p=>TD.ers (lk (hB v (j:Int) p)) (aB v (j:Int) p)
  |none=>[]
 let TC:Nat→List Dv:=fun j=>match pp j with
  |some p=>TD.ers (lk (hB v (j:Int) p)) (aC v (j:Int) p)
  |none=>[]
 let TD':Nat→List Dv:=fun j=>match pp j with
  |some p=>TD.ers (lk (hB v (j:Int) p)) (aD v (j:Int) p)
  |none=>[]
 let HB:Nat→List Ent:=fun j=>match pp j with
  |some p=>erH (hB v (j:Int) p)
  |none=>[]
 let key:Nat→Pl:=fun j=>match pp j with
  |some p=>K.enc (kf p)
  |none=>.ptr0
 let elt:Nat→Pl:=fun j=>match pp j with
  |some p=>T.enc p
  |none=>.ptr0
 have hpp:∀(j:Nat),j < (lst v).length→∃p,pp j=some p∧(lst v)[j]? =some p∧idx (lst v) (j:Int)=some p:=fun j hj=>by
  have:(lst v)[j]? =some (lst v)[j]:=List.getElem?_eq_getElem hj
  refine ⟨_,this,this, ?_⟩
  unfold idx
  rw [if_pos (Int.natCast_nonneg j),Int.toNat_natCast]
  exact this
 have hbit:∀(j:Nat),j≤(lst v).length→decide ((j:Int) < nn v)=decide (j < (lst v).length):=fun j _=>by
  rw [e2]
  exact decide_eq_decide.2 Int.ofNat_lt
 have hBl:∀(j:Nat) p,(lst v)[j]? =some p→Zkp P hi B B.toList (aA v (j:Int)) h1=some (aB v (j:Int) p,hB v (j:Int) p):=fun j p hp=>fB v j p hp
 have lenA:∀z,(aA v z).length=N:=fun z=>by
  rw [(Zfa (fA v z)).1,List.length_set,List.length_set,i4]
 have lenB:∀(j:Nat) p,(lst v)[j]? =some p→(aB v (j:Int) p).length=N:=fun j p hp=>by
  rw [(Zfa (hBl j p hp)).1,lenA]
 have lenC:∀(j:Nat) p,(lst v)[j]? =some p→(aC v (j:Int) p).length=N:=fun j p hp=>by
  rw [(Zfa (fC v (j:Int) p)).1,List.length_set,lenB j p hp]
 have G:Gat P A B C D tc tm tq t0 t1 t2 t3 x0 T0 TA TB TC TD' HB (erH h1) keep (lst v).length T.size e key elt:=by
  refine ⟨fun j hj=> ?_,fun j hj=> ?_,fun j hj=> ?_,fun j hj=> ?_,fun j hj=> ?_,fun j hj=> ?_,fun x hx=> ?_,fun x hx=> ?_,⟨ZgS C 0, ?_,mv.1,mv.2.1,mv.2.2⟩,fun j hj=> ?_,size,fun j hj=> ?_,⟨o1,o2,o3,o4,o5,t,tt,u,t5,kt,et,k,y,c,s0,i, ?_⟩,ne⟩
  ·exact (Zfa (fA v (j:Int))).2
  ·have:=Zo (L:=lk h1) (fc v (j:Int))
   rw [hbit j hj] at this
   exact this
  ·obtain ⟨p,q1,q2,q3⟩:=hpp j hj
   simp only [TB,HB,q1]
   exact (Zfa (hBl j p q2)).2
  ·obtain ⟨p,q1,q2,q3⟩:=hpp j hj
   simp only [TB,TC,HB,q1]
   have:=(Zfa (fC v (j:Int) p)).2
   simp only [hset] at this
   exact this
  ·obtain ⟨p,q1,q2,q3⟩:=hpp j hj
   simp only [TC,TD',HB,q1]
   have:=(Zfa (fD v (j:Int) p)).2
   simp only [hset] at this
   exact this
  ·obtain ⟨p,q1,q2,q3⟩:=hpp j hj
   simp only [TD',HB,q1]
   obtain ⟨d1,d2⟩:=fd v (j:Int) p
   have hl1:(erH h1).length=n0:=by rw [ZC,List.length_set,i5]
   rw [hl1]
   refine ⟨Wd (Zbl d1) d1, ?_⟩
   rw [←Zeg]
   have:=rns_er (Zbl d1) _ _ d2
   rw [this]
   congr 1
   have hw:wi ((j:Int)+1)=((j+1:Nat):Int):=by
    have:j+1≤maxLen:=by omega
    simp only [maxLen] at this
    exact Y1 (by omega) (by omega)
   show TD.ers (lk h1) _=T0 (j+1)
   rw [hw]
  ·have:=List.all_eq_true.1 nw x (by
    simp only [List.mem_append]
    rcases hx with h|h|h|h
    ·exact .inl (.inl (.inl h))
    ·exact .inl (.inl (.inr h))
    ·exact .inl (.inr h)
    ·exact .inr h)
   simpa using this
  ·have:=List.all_eq_true.1 nq x hx
   simpa using this
  ·have h0:0 < C.size:=by omega
   unfold ZgS
   rw [Array.getElem?_eq_getElem h0]
   rfl
  ·obtain ⟨p,q1,q2,q3⟩:=hpp j hj
   simp only [TB,q1]
   rw [Zdb,lenB j p q2]
   exact lt.1
  ·obtain ⟨p,q1,q2,q3⟩:=hpp j hj
   simp only [TC,q1]
   rw [Zdb,lenC j p q2]
   exact lt.2
  ·obtain ⟨g1,g2,g3,g4,g5,n1,n2,n3,n4,n5,r1,r2,r3,r4,r5,r6,r7,r8,r9,r10,r11,r12,r13⟩:=g
   refine ⟨g1,g2,g3,g4,g5,n1,n2,n3,n4,n5,r1,r2,r3,r4,r5,r6,r7,r8,r9,r10,r11,r12,r13,pt1,Zlv pk,pt2,pt3,pt4,pt5,pz1,pz2,pz3,e4,e5,fun j hj=> ?_,fun j hj=> ?_,fun j hj=> ?_⟩
   ·obtain ⟨p,q1,q2,q3⟩:=hpp j hj
    simp only [TC,key,q1]
    exact Zo (fk v (j:Int) p)
   ·obtain ⟨p,q1,q2,q3⟩:=hpp j hj
    simp only [key,q1]
    exact Zas pk _
   ·obtain ⟨p,q1,q2,q3⟩:=hpp j hj
    simp only [TC,elt,q1]
    obtain ⟨d,d1,d2⟩:=Option.bind_eq_some_iff.1 (fy v (j:Int) p)
    have:=Zo (L:=lk (hB v (j:Int) p)) d1
    simp only [hset] at this
    rw [hce]
    show srcOf P T.size u (argD P (((TD.ers (lk (hB v (j:Int) p)) (aC v (j:Int) p)).set t0 .junk).set t1 .junk) u y)=_
    have e9:TD.er (lk (hB v (j:Int) p)) TD.junk=.junk:=rfl
    rw [e9] at this
    rw [this]
    exact Zdh d2
 have hdet:∀gs,GS key elt (lst v).length gs→gs.map (fun g=>(g.1,g.2.1))=Zib K.enc T.enc (Zei kf (lst v)):=fun gs hgs=>by
  have:=Zws (ek:=K.enc) (ev:=T.enc) (Zkh pk) kf (lst v) (key:=key) (elt:=elt) (fun j p hp=>by
   have:pp j=some p:=hp
   simp only [key,elt,this]
   exact ⟨trivial,trivial⟩) _ gs (Nat.le_refl _) hgs
  rw [List.take_length] at this
  exact this
 have hHid:(erH (st v).2)[id]? =some (.map tid []):=by rw [ZU i3];rfl
 have htm:(TD.ers (lk (st v).2) (st v).1)[tm]? =some (.mp id):=by rw [ZbC i2];rfl
 have hti:((st v).1.set tm .junk).set ti (.p (.v (.int .i64) ((0:Nat):Int)))=(st v).1.set tm .junk:=by
  refine List.ext_getElem? fun j=> ?_
  rw [List.getElem?_set]
  split
  ·rename_i hj
   subst hj
   have hne:tm≠ti:=fun q=>by rw [q,i1] at i2;cases i2
   rw [List.getElem?_set_ne hne,i1,if_pos (by rw [List.length_set];exact (List.getElem?_eq_some_iff.1 i1).1)]
   rfl
  ·rfl
 have hrcid:Rc (ZiD id) (lk h1) (lk h1):=fun x j t' hx=>by
  unfold ZiD at hx
  split at hx
  ·cases hx
  ·cases hx
   rfl
 have main:=ZtM G rA rB rC rD x1 (id:=id) (tid:=tid) (ts0:=TD.ers (lk (st v).2) (st v).1) (H0:=erH (st v).2) keepE hdet hHid htm herH1 (by
  have:=rns_er hrcid _ _ j1
  rw [hset] at this
  rw [hlk] at this
  show Dv.rns (ZiD id) _=some (TD.ers (lk h1) _)
  rw [hti,hset,hlk]
  exact this) (fun j x hj hx=>by
  have hx':(erH h1)[j]? =some x:=by
   rw [herH1,List.getElem?_set_ne (Ne.symm hj)]
   exact hx
  unfold erH at hx'
  rw [List.getElem?_map] at hx'
  cases hy:h1[j]? with
  |none=>rw [hy] at hx';cases hx'
  |some z=>
   rw [hy] at hx'
   cases hx'
   obtain ⟨y',y1,y2⟩:=Zwt j2 j z hy
   have:y'=z:=by
    have:h1[j]? =some y':=y1
    rw [hy] at this
    exact (Option.some.inj this).symm
   subst this
   exact ZuW hrcid y2)
 have eH:erH ((st v).2.set id (.map tid K (.sl T) (Zei kf (lst v))))=(erH (st v).2).set id (.map tid ((Zib K.enc T.enc (Zei kf (lst v))).map fun q=>(q.1,.sl none T.size q.2))):=by
  have hl2:lk ((st v).2.set id (.map tid K (.sl T) (Zei kf (lst v))))=lk (st v).2:=WF i3 rfl rfl
  rw [YY hl2]
  show (erH (st v).2).set id (Ent.map tid (kvl K.enc (Ty.sl T).enc (Zei kf (lst v))))=_
  unfold Zib kvl
  rw [List.map_map]
  rfl
 have eT:TD.ers (lk ((st v).2.set id (.map tid K (.sl T) (Zei kf (lst v))))) ((Zbm keepE 0 (aA v (nn v))).set tm (.mp id))=(maskFrom keepE 0 (TA (lst v).length)).set tm (.mp id):=by
  have hl2:lk ((st v).2.set id (.map tid K (.sl T) (Zei kf (lst v))))=lk (st v).2:=WF i3 rfl rfl
  rw [hset,Zeg,hl2, ←hlk,e2]
  rfl
 show Xm P (.loop _) (TD.ers (lk (st v).2) (st v).1) (erH (st v).2) (.exit x0) (TD.ers (lk ((st v).2.set id (.map tid K (.sl T) (Zei kf (lst v))))) ((Zbm keepE 0 (aA v (nn v))).set tm (.mp id))) (erH ((st v).2.set id (.map tid K (.sl T) (Zei kf (lst v)))))
 rw [eH,eT]
 exact main
end
end Go.Ev
end
section
namespace Go.Proofs.Ytehgcchjaamddaa
open Go.Ev Go.RowKit Go.Lib
theorem Zvh (w:World):Calls Try.prog 76 #[.slice none 0 0,.int .i64 0] w fun e w'=>e=.returned (.slice none 0 0)∧w'=w:=by
 go_enter Try.func76,Try.ntmps76
 go_wp2
 go_ret
 exact ⟨rfl,rfl⟩
theorem ZxM (n:Nat) (w:World) (h0:0 < n) (hn:n≤bytesBound):Calls Try.prog 76 #[.slice none 0 0,.int .i64 n] w fun e w'=>e=.returned (.slice (some ⟨w.heap.size,0,none⟩) 0 (grownCap w n 0 5))∧
 w'=w.drew.alloc (.cells (Builtin.zeroCells #[.int .u8 0] n++Builtin.zeroCells #[.int .u8 0] (grownCap w n 0 5 - n)) 5):=by
 have hb:n≤140737488355328:=hn
 have h1:¬((n:Int) < 0):=by omega
 have h3:wrap64 ((n:Int) - ((0:Int) - (0:Int)))=(n:Int):=by unfold wrap64;omega
 have h3':wrap64 ((n:Int) - 0)=(n:Int):=by unfold wrap64;omega
 have h3'':wrap64 (n:Int)=(n:Int):=by unfold wrap64;omega
 have h4:(n:Int) > 0:=by omega
 have hi:∃i,Try.prog.info? 5=some i∧i.zero=some (.int .u8 0)∧i.size=1∧i.bytes=1:=by
  have h:(Try.prog.info? 5).map (fun i=>(i.zero,i.size,i.bytes))=some (some (.int .u8 0),1,1):=by kernel_rfl
  obtain ⟨i,h1,h2⟩:=Option.map_eq_some_iff.1 h
  simp only [Prod.mk.injEq] at h2
  exact ⟨i,h1,h2.1,h2.2.1,h2.2.2⟩
 obtain ⟨i,hi1,hi2,hi3,hi4⟩:=hi
 have hrz:∀ty,(Builtin.append_ #[30,3] ty #[.slice none 0 0,.int .i64 n]).run Try.prog w=
  .ok (.slice (some ⟨w.heap.size,0,none⟩) n (grownCap w n 0 5)) (w.drew.alloc (.cells (Builtin.zeroCells #[.int .u8 0] n++Builtin.zeroCells #[.int .u8 0] (grownCap w n 0 5 - n)) 5)):=fun ty=>by
  have h:=Lib.run_append_grow_zeros (P:=Try.prog) w 30 3 ty 5 i (.int .u8 0) .i64 .i64 Try.underlying30 Try.underlying3 hi1 hi2 none 0 0 [] (by rw [hi3];simp [Builtin.firstCells]) n h0 (by omega) (by omega) (by omega)
   (by rw [hi4];omega) (by rw [Nat.zero_add];exact growslice_fits h0 (by rw [hi4];omega))
  simpa [Value.cells] using h
 obtain ⟨G,hG⟩:∃G,G=grownCap w n 0 5:=⟨_,rfl⟩
 have hGn:=grownCap_ge w n 0 5
 have hG63:=grownCap_le_maxLen w n 0 5 (by unfold maxLen;omega)
 unfold maxLen at hG63
 rw [←hG] at hrz hGn hG63 ⊢
 clear hG
 go_enter Try.func76,Try.ntmps76
 go_wp2_with (at_builtin;refine Lib.wpList_append_run _ rfl _ _ _ _ rfl _ _ rfl rfl _ _ (hrz _) ?_)
 all_goals (go_ret;exact ⟨rfl,rfl⟩)
theorem ZzJ (n:Nat) (hn:n≤bytesBound):Con Try.prog 76 [.p (.sl (some false) 1 []),.p (.int .i64 (n:Int))] [] (.own 0 none 1 []) [.log 1 5 []]:=by
 intro σ vs ok hH hvs
 simp only [repVs] at hvs
 obtain ⟨v,_,rfl,hv,v2,_,rfl,hv2,rfl⟩:=hvs
 obtain rfl:=ZjU hv
 obtain rfl:v2=.int .i64 n:=by
  have:=hv2.2 rfl
  simpa [repD,repC] using this
 have hm:σ.m=[]:=List.eq_nil_of_length_eq_zero (by rw [ok.len,hH];rfl)
 rcases Nat.eq_zero_or_pos n with rfl|h0
 ·refine (Zvh σ.w).mono fun e w' ⟨he,hw⟩=> ?_
  subst he;subst hw
  obtain ⟨to,ok'⟩:=X0 (σ':={ σ with m:=σ.m++[none],H:=σ.H++[.log 1 5 []]}) ok rfl rfl rfl rfl (World.grownBy.refl σ.w none) (.inl rfl) (fun _=>.inl ⟨rfl,rfl⟩)
  refine ⟨_,{ σ with m:=σ.m++[none],H:=σ.H++[.log 1 5 []]},rfl,rfl,by simp [hH],to,ok', ?_⟩
  rw [Zg rfl]
  simp only [repD]
  exact ⟨fun _ hx=>(by cases hx),none,0,rfl,Nat.le_refl _,by simp [maxLen],ZL _,fun _=>rfl,fun h=>absurd rfl h,5,[],by simp [hH],Nat.le_refl _,fun _=>.inl ⟨by simp [hm],rfl,rfl⟩⟩
 ·refine (ZxM n σ.w h0 hn).mono fun e w' ⟨he,hw⟩=> ?_
  subst he;subst hw
  have hge:=grownCap_ge σ.w n 0 5
  have hcm:=grownCap_le_maxLen σ.w n 0 5 (by have:n≤140737488355328:=hn;unfold maxLen;omega)
  have hsz:(Builtin.zeroCells #[.int .u8 0] n++Builtin.zeroCells #[.int .u8 0] (grownCap σ.w n 0 5 - n):Array Value).size=grownCap σ.w n 0 5*1:=by
   simp only [Array.size_append,size_zeroCells]
   simp
   omega
  let cs:Array Value:=Builtin.zeroCells #[.int .u8 0] n++Builtin.zeroCells #[.int .u8 0] (grownCap σ.w n 0 5 - n)
  let σ':Sg:={ σ with m:=σ.m++[some σ.w.heap.size],H:=σ.H++[.log 1 5 []],w:=σ.w.drew.alloc (.cells cs 5)}
  have hblk:σ'.w.heap[σ.w.heap.size]? =some (.cells cs 5 (0,0)):=heap_alloc_new σ.w.drew _
  obtain ⟨to,ok'⟩:=X0 (σ':=σ') ok rfl rfl rfl rfl (Yc σ.w (.cells cs 5) none) (.inr ⟨_,rfl,Nat.le_refl _,by simp [σ']⟩)
   (fun leaf=>.inr ⟨σ.w.heap.size,_,grownCap σ.w n 0 5,rfl,hblk,hsz,Nat.zero_le _,hcm,fun _ hx=>(by cases hx),by simp [repCs]⟩)
  refine ⟨_,σ',rfl,rfl,by simp [σ',hH],to,ok', ?_⟩
  rw [Zg rfl]
  simp only [repD]
  exact ⟨fun _ hx=>(by cases hx),_,_,rfl,Nat.zero_le _,hcm,ZL _,fun h=>(by cases h),fun h=>absurd rfl h,5,[],by simp [σ',hH],Nat.le_refl _,fun _=>.inr ⟨_,_,by simp [σ',hm],rfl,hblk,hsz⟩⟩
end Go.Proofs.Ytehgcchjaamddaa
end
section
set_option maxRecDepth 4000
namespace Go.Proofs.Ytehgcchjaamddaa
open Go Go.Ev
noncomputable section
abbrev Zb:Ty:=(.st [(.arr 16 .u8),(.sl .u8)])
abbrev Zc:Type:=((List UInt8)×(List UInt8))
abbrev Zc.Hint (x:Zc):(List UInt8):=x.1
def Zjm (F:Nat) (a0:Int) (a1:Int):Option (Unit⊕(Int×Int×Unit×(List Zc))):=
 if (decide (a0 < 0))=true then
  some (.inl ())
 else
 if (decide (a1 < 0))=true then
  some (.inl ())
 else
 if (decide (a1 > 4096))=true then
  some (.inl ())
 else
 some (.inr (a0,a1,(),([]:List Zc)))
def Zfb (F:Nat):Fs Try.prog:=⟨7,[.v (.int .i64),.v (.int .i64)],[],[(.int .i64),(.int .i64)],[⟨.ret,[(0,.ptr0)],[],[]⟩,⟨.ret,[(0,.ref 0 [])],[.var (.agg [.v (.int .i64),.v (.int .i64),.own 1 Zb,.iface 79 (.v (.st []))]) true,.log Zb 36],[(.int .i64),(.int .i64),(.st []),(.sl Zb)]⟩],fun x=>Zjm F x.1 x.2⟩
def Zme:Fs Try.prog:=Zfb fuel
theorem Zkq:Zme.Ok:=Zn (fi:={ hi:={ still:=[4],ghost:=[(20,[([2],Zb,36)])]},lp:=[]}) (specs:={ l:=[]}) (okS trivial) trivial (by decide+kernel) (fun x=>by kernel_rfl)
abbrev Zgj:Ty:=(.st [.u64,.u64])
abbrev Sig:Type:=(UInt64×UInt64)
abbrev Sig.R (x:Sig):UInt64:=x.1
abbrev Sig.S (x:Sig):UInt64:=x.2
abbrev Zot:Ty:=(.st [(.int .i64),(.sl Zgj),.u64])
abbrev Zkr:Type:=(Int×(List Sig)×UInt64)
abbrev Zkr.Branch (x:Zkr):Int:=x.1
def ZaO (F:Nat) (a0:Zkr):Option (Bool):=
 if (decide (a0.1 ≥ 0))=true then
  if (decide (a0.1 < 4))=true then
   some (decide ((a0.2.1.length:Int)≤12))
  else
  some false
 else
 some false
def ZdC (F:Nat):Fs Try.prog:=⟨21,[.v Zot],[],[Zot],[⟨.ret,[(0,.v .bool)],[],[.bool]⟩],fun x=>ZaO F x⟩
def Zks:Fs Try.prog:=ZdC fuel
theorem ZiE:Zks.Ok:=Zn (fi:={ hi:={ still:=[2]},lp:=[]}) (specs:={ l:=[]}) (okS trivial) trivial (by decide+kernel) (fun x=>by kernel_rfl)
def Zcm (F:Nat) (a0:Int):Option (Bool):=
 if (decide (a0 ≥ 0))=true then
  some (decide (a0≤1125899906842624))
 else
 some false
def Zfc (F:Nat):Fs Try.prog:=⟨50,[.v (.int .i64)],[],[(.int .i64)],[⟨.ret,[(0,.v .bool)],[],[.bool]⟩],fun x=>Zcm F x⟩
def Zmf:Fs Try.prog:=Zfc fuel
theorem Zkt:Zmf.Ok:=Zn (fi:={ hi:={ still:=[2]},lp:=[]}) (specs:={ l:=[]}) (okS trivial) trivial (by decide+kernel) (fun x=>by kernel_rfl)
def Zku (F:Nat) (a0:Int) (a1:Int):Option ((Int×Bool)):=
 (Zcm F a0).bind fun o1=>
 if (!o1)=true then
  some ((0:Int),false)
 else
 (Zcm F a1).bind fun o2=>
 if (!o2)=true then
  some ((0:Int),false)
 else
 if (decide (a0 > (wi (1125899906842624 - a1))))=true then
  some ((0:Int),false)
 else
 some (wi (a0+a1),true)
def Zjn (F:Nat):Fs Try.prog:=⟨22,[.v (.int .i64),.v (.int .i64)],[],[(.int .i64),(.int .i64)],[⟨.ret,[(0,.tup [.v (.int .i64),.v .bool])],[],[(.int .i64),.bool]⟩],fun x=>Zku F x.1 x.2⟩
def ZqA:Fs Try.prog:=Zjn fuel
theorem Zou:ZqA.Ok:=Zn (fi:={ hi:={ still:=[4,5,6,10]},lp:=[]}) (specs:={ l:=[Zmf]}) (okS ⟨Zkt,trivial⟩) trivial (by decide+kernel) (fun x=>by kernel_rfl)
def ZgT (F:Nat) (a0:UInt64) (a1:UInt64):Option ((UInt64×UInt64)):=
 let y3:UInt64:=Yi ((a0&&&4294967295)*(a1&&&4294967295)) 32
 let y4:UInt64:=(((Yi a0 32)*(a1&&&4294967295))+y3)&&&4294967295
 let y5:UInt64:=Yi (((Yi a0 32)*(a1&&&4294967295))+y3) 32
 let y6:UInt64:=Yi (y4+((a0&&&4294967295)*(Yi a1 32))) 32
 some ((((Yi a0 32)*(Yi a1 32))+y5)+y6,a0*a1)
def ZdD (F:Nat):Fs Try.prog:=⟨78,[.v .u64,.v .u64],[],[.u64,.u64],[⟨.ret,[(0,.tup [.v .u64,.v .u64])],[],[.u64,.u64]⟩],fun x=>ZgT F x.1 x.2⟩
def Zkv:Fs Try.prog:=ZdD fuel
theorem ZiF:Zkv.Ok:=Zn (fi:={ hi:={ still:=[4,5]},lp:=[]}) (specs:={ l:=[]}) (okS trivial) trivial (by decide+kernel) (fun x=>by kernel_rfl)
def Zmg:ByteArray:=⟨#[0,1,2,2,3,3,3,3,4,4,4,4,4,4,4,4,5,5,5,5,5,5,5,5,5,5,5,5,5,5,5,5,6,6,6,6,6,6,6,6,6,6,6,6,6,6,6,6,6,6,6,6,6,6,6,6,6,6,6,6,6,6,6,6,7,7,7,7,7,7,7,7,7,7,7,7,7,7,7,7,7,7,7,7,7,7,7,7,7,7,7,7,7,7,7,7,7,7,7,7,7,7,7,7,7,7,7,7,7,7,7,7,7,7,7,7,7,7,7,7,7,7,7,7,7,7,7,7,8,8,8,8,8,8,8,8,8,8,8,8,8,8,8,8,8,8,8,8,8,8,8,8,8,8,8,8,8,8,8,8,8,8,8,8,8,8,8,8,8,8,8,8,8,8,8,8,8,8,8,8,8,8,8,8,8,8,8,8,8,8,8,8,8,8,8,8,8,8,8,8,8,8,8,8,8,8,8,8,8,8,8,8,8,8,8,8,8,8,8,8,8,8,8,8,8,8,8,8,8,8,8,8,8,8,8,8,8,8,8,8,8,8,8,8,8,8,8,8,8,8,8,8,8,8,8,8]⟩
def Zmh (F:Nat) (a0:UInt64):Option (Int):=
 if (decide (a0 ≥ 4294967296))=true then
  if (decide ((Yi a0 32) ≥ 65536))=true then
   if (decide ((Yi (Yi a0 32) 16) ≥ 256))=true then
    let y7:UInt8:=w8 ((Yi (Yi (Yi a0 32) 16) 8).toNat:Int)
    (idx (Zia Zmg) (y7.toNat:Int)).bind fun e8=>
    some (wi (56+(e8.toNat:Int)))
   else
   (idx (Zia Zmg) ((w8 ((Yi (Yi a0 32) 16).toNat:Int)).toNat:Int)).bind fun e9=>
   some (wi (48+(e9.toNat:Int)))
  else
  if (decide ((Yi a0 32) ≥ 256))=true then
   (idx (Zia Zmg) ((w8 ((Yi (Yi a0 32) 8).toNat:Int)).toNat:Int)).bind fun e10=>
   some (wi (40+(e10.toNat:Int)))
  else
  (idx (Zia Zmg) ((w8 ((Yi a0 32).toNat:Int)).toNat:Int)).bind fun e11=>
  some (wi (32+(e11.toNat:Int)))
 else
 if (decide (a0 ≥ 65536))=true then
  if (decide ((Yi a0 16) ≥ 256))=true then
   (idx (Zia Zmg) ((w8 ((Yi (Yi a0 16) 8).toNat:Int)).toNat:Int)).bind fun e12=>
   some (wi (24+(e12.toNat:Int)))
  else
  (idx (Zia Zmg) ((w8 ((Yi a0 16).toNat:Int)).toNat:Int)).bind fun e13=>
  some (wi (16+(e13.toNat:Int)))
 else
 if (decide (a0 ≥ 256))=true then
  (idx (Zia Zmg) ((w8 ((Yi a0 8).toNat:Int)).toNat:Int)).bind fun e14=>
  some (wi (8+(e14.toNat:Int)))
 else
 (idx (Zia Zmg) ((w8 (a0.toNat:Int)).toNat:Int)).bind fun e15=>
 some (wi (0+(e15.toNat:Int)))
def ZdE (F:Nat):Fs Try.prog:=⟨83,[.v .u64],[],[.u64],[⟨.ret,[(0,.v (.int .i64))],[],[(.int .i64)]⟩],fun x=>Zmh F x⟩
def Zkw:Fs Try.prog:=ZdE fuel
theorem ZiG:Zkw.Ok:=Zn (fi:={ hi:={ still:=[2]},lp:=[]}) (specs:={ l:=[]}) (okS trivial) trivial (by decide+kernel) (fun x=>by kernel_rfl)
def WW (F:Nat) (a0:UInt64):Option (Int):=
 (Zmh F a0).bind fun o16=>
 some (wi (64 - o16))
def Wn (F:Nat):Fs Try.prog:=⟨82,[.v .u64],[],[.u64],[⟨.ret,[(0,.v (.int .i64))],[],[(.int .i64)]⟩],fun x=>WW F x⟩
def QY:Fs Try.prog:=Wn fuel
theorem Qs:QY.Ok:=Zn (fi:={ hi:={ still:=[2,3]},lp:=[]}) (specs:={ l:=[Zkw]}) (okS ⟨ZiG,trivial⟩) trivial (by decide+kernel) (fun x=>by kernel_rfl)
def WX (F:Nat) (s:(UInt64×UInt64×UInt64×UInt64×UInt64×UInt64×UInt64×UInt64×UInt64)):Option ((UInt64×UInt64×UInt64×UInt64×UInt64×UInt64×UInt64×UInt64×UInt64)⊕(UInt64×UInt64×UInt64×UInt64×UInt64×UInt64×UInt64×UInt64)):=
 if (decide (s.2.2.2.2.2.2.2.1 ≥ 4294967296))=true then
  let y24:Bool:=decide ((s.2.2.2.2.2.2.2.2+s.2.2.1) ≥ 4294967296)
  if y24=true then
   some (.inr (s.1,s.2.1,s.2.2.1,s.2.2.2.1,s.2.2.2.2.1,s.2.2.2.2.2.1,s.2.2.2.2.2.2.1,s.2.2.2.2.2.2.2.1 - 1))
  else
  some (.inl (s.1,s.2.1,s.2.2.1,s.2.2.2.1,s.2.2.2.2.1,s.2.2.2.2.2.1,s.2.2.2.2.2.2.1,s.2.2.2.2.2.2.2.1 - 1,s.2.2.2.2.2.2.2.2+s.2.2.1))
 else
 let y25:Bool:=decide ((s.2.2.2.2.2.2.2.1*s.2.2.2.1) > ((4294967296*s.2.2.2.2.2.2.2.2)+s.2.2.2.2.2.1))
 if y25=true then
  let y26:Bool:=decide ((s.2.2.2.2.2.2.2.2+s.2.2.1) ≥ 4294967296)
  if y26=true then
   some (.inr (s.1,s.2.1,s.2.2.1,s.2.2.2.1,s.2.2.2.2.1,s.2.2.2.2.2.1,s.2.2.2.2.2.2.1,s.2.2.2.2.2.2.2.1 - 1))
  else
  some (.inl (s.1,s.2.1,s.2.2.1,s.2.2.2.1,s.2.2.2.2.1,s.2.2.2.2.2.1,s.2.2.2.2.2.2.1,s.2.2.2.2.2.2.2.1 - 1,s.2.2.2.2.2.2.2.2+s.2.2.1))
 else
 some (.inr (s.1,s.2.1,s.2.2.1,s.2.2.2.1,s.2.2.2.2.1,s.2.2.2.2.2.1,s.2.2.2.2.2.2.1,s.2.2.2.2.2.2.2.1))
def ZiH:Lp:=⟨[(2,.v .u64),(8,.v .u64),(9,.v .u64),(10,.v .u64),(11,.v .u64),(13,.v .u64),(14,.v .u64),(15,.v .u64),(16,.v .u64)],[],[.u64,.u64,.u64,.u64,.u64,.u64,.u64,.u64,.u64],[⟨.exit 0,[(2,.v .u64),(8,.v .u64),(9,.v .u64),(10,.v .u64),(11,.v .u64),(13,.v .u64),(14,.v .u64),(15,.v .u64)],[],[.u64,.u64,.u64,.u64,.u64,.u64,.u64,.u64]⟩],Zk (WX fuel) fuel⟩
theorem ZlC:ZiH.Ok Try.prog (Zt Try.prog 81) (Zp Try.prog 81 0):=Zq (fi:={ hi:={ still:=[6,7,34]},lp:=[]}) (specs:={ l:=[]}) (okS trivial) trivial (by kernel_rfl) (fun v=>by kernel_rfl)
def WY (F:Nat) (s:(UInt64×UInt64×UInt64×UInt64×UInt64×UInt64×UInt64×UInt64×UInt64)):Option ((UInt64×UInt64×UInt64×UInt64×UInt64×UInt64×UInt64×UInt64×UInt64)⊕(UInt64×UInt64×UInt64×UInt64×UInt64×UInt64)):=
 if (decide (s.2.2.2.2.2.2.2.2 ≥ 4294967296))=true then
  let y29:Bool:=decide ((s.2.2.2.2.2.2.1+s.2.2.1) ≥ 4294967296)
  if y29=true then
   some (.inr (s.1,s.2.1,s.2.2.2.2.1,s.2.2.2.2.2.1,s.2.2.2.2.2.2.2.1,s.2.2.2.2.2.2.2.2 - 1))
  else
  some (.inl (s.1,s.2.1,s.2.2.1,s.2.2.2.1,s.2.2.2.2.1,s.2.2.2.2.2.1,s.2.2.2.2.2.2.1+s.2.2.1,s.2.2.2.2.2.2.2.1,s.2.2.2.2.2.2.2.2 - 1))
 else
 let y30:Bool:=decide ((s.2.2.2.2.2.2.2.2*s.2.2.2.1) > ((4294967296*s.2.2.2.2.2.2.1)+s.2.2.2.2.1))
 if y30=true then
  let y31:Bool:=decide ((s.2.2.2.2.2.2.1+s.2.2.1) ≥ 4294967296)
  if y31=true then
   some (.inr (s.1,s.2.1,s.2.2.2.2.1,s.2.2.2.2.2.1,s.2.2.2.2.2.2.2.1,s.2.2.2.2.2.2.2.2 - 1))
  else
  some (.inl (s.1,s.2.1,s.2.2.1,s.2.2.2.1,s.2.2.2.2.1,s.2.2.2.2.2.1,s.2.2.2.2.2.2.1+s.2.2.1,s.2.2.2.2.2.2.2.1,s.2.2.2.2.2.2.2.2 - 1))
 else
 some (.inr (s.1,s.2.1,s.2.2.2.2.1,s.2.2.2.2.2.1,s.2.2.2.2.2.2.2.1,s.2.2.2.2.2.2.2.2))
def ZiI:Lp:=⟨[(2,.v .u64),(8,.v .u64),(9,.v .u64),(10,.v .u64),(14,.v .u64),(15,.v .u64),(16,.v .u64),(17,.v .u64),(18,.v .u64)],[],[.u64,.u64,.u64,.u64,.u64,.u64,.u64,.u64,.u64],[⟨.exit 2,[(2,.v .u64),(8,.v .u64),(14,.v .u64),(15,.v .u64),(17,.v .u64),(18,.v .u64)],[],[.u64,.u64,.u64,.u64,.u64,.u64]⟩],Zk (WY fuel) fuel⟩
theorem ZlD:ZiI.Ok Try.prog (Zt Try.prog 81) (Zp Try.prog 81 1):=Zq (fi:={ hi:={ still:=[6,7,34]},lp:=[]}) (specs:={ l:=[]}) (okS trivial) trivial (by kernel_rfl) (fun v=>by kernel_rfl)
def Zdl (F:Nat) (a0:UInt64) (a1:UInt64) (a2:UInt64):Option ((UInt64×UInt64)):=
 if (a2==0)=true then
  none
 else
 if (decide (a2≤a0))=true then
  none
 else
 if (a0==0)=true then
  if (a2 !=0)=true then
   if (a2 !=0)=true then
    some (a1 / a2,a1 % a2)
   else
   none
  else
  none
 else
 (WW F a2).bind fun o17=>
 let y18:UInt64:=Yi (Zbj a2 (min ((w64 o17).toNat:Int).toNat 64)) 32
 let y19:UInt64:=(Zbj a2 (min ((w64 o17).toNat:Int).toNat 64))&&&4294967295
 let y20:UInt64:=Yi a1 (min ((64 - (w64 o17)).toNat:Int).toNat 64)
 let y21:UInt64:=(Zbj a0 (min ((w64 o17).toNat:Int).toNat 64))|||y20
 let y22:UInt64:=Yi (Zbj a1 (min ((w64 o17).toNat:Int).toNat 64)) 32
 let y23:UInt64:=(Zbj a1 (min ((w64 o17).toNat:Int).toNat 64))&&&4294967295
 if (y18 !=0)=true then
  (Zk (WX F) F (Zbj a2 (min ((w64 o17).toNat:Int).toNat 64),w64 o17,y18,y19,y21,y22,y23,y21 / y18,y21 - ((y21 / y18)*y18))).bind fun o27=>
  let y28:UInt64:=((o27.2.2.2.2.1*4294967296)+o27.2.2.2.2.2.1) - (o27.2.2.2.2.2.2.2*o27.1)
  if (o27.2.2.1 !=0)=true then
   (Zk (WY F) F (o27.1,o27.2.1,o27.2.2.1,o27.2.2.2.1,o27.2.2.2.2.2.2.1,o27.2.2.2.2.2.2.2,y28 - ((y28 / o27.2.2.1)*o27.2.2.1),y28,y28 / o27.2.2.1)).bind fun o32=>
   let y33:UInt64:=((o32.2.2.2.2.1*4294967296)+o32.2.2.1) - (o32.2.2.2.2.2*o32.1)
   some ((o32.2.2.2.1*4294967296)+o32.2.2.2.2.2,Yi y33 (min (o32.2.1.toNat:Int).toNat 64))
  else
  none
 else
 none
def ZdF (F:Nat):Fs Try.prog:=⟨81,[.v .u64,.v .u64,.v .u64],[],[.u64,.u64,.u64],[⟨.ret,[(0,.tup [.v .u64,.v .u64])],[],[.u64,.u64]⟩],fun x=>Zdl F x.1 x.2.1 x.2.2⟩
def Zkx:Fs Try.prog:=ZdF fuel
theorem ZiJ:Zkx.Ok:=Zn (fi:={ hi:={ still:=[6,7,34]},lp:=[(0,ZiH),(1,ZiI)]}) (specs:={ l:=[QY]}) (okS ⟨Qs,trivial⟩) ⟨ZlC,ZlD,trivial⟩ (by decide+kernel) (fun x=>by kernel_rfl)
def Zdm (F:Nat) (a0:UInt64) (a1:UInt64) (a2:UInt64):Option (UInt64):=
 if (a2 !=0)=true then
  (Zdl F (a0 % a2) a1 a2).bind fun o34=>
  some o34.2
 else
 none
def ZdG (F:Nat):Fs Try.prog:=⟨79,[.v .u64,.v .u64,.v .u64],[],[.u64,.u64,.u64],[⟨.ret,[(0,.v .u64)],[],[.u64]⟩],fun x=>Zdm F x.1 x.2.1 x.2.2⟩
def Zky:Fs Try.prog:=ZdG fuel
theorem ZiK:Zky.Ok:=Zn (fi:={ hi:={ still:=[6,12,13,14]},lp:=[]}) (specs:={ l:=[Zkx]}) (okS ⟨ZiJ,trivial⟩) trivial (by decide+kernel) (fun x=>by kernel_rfl)
def Vi (F:Nat) (a0:UInt64) (a1:UInt64):Option (UInt64):=
 (ZgT F a0 a1).bind fun o35=>
 (Zdm F o35.1 o35.2 (4611686018427377339:UInt64)).bind fun o36=>
 some o36
def Zcn (F:Nat):Fs Try.prog:=⟨75,[.v .u64,.v .u64],[],[.u64,.u64],[⟨.ret,[(0,.v .u64)],[],[.u64]⟩],fun x=>Vi F x.1 x.2⟩
def ZiL:Fs Try.prog:=Zcn fuel
theorem ZgU:ZiL.Ok:=Zn (fi:={ hi:={ still:=[4,8,9,13,14]},lp:=[]}) (specs:={ l:=[Zkv,Zky]}) (okS ⟨ZiF,ZiK,trivial⟩) trivial (by decide+kernel) (fun x=>by kernel_rfl)
def VF (F:Nat) (s:(UInt64×UInt64×UInt64)):Option ((UInt64×UInt64×UInt64)⊕UInt64):=
 if (decide (s.2.1 > 0))=true then
  if ((s.2.1&&&1)==1)=true then
   (Vi F s.2.2 s.1).bind fun o37=>
   (Vi F s.1 s.1).bind fun o38=>
   some (.inl (o38,Yi s.2.1 1,o37))
  else
  (Vi F s.1 s.1).bind fun o39=>
  some (.inl (o39,Yi s.2.1 1,s.2.2))
 else
 some (.inr s.2.2)
def ZgV:Lp:=⟨[(0,.v .u64),(1,.v .u64),(5,.v .u64)],[],[.u64,.u64,.u64],[⟨.exit 0,[(5,.v .u64)],[],[.u64]⟩],Zk (VF fuel) fuel⟩
theorem Zkz:ZgV.Ok Try.prog (Zt Try.prog 68) (Zp Try.prog 68 0):=Zq (fi:={ hi:={ still:=[4,13,14,16,17]},lp:=[]}) (specs:={ l:=[ZiL]}) (okS ⟨ZgU,trivial⟩) trivial (by kernel_rfl) (fun v=>by kernel_rfl)
def Qt (F:Nat) (a0:UInt64) (a1:UInt64):Option (UInt64):=
 (Zk (VF F) F (a0,a1,(1:UInt64))).bind fun o40=>
 some o40
def Zco (F:Nat):Fs Try.prog:=⟨68,[.v .u64,.v .u64],[],[.u64,.u64],[⟨.ret,[(0,.v .u64)],[],[.u64]⟩],fun x=>Qt F x.1 x.2⟩
def ZdH:Fs Try.prog:=Zco fuel
theorem Zcp:ZdH.Ok:=Zn (fi:={ hi:={ still:=[4,13,14,16,17]},lp:=[(0,ZgV)]}) (specs:={ l:=[]}) (okS trivial) ⟨Zkz,trivial⟩ (by decide+kernel) (fun x=>by kernel_rfl)
def Qu (F:Nat) (a0:UInt64):Option (Bool):=
 if (decide (a0 > 0))=true then
  if (decide (a0 < 4611686018427377339))=true then
   (Qt F a0 (2305843009213688669:UInt64)).bind fun o41=>
   some (o41==1)
  else
  some false
 else
 some false
def Zcq (F:Nat):Fs Try.prog:=⟨52,[.v .u64],[],[.u64],[⟨.ret,[(0,.v .bool)],[],[.bool]⟩],fun x=>Qu F x⟩
def ZdI:Fs Try.prog:=Zcq fuel
theorem Zcr:ZdI.Ok:=Zn (fi:={ hi:={ still:=[2,10]},lp:=[]}) (specs:={ l:=[ZdH]}) (okS ⟨Zcp,trivial⟩) trivial (by decide+kernel) (fun x=>by kernel_rfl)
def Vv (F:Nat) (a0:UInt64):Option (Bool):=
 (Qu F a0).bind fun o42=>
 some (!o42)
def Za6 (F:Nat):Fs Try.prog:=⟨51,[.v .u64],[],[.u64],[⟨.ret,[(0,.v .bool)],[],[.bool]⟩],fun x=>Vv F x⟩
def Zcs:Fs Try.prog:=Za6 fuel
theorem Za7:Zcs.Ok:=Zn (fi:={ hi:={ still:=[2,3]},lp:=[]}) (specs:={ l:=[ZdI]}) (okS ⟨Zcr,trivial⟩) trivial (by decide+kernel) (fun x=>by kernel_rfl)
def Qv (F:Nat) (a0:Int):Option (Bool):=
 if (decide (a0 ≥ 0))=true then
  some (decide (a0≤1048576))
 else
 some false
def Zct (F:Nat):Fs Try.prog:=⟨54,[.v (.int .i64)],[],[(.int .i64)],[⟨.ret,[(0,.v .bool)],[],[.bool]⟩],fun x=>Qv F x⟩
def ZiM:Fs Try.prog:=Zct fuel
theorem ZgW:ZiM.Ok:=Zn (fi:={ hi:={ still:=[2]},lp:=[]}) (specs:={ l:=[]}) (okS trivial) trivial (by decide+kernel) (fun x=>by kernel_rfl)
abbrev Zv:Ty:=(.st [(.sl .u64),(.int .i64),(.int .i64),.u64])
abbrev Ye:Type:=((List UInt64)×Int×Int×UInt64)
abbrev Y2:Ty:=(.st [(.sl Zv)])
abbrev XZ:Type:=(List Ye)
def X5 (F:Nat) (s:((List UInt64)×Int×Int)):Option (((List UInt64)×Int×Int)⊕(Int⊕Unit)):=
 if (decide (s.2.2 < s.2.1))=true then
  (idx s.1 s.2.2).bind fun e44=>
  (Vv F e44).bind fun o45=>
  if o45=true then
   some (.inr (.inl s.2.2))
  else
  some (.inl (s.1,s.2.1,wi (s.2.2+1)))
 else
 some (.inr (.inr ()))
def Zf4:Lp:=⟨[(0,.v (.sl .u64)),(1,.fn 51 []),(7,.v (.int .i64)),(8,.v (.int .i64))],[],[(.sl .u64),(.int .i64),(.int .i64)],[⟨.ret,[(4,.v (.int .i64))],[],[(.int .i64)]⟩,⟨.exit 0,[],[],[]⟩],Zk (X5 fuel) fuel⟩
theorem Zjo:Zf4.Ok Try.prog (Zt Try.prog 69) (Zp Try.prog 69 0):=Zq (fi:={ hi:={ still:=[4,15]},lp:=[]}) (specs:={ l:=[Zcs]}) (okS ⟨Za7,trivial⟩) trivial (by kernel_rfl) (fun v=>by kernel_rfl)
def ZdJ (F:Nat) (a0:(List UInt64)):Option (Int):=
 (Zk (X5 F) F (a0,(a0.length:Int),(0:Int))).bind fun o46=>
 match o46 with
 |.inl o47=>
  some o47
 |.inr o48=>
  some (-1:Int)
def Za8 (F:Nat):Fs Try.prog:=⟨69,[.v (.sl .u64),.fn 51 []],[],[(.sl .u64)],[⟨.ret,[(0,.v (.int .i64))],[],[(.int .i64)]⟩],fun x=>ZdJ F x⟩
def ZgX:Fs Try.prog:=Za8 fuel
theorem Zf5:ZgX.Ok:=Zn (fi:={ hi:={ still:=[4,15]},lp:=[(0,Zf4)]}) (specs:={ l:=[]}) (okS trivial) ⟨Zjo,trivial⟩ (by decide+kernel) (fun x=>by kernel_rfl)
def Zfd (F:Nat) (a0:(List UInt64)):Option (Bool):=
 (ZdJ F a0).bind fun o49=>
 some (decide (o49 ≥ 0))
def Zfe (F:Nat):Fs Try.prog:=⟨53,[.v (.sl .u64),.fn 51 []],[],[(.sl .u64)],[⟨.ret,[(0,.v .bool)],[],[.bool]⟩],fun x=>Zfd F x⟩
def Zmi:Fs Try.prog:=Zfe fuel
theorem ZkA:Zmi.Ok:=Zn (fi:={ hi:={ still:=[4,5,6]},lp:=[]}) (specs:={ l:=[ZgX]}) (okS ⟨Zf5,trivial⟩) trivial (by decide+kernel) (fun x=>by kernel_rfl)
def WZ (F:Nat) (s:((List Ye)×Int×Int×XZ)):Option (((List Ye)×Int×Int×XZ)⊕((Bool×XZ)⊕XZ)):=
 if (decide (s.2.2.1 < s.2.1))=true then
  (idx s.1 s.2.2.1).bind fun e43=>
  if (decide ((e43.1.length:Int) > 12))=true then
   some (.inr (.inl (false,s.2.2.2)))
  else
  (Zfd F e43.1).bind fun o50=>
  if o50=true then
   some (.inr (.inl (false,s.2.2.2)))
  else
  (Qv F e43.2.1).bind fun o51=>
  if (!o51)=true then
   some (.inr (.inl (false,s.2.2.2)))
  else
  (Qv F e43.2.2.1).bind fun o52=>
  if (!o52)=true then
   some (.inr (.inl (false,s.2.2.2)))
  else
  if (e43.2.2.2 !=0)=true then
   (Vv F e43.2.2.2).bind fun o53=>
   if o53=true then
    some (.inr (.inl (false,s.2.2.2)))
   else
   some (.inl (s.1,s.2.1,wi (s.2.2.1+1),s.2.2.2))
  else
  some (.inl (s.1,s.2.1,wi (s.2.2.1+1),s.2.2.2))
 else
 some (.inr (.inr s.2.2.2))
def ZiN:Lp:=⟨[(1,.ref 0 []),(3,.fn 51 []),(7,.v (.sl Zv)),(8,.v (.int .i64)),(9,.v (.int .i64))],[.var (.v Y2) true],[(.sl Zv),(.int .i64),(.int .i64),Y2],[⟨.ret,[(2,.v .bool)],[.var (.v Y2) true],[.bool,Y2]⟩,⟨.exit 0,[(1,.ref 0 [])],[.var (.v Y2) true],[Y2]⟩],Zk (WZ fuel) fuel⟩
theorem ZlE:ZiN.Ok Try.prog (Zt Try.prog 23) (Zp Try.prog 23 0):=Zq (fi:={ hi:={ still:=[2,19,20,25,31,42]},lp:=[]}) (specs:={ l:=[Zmi,ZiM,Zcs]}) (okS ⟨ZkA,ZgW,Za7,trivial⟩) trivial (by kernel_rfl) (fun v=>by kernel_rfl)
def Xl (F:Nat) (a0:XZ):Option (Bool):=
 (Zk (WZ F) F (a0,(a0.length:Int),(0:Int),a0)).bind fun o54=>
 match o54 with
 |.inl o55=>
  some o55.1
 |.inr o56=>
  if (decide ((o56.length:Int) > 0))=true then
   some (decide ((o56.length:Int)≤4))
  else
  some false
def ZdK (F:Nat):Fs Try.prog:=⟨23,[.v Y2],[],[Y2],[⟨.ret,[(0,.v .bool)],[],[.bool]⟩],fun x=>Xl F x⟩
def ZbI:Fs Try.prog:=ZdK fuel
theorem Zau:ZbI.Ok:=Zn (fi:={ hi:={ still:=[2,19,20,25,31,42]},lp:=[(0,ZiN)]}) (specs:={ l:=[]}) (okS trivial) ⟨ZlE,trivial⟩ (by decide+kernel) (fun x=>by kernel_rfl)
abbrev Yg:Ty:=(.st [(.arr 32 .u8),(.int .i64)])
abbrev YT:Type:=((List UInt8)×Int)
abbrev YT.N (x:YT):Int:=x.2
abbrev yIn:Ty:=(.st [Yg,Zot])
abbrev In:Type:=(YT×Zkr)
abbrev YI:Ty:=(.st [(.int .i64),Y2])
abbrev Out:Type:=(Int×XZ)
abbrev Out.Lock (x:Out):XZ:=x.2
abbrev yTx:Ty:=(.st [(.sl yIn),(.sl YI),(.int .i64)])
abbrev Tx:Type:=((List In)×(List Out)×Int)
def Qw (F:Nat) (s:((List In)×Int×Int×Tx×(List (YT×Bool)))):Option (((List In)×Int×Int×Tx×(List (YT×Bool)))⊕((Bool×Tx×(List (YT×Bool)))⊕(Tx×(List (YT×Bool))))):=
 if (decide (s.2.2.1 < s.2.1))=true then
  (idx s.1 s.2.2.1).bind fun e57=>
  Zl6 (Zd9 s.2.2.2.2 e57.1) (fun e58=>
   if e58=true then
    some (.inr (.inl (false,s.2.2.2.1,s.2.2.2.2)))
   else
   if (decide (e57.1.2 < 0))=true then
    some (.inr (.inl (false,s.2.2.2.1,s.2.2.2.2)))
   else
   if (decide (e57.1.2 ≥ 64))=true then
    some (.inr (.inl (false,s.2.2.2.1,s.2.2.2.2)))
   else
   (ZaO F e57.2).bind fun o59=>
   if (!o59)=true then
    some (.inr (.inl (false,s.2.2.2.1,s.2.2.2.2)))
   else
   some (.inl (s.1,s.2.1,wi (s.2.2.1+1),s.2.2.2.1,Zjb s.2.2.2.2 e57.1 true))) (
   if (decide (e57.1.2 < 0))=true then
    some (.inr (.inl (false,s.2.2.2.1,s.2.2.2.2)))
   else
   if (decide (e57.1.2 ≥ 64))=true then
    some (.inr (.inl (false,s.2.2.2.1,s.2.2.2.2)))
   else
   (ZaO F e57.2).bind fun o60=>
   if (!o60)=true then
    some (.inr (.inl (false,s.2.2.2.1,s.2.2.2.2)))
   else
   some (.inl (s.1,s.2.1,wi (s.2.2.1+1),s.2.2.2.1,Zjb s.2.2.2.2 e57.1 true)))
 else
 some (.inr (.inr (s.2.2.2.1,s.2.2.2.2)))
def Zmj:Lp:=⟨[(1,.ref 0 []),(3,.mp 1),(33,.v (.sl yIn)),(34,.v (.int .i64)),(35,.v (.int .i64))],[.var (.v yTx) true,.map 54 Yg .bool],[(.sl yIn),(.int .i64),(.int .i64),yTx,(ZbG Yg .bool)],[⟨.ret,[(2,.v .bool)],[.var (.v yTx) true,.map 54 Yg .bool],[.bool,yTx,(ZbG Yg .bool)]⟩,⟨.exit 0,[(1,.ref 0 [])],[.var (.v yTx) true,.map 54 Yg .bool],[yTx,(ZbG Yg .bool)]⟩],Zk (Qw fuel) fuel⟩
theorem Zov:Zmj.Ok Try.prog (Zt Try.prog 5) (Zp Try.prog 5 0):=Zq (fi:={ hi:={ still:=[2,57,73,75,83]},lp:=[]}) (specs:={ l:=[Zks]}) (okS ⟨ZiE,trivial⟩) trivial (by kernel_rfl) (fun v=>by kernel_rfl)
def Qx (F:Nat) (s:(Int×(List Out)×Int×Int×Tx×(List (YT×Bool)))):Option ((Int×(List Out)×Int×Int×Tx×(List (YT×Bool)))⊕((Bool×Tx×(List (YT×Bool)))⊕(Tx×(List (YT×Bool))))):=
 if (decide (s.2.2.2.1 < s.2.2.1))=true then
  (idx s.2.1 s.2.2.2.1).bind fun e64=>
  (Zku F s.1 e64.1).bind fun o65=>
  if (!o65.2)=true then
   some (.inr (.inl (false,s.2.2.2.2.1,s.2.2.2.2.2)))
  else
  (Xl F e64.2).bind fun o66=>
  if (!o66)=true then
   some (.inr (.inl (false,s.2.2.2.2.1,s.2.2.2.2.2)))
  else
  some (.inl (o65.1,s.2.1,s.2.2.1,wi (s.2.2.2.1+1),s.2.2.2.2.1,s.2.2.2.2.2))
 else
 some (.inr (.inr (s.2.2.2.2.1,s.2.2.2.2.2)))
def Zmk:Lp:=⟨[(6,.v (.int .i64)),(66,.v (.sl YI)),(67,.v (.int .i64)),(68,.v (.int .i64))],[.var (.v yTx) true,.map 54 Yg .bool],[(.int .i64),(.sl YI),(.int .i64),(.int .i64),yTx,(ZbG Yg .bool)],[⟨.ret,[(2,.v .bool)],[.var (.v yTx) true,.map 54 Yg .bool],[.bool,yTx,(ZbG Yg .bool)]⟩,⟨.exit 2,[],[.var (.v yTx) true,.map 54 Yg .bool],[yTx,(ZbG Yg .bool)]⟩],Zk (Qx fuel) fuel⟩
theorem Zow:Zmk.Ok Try.prog (Zt Try.prog 5) (Zp Try.prog 5 1):=Zq (fi:={ hi:={ still:=[2,57,73,75,83]},lp:=[]}) (specs:={ l:=[ZqA,ZbI]}) (okS ⟨Zou,Zau,trivial⟩) trivial (by kernel_rfl) (fun v=>by kernel_rfl)
def Y3 (F:Nat) (a0:Tx):Option (Bool):=
 if (decide ((a0.1.length:Int) < 1))=true then
  some false
 else
 if (decide ((a0.1.length:Int) > 64))=true then
  some false
 else
 if (decide ((a0.2.1.length:Int) > 64))=true then
  some false
 else
 if (decide (a0.2.2 < 0))=true then
  some false
 else
 (Zk (Qw F) F (a0.1,(a0.1.length:Int),(0:Int),a0,([]:List (YT×Bool)))).bind fun o61=>
 match o61 with
 |.inl o62=>
  some o62.1
 |.inr o63=>
  (Zk (Qx F) F ((0:Int),o63.1.2.1,(o63.1.2.1.length:Int),(0:Int),o63.1,o63.2)).bind fun o67=>
  match o67 with
  |.inl o68=>
   some o68.1
  |.inr o69=>
   some true
def ZgY (F:Nat):Fs Try.prog:=⟨5,[.v yTx],[],[yTx],[⟨.ret,[(0,.v .bool)],[],[.bool]⟩],fun x=>Y3 F x⟩
def VN:Fs Try.prog:=ZgY fuel
theorem W0:VN.Ok:=Zn (fi:={ hi:={ still:=[2,57,73,75,83]},lp:=[(0,Zmj),(1,Zmk)]}) (specs:={ l:=[]}) (okS trivial) ⟨Zov,Zow,trivial⟩ (by decide+kernel) (fun x=>by kernel_rfl)
def Yt (F:Nat) (s:((List (List UInt8))×Int×(List (List UInt8))×Int×Int)):Option (((List (List UInt8))×Int×(List (List UInt8))×Int×Int)⊕((List (List UInt8))×Int)):=
 if (decide (s.2.2.2.2 < s.2.2.2.1))=true then
  (idx s.2.2.1 s.2.2.2.2).bind fun e70=>
  if (decide ((wi (s.2.1+(e70.length:Int))) < 0))=true then
   none
  else
  some (.inl (s.1,wi (s.2.1+(e70.length:Int)),s.2.2.1,s.2.2.2.1,wi (s.2.2.2.2+1)))
 else
 some (.inr (s.1,s.2.1))
def W1:Lp:=⟨[(0,.v (.sl (.sl .u8))),(3,.v (.int .i64)),(9,.v (.sl (.sl .u8))),(10,.v (.int .i64)),(11,.v (.int .i64))],[],[(.sl (.sl .u8)),(.int .i64),(.sl (.sl .u8)),(.int .i64),(.int .i64)],[⟨.exit 0,[(0,.v (.sl (.sl .u8))),(3,.v (.int .i64))],[],[(.sl (.sl .u8)),(.int .i64)]⟩],Zk (Yt fuel) fuel⟩
theorem ZaP:W1.Ok Try.prog (Zt Try.prog 70) (Zp Try.prog 70 0):=Zq (fi:={ hi:={ own:=[6,24,31,33],still:=[2,23]},lp:=[]}) (specs:={ l:=[]}) (okS trivial) trivial (by kernel_rfl) (fun v=>by kernel_rfl)
def X6:Fs Try.prog:=⟨76,[.nil .u8,.v (.int .i64)],[],[.int .i64],[⟨.ret,[(0,.own 0 .u8)],[.log .u8 5],[.sl .u8]⟩],Zol⟩
def Vw (F:Nat):Fs Try.prog:=X6
theorem Vx:X6.Ok:=ZA7 ZzJ
def Yu (F:Nat) (s:((List (List UInt8))×Int×Int×(List UInt8))):Option (((List (List UInt8))×Int×Int×(List UInt8))⊕(List UInt8)):=
 if (decide (s.2.2.1 < s.2.1))=true then
  (idx s.1 s.2.2.1).bind fun e73=>
  if (apB s.2.2.2.length e73.length 1)=true then
   some (.inl (s.1,s.2.1,wi (s.2.2.1+1),s.2.2.2++e73))
  else
  none
 else
 some (.inr s.2.2.2)
def W2:Lp:=⟨[(6,.own 0 .u8),(25,.v (.sl (.sl .u8))),(26,.v (.int .i64)),(27,.v (.int .i64))],[.log .u8 5],[(.sl (.sl .u8)),(.int .i64),(.int .i64),(.sl .u8)],[⟨.exit 2,[(6,.own 0 .u8)],[.log .u8 5],[(.sl .u8)]⟩],Zk (Yu fuel) fuel⟩
theorem ZaQ:W2.Ok Try.prog (Zt Try.prog 70) (Zp Try.prog 70 1):=Zq (fi:={ hi:={ own:=[6,24,31,33],still:=[2,23]},lp:=[]}) (specs:={ l:=[]}) (okS trivial) trivial (by kernel_rfl) (fun v=>by kernel_rfl)
def Yj (F:Nat) (a0:(List (List UInt8))):Option ((List UInt8)):=
 (Zk (Yt F) F (a0,(0:Int),a0,(a0.length:Int),(0:Int))).bind fun o71=>
 (Zol o71.2).bind fun o72=>
 (Zk (Yu F) F (o71.1,(o71.1.length:Int),(0:Int),o72)).bind fun o74=>
 some o74
def Xu (F:Nat):Fs Try.prog:=⟨70,[.v (.sl (.sl .u8))],[],[(.sl (.sl .u8))],[⟨.ret,[(0,.v (.sl .u8))],[],[(.sl .u8)]⟩],fun x=>Yj F x⟩
def XI:Fs Try.prog:=Xu fuel
theorem Xv:XI.Ok:=Zn (fi:={ hi:={ own:=[6,24,31,33],still:=[2,23]},lp:=[(0,W1),(1,W2)]}) (specs:={ l:=[X6]}) (okS ⟨Vx,trivial⟩) ⟨ZaP,ZaQ,trivial⟩ (by decide+kernel) (fun x=>by kernel_rfl)
def VO (F:Nat) (a0:(List UInt8)) (a1:(List UInt8)):Option ((List UInt8)):=
 (Yj F ([a0,a1]:List (List UInt8))).bind fun o75=>
 some o75
def Zff (F:Nat):Fs Try.prog:=⟨58,[.v (.sl .u8),.v (.sl .u8)],[],[(.sl .u8),(.sl .u8)],[⟨.ret,[(0,.v (.sl .u8))],[],[(.sl .u8)]⟩],fun x=>VO F x.1 x.2⟩
def Zdn:Fs Try.prog:=Zff fuel
theorem ZbJ:Zdn.Ok:=Zn (fi:={ hi:={ still:=[4,7]},lp:=[]}) (specs:={ l:=[XI]}) (okS ⟨Xv,trivial⟩) trivial (by decide+kernel) (fun x=>by kernel_rfl)
def ZbK (F:Nat) (s:(Int×(List UInt8))):Option ((Int×(List UInt8))⊕(Int×(List UInt8))):=
 if (decide (s.1 ≥ 128))=true then
  if (apB s.2.length 1 1)=true then
   let y76:(List UInt8):=s.2++([w8 (wi ((Int.tmod s.1 128)+128))]:List UInt8)
   some (.inl (wi (Int.tdiv s.1 128),y76))
  else
  none
 else
 some (.inr (s.1,s.2))
def Zml:Lp:=⟨[(0,.v (.int .i64)),(3,.own 0 .u8)],[.log .u8 5],[(.int .i64),(.sl .u8)],[⟨.exit 0,[(0,.v (.int .i64)),(3,.own 0 .u8)],[.log .u8 5],[(.int .i64),(.sl .u8)]⟩],Zk (ZbK fuel) fuel⟩
theorem Zox:Zml.Ok Try.prog (Zt Try.prog 59) (Zp Try.prog 59 0):=Zq (fi:={ hi:={ own:=[3,8,14,15,19],still:=[2]},lp:=[]}) (specs:={ l:=[]}) (okS trivial) trivial (by kernel_rfl) (fun v=>by kernel_rfl)
def Zej (F:Nat) (a0:Int):Option ((List UInt8)):=
 (Zk (ZbK F) F (a0,([]:List UInt8))).bind fun o77=>
 if (apB o77.2.length 1 1)=true then
  some (o77.2++([w8 o77.1]:List UInt8))
 else
 none
def ZgZ (F:Nat):Fs Try.prog:=⟨59,[.v (.int .i64)],[],[(.int .i64)],[⟨.ret,[(0,.v (.sl .u8))],[],[(.sl .u8)]⟩],fun x=>Zej F x⟩
def Zjp:Fs Try.prog:=ZgZ fuel
theorem Zg0:Zjp.Ok:=Zn (fi:={ hi:={ own:=[3,8,14,15,19],still:=[2]},lp:=[(0,Zml)]}) (specs:={ l:=[]}) (okS trivial) ⟨Zox,trivial⟩ (by decide+kernel) (fun x=>by kernel_rfl)
def Y4 (F:Nat) (a0:(List UInt8)) (a1:Int):Option ((List UInt8)):=
 if (decide (a1 < 0))=true then
  (VO F a0 ([]:List UInt8)).bind fun o78=>
  some o78
 else
 (Zej F a1).bind fun o79=>
 (VO F a0 o79).bind fun o80=>
 some o80
def Zg1 (F:Nat):Fs Try.prog:=⟨25,[.v (.sl .u8),.v (.int .i64)],[],[(.sl .u8),(.int .i64)],[⟨.ret,[(0,.v (.sl .u8))],[],[(.sl .u8)]⟩],fun x=>Y4 F x.1 x.2⟩
def VP:Fs Try.prog:=Zg1 fuel
theorem W3:VP.Ok:=Zn (fi:={ hi:={ still:=[4,7,9,10,11]},lp:=[]}) (specs:={ l:=[Zdn,Zjp]}) (okS ⟨ZbJ,Zg0,trivial⟩) trivial (by decide+kernel) (fun x=>by kernel_rfl)
def Zav (F:Nat) (a0:(List UInt8)) (a1:(List UInt8)):Option ((List UInt8)):=
 (VO F a0 a1).bind fun o81=>
 some o81
def Za9 (F:Nat):Fs Try.prog:=⟨55,[.v (.sl .u8),.v (.arr 32 .u8)],[],[(.sl .u8),(.arr 32 .u8)],[⟨.ret,[(0,.v (.sl .u8))],[],[(.sl .u8)]⟩],fun x=>Zav F x.1 x.2⟩
def Zg2:Fs Try.prog:=Za9 fuel
theorem Zf6:Zg2.Ok:=Zn (fi:={ hi:={ still:=[4,5,6],frz:=[6]},lp:=[]}) (specs:={ l:=[Zdn]}) (okS ⟨ZbJ,trivial⟩) trivial (by decide+kernel) (fun x=>by kernel_rfl)
def Qy (F:Nat) (a0:(List UInt8)) (a1:(List UInt8)):Option ((List UInt8)):=
 (Zej F (a1.length:Int)).bind fun o82=>
 (Yj F ([a0,o82,a1]:List (List UInt8))).bind fun o83=>
 some o83
def Zaj (F:Nat):Fs Try.prog:=⟨56,[.v (.sl .u8),.v (.sl .u8)],[],[(.sl .u8),(.sl .u8)],[⟨.ret,[(0,.v (.sl .u8))],[],[(.sl .u8)]⟩],fun x=>Qy F x.1 x.2⟩
def Zf7:Fs Try.prog:=Zaj fuel
theorem Zek:Zf7.Ok:=Zn (fi:={ hi:={ still:=[4,7,10]},lp:=[]}) (specs:={ l:=[Zjp,XI]}) (okS ⟨Zg0,Xv,trivial⟩) trivial (by decide+kernel) (fun x=>by kernel_rfl)
def VG (F:Nat) (s:((List UInt8)×UInt64×Int×(List UInt8))):Option (((List UInt8)×UInt64×Int×(List UInt8))⊕((List UInt8)×(List UInt8))):=
 if (decide (s.2.2.1 < 8))=true then
  if (decide (0≤wi (56 - (wi (8*s.2.2.1)))))=true then
   let y84:UInt64:=Yi s.2.1 (min (wi (56 - (wi (8*s.2.2.1)))).toNat 64)
   if (inB s.2.2.1 8)=true then
    (s.2.2.2[s.2.2.1.toNat]?).bind fun e85=>
    some (.inl (s.1,s.2.1,wi (s.2.2.1+1),s.2.2.2.set s.2.2.1.toNat (w8 (y84.toNat:Int))))
   else
   none
  else
  none
 else
 some (.inr (s.1,s.2.2.2))
def Zg3:Lp:=⟨[(0,.v (.sl .u8)),(1,.v .u64),(5,.ref 0 []),(7,.v (.int .i64))],[.var (.v (.arr 8 .u8)) true],[(.sl .u8),.u64,(.int .i64),(.arr 8 .u8)],[⟨.exit 0,[(0,.v (.sl .u8)),(5,.ref 0 [])],[.var (.v (.arr 8 .u8)) true],[(.sl .u8),(.arr 8 .u8)]⟩],Zk (VG fuel) fuel⟩
theorem ZkB:Zg3.Ok Try.prog (Zt Try.prog 26) (Zp Try.prog 26 0):=Zq (fi:={ hi:={ still:=[4,19,20],frz:=[20]},lp:=[]}) (specs:={ l:=[]}) (okS trivial) trivial (by kernel_rfl) (fun v=>by kernel_rfl)
def XU (F:Nat) (a0:(List UInt8)) (a1:UInt64):Option ((List UInt8)):=
 (Zk (VG F) F (a0,a1,(0:Int),([0,0,0,0,0,0,0,0]:List UInt8))).bind fun o86=>
 (VO F o86.1 o86.2).bind fun o87=>
 some o87
def Zcu (F:Nat):Fs Try.prog:=⟨26,[.v (.sl .u8),.v .u64],[],[(.sl .u8),.u64],[⟨.ret,[(0,.v (.sl .u8))],[],[(.sl .u8)]⟩],fun x=>XU F x.1 x.2⟩
def Vy:Fs Try.prog:=Zcu fuel
theorem W4:Vy.Ok:=Zn (fi:={ hi:={ still:=[4,19,20],frz:=[20]},lp:=[(0,Zg3)]}) (specs:={ l:=[Zdn]}) (okS ⟨ZbJ,trivial⟩) ⟨ZkB,trivial⟩ (by decide+kernel) (fun x=>by kernel_rfl)
def W5 (F:Nat) (s:((List UInt8)×(List Ye)×Int×Int×(List UInt64)×Int×Int×XZ×Ye)):Option (((List UInt8)×(List Ye)×Int×Int×(List UInt64)×Int×Int×XZ×Ye)⊕((List UInt8)×(List Ye)×Int×Int×XZ×Ye)):=
 if (decide (s.2.2.2.2.2.2.1 < s.2.2.2.2.2.1))=true then
  (idx s.2.2.2.2.1 s.2.2.2.2.2.2.1).bind fun e92=>
  (XU F s.1 e92).bind fun o93=>
  some (.inl (o93,s.2.1,s.2.2.1,s.2.2.2.1,s.2.2.2.2.1,s.2.2.2.2.2.1,wi (s.2.2.2.2.2.2.1+1),s.2.2.2.2.2.2.2.1,s.2.2.2.2.2.2.2.2))
 else
 some (.inr (s.1,s.2.1,s.2.2.1,s.2.2.2.1,s.2.2.2.2.2.2.2.1,s.2.2.2.2.2.2.2.2))
def ZiO:Lp:=⟨[(3,.v (.sl .u8)),(5,.ref 1 []),(16,.v (.sl Zv)),(17,.v (.int .i64)),(18,.v (.int .i64)),(28,.v (.sl .u64)),(29,.v (.int .i64)),(30,.v (.int .i64))],[.var (.v Y2) true,.var (.v Zv) true],[(.sl .u8),(.sl Zv),(.int .i64),(.int .i64),(.sl .u64),(.int .i64),(.int .i64),Y2,Zv],[⟨.exit 2,[(3,.v (.sl .u8)),(5,.ref 1 []),(16,.v (.sl Zv)),(17,.v (.int .i64)),(18,.v (.int .i64))],[.var (.v Y2) true,.var (.v Zv) true],[(.sl .u8),(.sl Zv),(.int .i64),(.int .i64),Y2,Zv]⟩],Zk (W5 fuel) fuel⟩
theorem ZlF:ZiO.Ok Try.prog (Zt Try.prog 57) (Zp Try.prog 57 1):=Zq (fi:={ hi:={ still:=[2,8,13,22,25,34,35,38,40,41,43,44,46]},lp:=[]}) (specs:={ l:=[Vy]}) (okS ⟨W4,trivial⟩) trivial (by kernel_rfl) (fun v=>by kernel_rfl)
def Qz (F:Nat) (s:((List UInt8)×(List Ye)×Int×Int×XZ)):Option (((List UInt8)×(List Ye)×Int×Int×XZ)⊕((List UInt8)×XZ)):=
 if (decide (s.2.2.2.1 < s.2.2.1))=true then
  (idx s.2.1 s.2.2.2.1).bind fun e90=>
  (Y4 F s.1 (e90.1.length:Int)).bind fun o91=>
  (Zk (W5 F) F (o91,s.2.1,s.2.2.1,s.2.2.2.1,e90.1,(e90.1.length:Int),(0:Int),s.2.2.2.2,e90)).bind fun o94=>
  (Y4 F o94.1 o94.2.2.2.2.2.2.1).bind fun o95=>
  (Y4 F o95 o94.2.2.2.2.2.2.2.1).bind fun o96=>
  (XU F o96 o94.2.2.2.2.2.2.2.2).bind fun o97=>
  some (.inl (o97,o94.2.1,o94.2.2.1,wi (o94.2.2.2.1+1),o94.2.2.2.2.1))
 else
 some (.inr (s.1,s.2.2.2.2))
def ZiP:Lp:=⟨[(3,.v (.sl .u8)),(16,.v (.sl Zv)),(17,.v (.int .i64)),(18,.v (.int .i64))],[.var (.v Y2) true],[(.sl .u8),(.sl Zv),(.int .i64),(.int .i64),Y2],[⟨.exit 0,[(3,.v (.sl .u8))],[.var (.v Y2) true],[(.sl .u8),Y2]⟩],Zk (Qz fuel) fuel⟩
theorem ZlG:ZiP.Ok Try.prog (Zt Try.prog 57) (Zp Try.prog 57 0):=Zq (fi:={ hi:={ still:=[2,8,13,22,25,34,35,38,40,41,43,44,46]},lp:=[(1,ZiO)]}) (specs:={ l:=[VP,Vy]}) (okS ⟨W3,W4,trivial⟩) ⟨ZlF,trivial⟩ (by kernel_rfl) (fun v=>by kernel_rfl)
def ZaR (F:Nat) (a0:XZ):Option ((List UInt8)):=
 (Xl F a0).bind fun o88=>
 if (!o88)=true then
  some ([]:List UInt8)
 else
 (Y4 F ([]:List UInt8) (a0.length:Int)).bind fun o89=>
 (Zk (Qz F) F (o89,a0,(a0.length:Int),(0:Int),a0)).bind fun o98=>
 some o98.1
def ZdL (F:Nat):Fs Try.prog:=⟨57,[.v Y2],[],[Y2],[⟨.ret,[(0,.v (.sl .u8))],[],[(.sl .u8)]⟩],fun x=>ZaR F x⟩
def Zfg:Fs Try.prog:=ZdL fuel
theorem ZdM:Zfg.Ok:=Zn (fi:={ hi:={ still:=[2,8,13,22,25,34,35,38,40,41,43,44,46]},lp:=[(0,ZiP)]}) (specs:={ l:=[ZbI,VP]}) (okS ⟨Zau,W3,trivial⟩) ⟨ZlG,trivial⟩ (by decide+kernel) (fun x=>by kernel_rfl)
def ZbL (F:Nat) (s:((List UInt8)×(List In)×Int×Int×Tx)):Option (((List UInt8)×(List In)×Int×Int×Tx)⊕((List UInt8)×Tx)):=
 if (decide (s.2.2.2.1 < s.2.2.1))=true then
  (idx s.2.1 s.2.2.2.1).bind fun e100=>
  (Zav F s.1 e100.1.1).bind fun o101=>
  (Y4 F o101 e100.1.2).bind fun o102=>
  some (.inl (o102,s.2.1,s.2.2.1,wi (s.2.2.2.1+1),s.2.2.2.2))
 else
 some (.inr (s.1,s.2.2.2.2))
def Zmm:Lp:=⟨[(1,.ref 0 []),(3,.v (.sl .u8)),(13,.v (.sl yIn)),(14,.v (.int .i64)),(15,.v (.int .i64))],[.var (.v yTx) true],[(.sl .u8),(.sl yIn),(.int .i64),(.int .i64),yTx],[⟨.exit 0,[(1,.ref 0 []),(3,.v (.sl .u8))],[.var (.v yTx) true],[(.sl .u8),yTx]⟩],Zk (ZbL fuel) fuel⟩
theorem Zoy:Zmm.Ok Try.prog (Zt Try.prog 24) (Zp Try.prog 24 0):=Zq (fi:={ hi:={ still:=[2,10,19,22,23,26,29,32,41,43,44,46,47,50,52]},lp:=[]}) (specs:={ l:=[Zg2,VP]}) (okS ⟨Zf6,W3,trivial⟩) trivial (by kernel_rfl) (fun v=>by kernel_rfl)
def ZbM (F:Nat) (s:((List UInt8)×(List Out)×Int×Int×Tx)):Option (((List UInt8)×(List Out)×Int×Int×Tx)⊕((List UInt8)×Tx)):=
 if (decide (s.2.2.2.1 < s.2.2.1))=true then
  (idx s.2.1 s.2.2.2.1).bind fun e105=>
  (Y4 F s.1 e105.1).bind fun o106=>
  (ZaR F e105.2).bind fun o107=>
  (Qy F o106 o107).bind fun o108=>
  some (.inl (o108,s.2.1,s.2.2.1,wi (s.2.2.2.1+1),s.2.2.2.2))
 else
 some (.inr (s.1,s.2.2.2.2))
def Zmn:Lp:=⟨[(1,.ref 0 []),(3,.v (.sl .u8)),(35,.v (.sl YI)),(36,.v (.int .i64)),(37,.v (.int .i64))],[.var (.v yTx) true],[(.sl .u8),(.sl YI),(.int .i64),(.int .i64),yTx],[⟨.exit 2,[(1,.ref 0 []),(3,.v (.sl .u8))],[.var (.v yTx) true],[(.sl .u8),yTx]⟩],Zk (ZbM fuel) fuel⟩
theorem Zoz:Zmn.Ok Try.prog (Zt Try.prog 24) (Zp Try.prog 24 1):=Zq (fi:={ hi:={ still:=[2,10,19,22,23,26,29,32,41,43,44,46,47,50,52]},lp:=[]}) (specs:={ l:=[VP,Zfg,Zf7]}) (okS ⟨W3,ZdM,Zek,trivial⟩) trivial (by kernel_rfl) (fun v=>by kernel_rfl)
def Zel (F:Nat) (a0:Tx):Option ((List UInt8)):=
 (Y4 F ([]:List UInt8) (a0.1.length:Int)).bind fun o99=>
 (Zk (ZbL F) F (o99,a0.1,(a0.1.length:Int),(0:Int),a0)).bind fun o103=>
 (Y4 F o103.1 (o103.2.2.1.length:Int)).bind fun o104=>
 (Zk (ZbM F) F (o104,o103.2.2.1,(o103.2.2.1.length:Int),(0:Int),o103.2)).bind fun o109=>
 (Y4 F o109.1 o109.2.2.2).bind fun o110=>
 some o110
def Zg4 (F:Nat):Fs Try.prog:=⟨24,[.v yTx],[],[yTx],[⟨.ret,[(0,.v (.sl .u8))],[],[(.sl .u8)]⟩],fun x=>Zel F x⟩
def Zjq:Fs Try.prog:=Zg4 fuel
theorem Zg5:Zjq.Ok:=Zn (fi:={ hi:={ still:=[2,10,19,22,23,26,29,32,41,43,44,46,47,50,52]},lp:=[(0,Zmm),(1,Zmn)]}) (specs:={ l:=[VP]}) (okS ⟨W3,trivial⟩) ⟨Zoy,Zoz,trivial⟩ (by decide+kernel) (fun x=>by kernel_rfl)
def ZbN (F:Nat) (s:((List UInt8)×(List In)×Int×Int×(List Sig)×Int×Int×Tx×In)):Option (((List UInt8)×(List In)×Int×Int×(List Sig)×Int×Int×Tx×In)⊕((List UInt8)×(List In)×Int×Int×Tx×In)):=
 if (decide (s.2.2.2.2.2.2.1 < s.2.2.2.2.2.1))=true then
  (idx s.2.2.2.2.1 s.2.2.2.2.2.2.1).bind fun e116=>
  (XU F s.1 e116.1).bind fun o117=>
  (XU F o117 e116.2).bind fun o118=>
  some (.inl (o118,s.2.1,s.2.2.1,s.2.2.2.1,s.2.2.2.2.1,s.2.2.2.2.2.1,wi (s.2.2.2.2.2.2.1+1),s.2.2.2.2.2.2.2.1,s.2.2.2.2.2.2.2.2))
 else
 some (.inr (s.1,s.2.1,s.2.2.1,s.2.2.2.1,s.2.2.2.2.2.2.2.1,s.2.2.2.2.2.2.2.2))
def Zmo:Lp:=⟨[(3,.v (.sl .u8)),(5,.ref 1 []),(14,.v (.sl yIn)),(15,.v (.int .i64)),(16,.v (.int .i64)),(32,.v (.sl Zgj)),(33,.v (.int .i64)),(34,.v (.int .i64))],[.var (.v yTx) true,.var (.v yIn) true],[(.sl .u8),(.sl yIn),(.int .i64),(.int .i64),(.sl Zgj),(.int .i64),(.int .i64),yTx,yIn],[⟨.exit 2,[(3,.v (.sl .u8)),(5,.ref 1 []),(14,.v (.sl yIn)),(15,.v (.int .i64)),(16,.v (.int .i64))],[.var (.v yTx) true,.var (.v yIn) true],[(.sl .u8),(.sl yIn),(.int .i64),(.int .i64),yTx,yIn]⟩],Zk (ZbN fuel) fuel⟩
theorem ZoA:Zmo.Ok Try.prog (Zt Try.prog 6) (Zp Try.prog 6 1):=Zq (fi:={ hi:={ still:=[2,8,11,20,23,24,28,38,40,41,43,46,49]},lp:=[]}) (specs:={ l:=[Vy]}) (okS ⟨W4,trivial⟩) trivial (by kernel_rfl) (fun v=>by kernel_rfl)
def ZbO (F:Nat) (s:((List UInt8)×(List In)×Int×Int×Tx)):Option (((List UInt8)×(List In)×Int×Int×Tx)⊕((List UInt8)×Tx)):=
 if (decide (s.2.2.2.1 < s.2.2.1))=true then
  (idx s.2.1 s.2.2.2.1).bind fun e113=>
  (Y4 F s.1 e113.2.1).bind fun o114=>
  (Y4 F o114 (e113.2.2.1.length:Int)).bind fun o115=>
  (Zk (ZbN F) F (o115,s.2.1,s.2.2.1,s.2.2.2.1,e113.2.2.1,(e113.2.2.1.length:Int),(0:Int),s.2.2.2.2,e113)).bind fun o119=>
  (XU F o119.1 o119.2.2.2.2.2.2.2.2).bind fun o120=>
  some (.inl (o120,o119.2.1,o119.2.2.1,wi (o119.2.2.2.1+1),o119.2.2.2.2.1))
 else
 some (.inr (s.1,s.2.2.2.2))
def Zmp:Lp:=⟨[(3,.v (.sl .u8)),(14,.v (.sl yIn)),(15,.v (.int .i64)),(16,.v (.int .i64))],[.var (.v yTx) true],[(.sl .u8),(.sl yIn),(.int .i64),(.int .i64),yTx],[⟨.exit 0,[(3,.v (.sl .u8))],[.var (.v yTx) true],[(.sl .u8),yTx]⟩],Zk (ZbO fuel) fuel⟩
theorem ZoB:Zmp.Ok Try.prog (Zt Try.prog 6) (Zp Try.prog 6 0):=Zq (fi:={ hi:={ still:=[2,8,11,20,23,24,28,38,40,41,43,46,49]},lp:=[(1,Zmo)]}) (specs:={ l:=[VP,Vy]}) (okS ⟨W3,W4,trivial⟩) ⟨ZoA,trivial⟩ (by kernel_rfl) (fun v=>by kernel_rfl)
def Zem (F:Nat) (a0:Tx):Option ((List UInt8)):=
 (Y3 F a0).bind fun o111=>
 if (!o111)=true then
  some ([]:List UInt8)
 else
 (Zel F a0).bind fun o112=>
 (Zk (ZbO F) F (o112,a0.1,(a0.1.length:Int),(0:Int),a0)).bind fun o121=>
 some o121.1
def Zg6 (F:Nat):Fs Try.prog:=⟨6,[.v yTx],[],[yTx],[⟨.ret,[(0,.v (.sl .u8))],[],[(.sl .u8)]⟩],fun x=>Zem F x⟩
def Zjr:Fs Try.prog:=Zg6 fuel
theorem Zg7:Zjr.Ok:=Zn (fi:={ hi:={ still:=[2,8,11,20,23,24,28,38,40,41,43,46,49]},lp:=[(0,Zmp)]}) (specs:={ l:=[VN,Zjq]}) (okS ⟨W0,Zg5,trivial⟩) ⟨ZoB,trivial⟩ (by decide+kernel) (fun x=>by kernel_rfl)
end
end Go.Proofs.Ytehgcchjaamddaa
end
