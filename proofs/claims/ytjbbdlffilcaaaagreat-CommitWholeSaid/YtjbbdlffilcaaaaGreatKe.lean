/- Parts of the proof, in one file. -/
import Derived.Test.YtjbbdlffilcaaaaGreatKd
open Bool renaming and_eq_true → yg
open Go.Proofs.Tryz renaming prog → ya
open Int renaming toNat_natCast → yca
open List renaming getElem?_eq_some_iff → yj, length_append → yl, range → yo, replicate → yp, length_map → yr, getElem?_eq_getElem → yv, map_cons → yy, length_cons → yz, getElem?_map → yaa, getElem?_append_left → yae, append_assoc → yaf, map_append → yai, getElem?_append_right → yaj, getElem?_eq_none → yak, mem_singleton → yal, mem_cons_self → yam, map_map → yao, mem_cons_of_mem → yaq, getElem?_cons_succ → yat, append_nil → yba, take_append_drop → ybc, mem_cons → ybf, length_drop → ybn, map_take → ybs, getElem?_cons_zero → ybt, map_congr_left → yby, getElem?_set_self → ycb, not_mem_nil → ycg, mem_append → ych, length_replicate → yci, getD_eq_getElem?_getD → ycp
open Nat renaming le_refl → yi, add → ym, shiftRight → yx, mod_eq_of_lt → yah, add_mul → yan, mod_lt → yav, zero_add → yax, mul_comm → ybm, lt_or_ge → ybr, eq_zero_or_pos → ybw, add_assoc → ybx, two_pow_add_eq_or_of_lt → yct, shiftRight_eq_div_pow → ycu
open Option renaming bind_some → yb, bind_eq_some_iff → yc, map_some → yw
open Option.some renaming inj → ybj
open UInt32 renaming toNat → yad, ofNat → ybe, toNat_ofNat' → ycf
open UInt64 renaming ofNat → yag, toNat_ofNat' → ybd, toNat_lt → ybi, lt_iff_toNat_lt → ybq
open UInt8 renaming toNat → yac, ofNat → yas
set_option linter.unusedVariables false
set_option linter.unusedSimpArgs false
section
namespace Go.Ev
section
variable {P:Program}
theorem ZxY {x y:Code} {ts ts1 ts2:List Dv} {H H1 H2:List Ent} {ex:Ex} (r1:XK P x ts H .normal ts1 H1) (r2:XK P y ts1 H1 ex ts2 H2):XK P (.seq x y) ts H ex ts2 H2:=by
 intro σ a ok hH hrep
 refine wp_seq (wp_mono (r1 σ a ok hH hrep) ?_)
 rintro e a' w' ⟨rfl,σ1,rfl,e1,to1,ok1,hrep1⟩
 refine wp_mono (r2 σ1 a' ok1 e1 hrep1) ?_
 rintro e a'' w'' ⟨rfl,σ2,rfl,e2,to2,ok2,hrep2⟩
 exact ⟨rfl,σ2,rfl,e2,to1.trans to2,ok2,hrep2⟩
theorem Zuf {x y:Code} {ts ts1:List Dv} {H H1:List Ent} {ex:Ex} (hne:ex≠ .normal) (r1:XK P x ts H ex ts1 H1):XK P (.seq x y) ts H ex ts1 H1:=by
 intro σ a ok hH hrep
 refine wp_seq (wp_mono (r1 σ a ok hH hrep) ?_)
 rintro e a' w' ⟨rfl,hq⟩
 cases ex with
 |normal=>exact absurd rfl hne
 |exit id=>exact ⟨rfl,hq⟩
 |ret=>exact ⟨rfl,hq⟩
theorem Zj7 {c:Operand} {x y:Code} {ts ts1:List Dv} {H H1:List Ent} {ex:Ex} {b:Bool} (hc:Zt P ts 0 c=.p (.bool b)) (r1:XK P (if b then x else y) ts H ex ts1 H1):XK P (.cond c x y) ts H ex ts1 H1:=by
 intro σ a ok hH hrep
 have hv:=Zm (P:=P) hrep 0 c
 rw [hc] at hv
 cases b
 ·exact wp_cond_false (Yk hv) (r1 σ a ok hH hrep)
 ·exact wp_cond_true (Yk hv) (r1 σ a ok hH hrep)
def ZvR (id:Nat):Ex→Ex
 |.exit i=>if i=id then .normal else .exit i
 |ex=>ex
theorem ZzQ {id:Nat} {body:Code} {ts ts1:List Dv} {H H1:List Ent} {ex:Ex} (r1:XK P body ts H ex ts1 H1):XK P (.block id body) ts H (ZvR id ex) ts1 H1:=by
 intro σ a ok hH hrep
 refine wp_block (wp_mono (r1 σ a ok hH hrep) ?_)
 rintro e a' w' ⟨rfl,hq⟩
 cases ex with
 |normal=>exact ⟨rfl,hq⟩
 |exit id'=>
  simp only [Ex.to,Exit.inBlock,ZvR]
  split
  ·exact ⟨rfl,hq⟩
  ·exact ⟨rfl,hq⟩
 |ret=>exact ⟨rfl,hq⟩
theorem ZzR {body:Code} {ts ts1:List Dv} {H H1:List Ent} {ex:Ex} (r1:XK P body ts H ex ts1 H1):XK P (.scope body) ts H ex ts1 H1:=by
 intro σ a ok hH hrep
 refine wp_scope_straight (wp_mono (r1 σ a ok hH hrep) ?_)
 rintro e a' w' ⟨rfl,hq⟩
 cases ex <;> exact ⟨rfl,hq⟩
theorem ZCz {ts:List Dv} {H:List Ent}:XK P .skip ts H .normal ts H:=fun σ a ok hH hrep=>wp_skip ⟨rfl,σ,rfl,hH,To.refl σ,ok,hrep⟩
theorem ZzS {n:Nat} {ts:List Dv} {H:List Ent}:XK P (.label n) ts H .normal ts H:=fun σ a ok hH hrep=>wp_label ⟨rfl,σ,rfl,hH,To.refl σ,ok,hrep⟩
theorem ZCA {n:Nat} {ts:List Dv} {H:List Ent}:XK P (.exit n) ts H (.exit n) ts H:=fun σ a ok hH hrep=>wp_exit ⟨rfl,σ,rfl,hH,To.refl σ,ok,hrep⟩
theorem ZEo {ts:List Dv} {H:List Ent}:XK P .ret ts H .ret ts H:=fun σ a ok hH hrep=>wp_ret ⟨rfl,σ,rfl,hH,To.refl σ,ok,hrep⟩
theorem ZCB {c:Code} {ts ts1:List Dv} {H H1:List Ent} {ex:Ex} (keep:List Nat) (r:XK P c ts H ex ts1 H1):XK P c ts H ex (ZH keep 0 ts1) H1:=by
 intro σ a ok hH hrep
 refine wp_mono (r σ a ok hH hrep) ?_
 rintro e a' w' ⟨rfl,σ1,rfl,e1,to1,ok1,hrep1⟩
 exact ⟨rfl,σ1,rfl,e1,to1,ok1,QN keep hrep1⟩
def ZxZ (n0:Nat) (sl:Slots) (es:List ESh) (a:List TD) (h:List TEnt):Option (List TV):=
 if once (yo n0++[]) then (X4 h (yo n0++[]) (yo n0++[])).bind fun h2=>(TD.rns (toIds (yo n0++[])) (ZhG (sl.map (·.1)) 0 a)).bind fun a2=>
  (Sh.mts (lk h2) (shs sl a.length) a2).bind fun q=>(ESh.mts (lk h2) es h2).bind fun w=>some (q.2++w.2)
 else none
theorem ZzT {n0:Nat} {sl:Slots} {es:List ESh} {a:List TD} {h:List TEnt} {vs:List TV} (k:ZxZ n0 sl es a h=some vs):
 ∃a3 h3,V3 a.length sl es vs=some (a3,h3)∧∀{c:Code} {ts:List Dv} {H:List Ent} {ex:Ex},H.length=n0→XK P c ts H ex (TD.ers (lk h) a) (erH h)→XK P c ts H ex (TD.ers (lk h3) a3) (erH h3):=by
 unfold ZxZ at k
 split at k
 ·rename_i ho
  obtain ⟨h2,h1,k⟩:=yc.1 k
  obtain ⟨a2,e2,k⟩:=yc.1 k
  obtain ⟨q,e3,k⟩:=yc.1 k
  obtain ⟨w,e4,k⟩:=yc.1 k
  cases k
  obtain ⟨g1,g2⟩:=Zga e4
  have hc:∀id t,ZS (lk h2) id t none=ZS (lk w.1) id t none:=fun id t=>by rw [g2]
  refine ⟨q.1,w.1, ?_,fun {c ts H ex} hl r=> ?_⟩
  ·unfold V3
   rw [mts_fills _ _ _ e3]
   have:=ZaV e4 []
   rw [yba] at this
   rw [yb,this]
   rfl
  ·have r1:=ZCB (sl.map (·.1)) r
   rw [←ZmB] at r1
   have r2:=ZCc [] [] r1 (by rw [hl];exact ho) (by rw [hl];exact X5 (QW h1) h1) (by rw [hl];exact rns_er (QW h1) _ _ e2)
   exact Zt0 r2 (mts_wk hc _ _ _ e3) (Zj3 hc e4)
 ·cases k
theorem ZzU {n0:Nat} {sl:Slots} {es:List ESh} {a:List TD} {h:List TEnt} {vs:List TV} (hn:h.length=n0) (k:ZxZ n0 sl es a h=some vs):
 ∃a3 h3,V3 a.length sl es vs=some (a3,h3)∧∀(σ:Sg) (act:Act),Ok σ→σ.H=erH h→RepT σ (TD.ers (lk h) a) act→∃σ':Sg,σ'.w=σ.w∧σ'.H=erH h3∧To σ σ'∧Ok σ'∧RepT σ' (TD.ers (lk h3) a3) act:=by
 subst hn
 unfold ZxZ at k
 split at k
 ·rename_i ho
  obtain ⟨h2,h1,k⟩:=yc.1 k
  obtain ⟨a2,e2,k⟩:=yc.1 k
  obtain ⟨q,e3,k⟩:=yc.1 k
  obtain ⟨w,e4,k⟩:=yc.1 k
  cases k
  obtain ⟨g1,g2⟩:=Zga e4
  have hc:∀id t,ZS (lk h2) id t none=ZS (lk w.1) id t none:=fun id t=>by rw [g2]
  refine ⟨q.1,w.1, ?_,fun σ act ok hH hrep=> ?_⟩
  ·unfold V3
   rw [mts_fills _ _ _ e3]
   have:=ZaV e4 []
   rw [yba] at this
   rw [yb,this]
   rfl
  ·have r1:=QN (sl.map (·.1)) hrep
   rw [←ZmB] at r1
   have hin:subEnts σ.H (yo σ.H.length++[]) (yo σ.H.length++[])=some (erH h2):=by
    rw [hH,ZJ]
    exact X5 (QW h1) h1
   have ho':once (yo σ.H.length++[])=true:=by rw [hH,ZJ];exact ho
   have e2':Dv.rns (toIds (yo σ.H.length++[])) (TD.ers (lk h) (ZhG (sl.map (·.1)) 0 a))=some (TD.ers (lk h2) a2):=by
    rw [hH,ZJ]
    exact rns_er (QW h1) _ _ e2
   have r2:=Zw9 (ZgU hin) e2' r1
   have to1:=ZpQ ok (To.refl σ) ho' hin
   have ok1:=ZpP ok ho' hin
   obtain ⟨to2,ok2⟩:=Zl8 (σ:=ZkJ σ (yo σ.H.length++[]) (erH h2)) ok1 (H':=erH w.1) (Zj3 hc e4)
   exact ⟨{ ZkJ σ (yo σ.H.length++[]) (erH h2) with H:=erH w.1},rfl,rfl,to1.trans to2,ok2,(mts_wk hc _ _ _ e3).repT (r2.to to2.leaf)⟩
 ·cases k
def ZH0 (L:Lk):ESh→TEnt→Option TEnt
 |.rowN _ _ _ _,.rowM u np v st e pre mid post=>(ZHQ L u mid).map fun y=>.rowN u np v st e (pre++[y]) post
 |_,x=>some x
def ZEp (L:Lk):List ESh→List TEnt→Option (List TEnt)
 |[],h=>some h
 |_::_,[]=>some []
 |s::r,x::h=>match ZH0 L s x,ZEp L r h with
  |some y,some ys=>some (y::ys)
  |_,_=>none
theorem ZGp {L:Lk} {s:ESh} {x y:TEnt} (h:ZH0 L s x=some y):lkE (some y)=lkE (some x)∧WkE (x.er L) (y.er L):=by
 unfold ZH0 at h
 split at h
 ·rename_i u np v st e pre mid post
  obtain ⟨c,h1,rfl⟩:=Zb h
  refine ⟨?_,ZAV (ZAS h1)⟩
  simp only [lkE,yl,yz,List.length_nil]
  rw [ybx,Nat.add_comm (0+1)]
 ·cases h
  exact ⟨rfl,.refl _⟩
theorem ZA4 {L:Lk}:∀{es:List ESh} {h h':List TEnt},ZEp L es h=some h'→h'.length=h.length∧(∀j:Nat,lkE (h'[j]?)=lkE (h[j]?))∧WkH (h.map (TEnt.er L)) (h'.map (TEnt.er L))
 |[],h,h',k=>by cases k;exact ⟨rfl,fun _=>rfl,WkH.refl _⟩
 |_::_,[],h',k=>by cases k;exact ⟨rfl,fun _=>rfl,WkH.refl _⟩
 |s::r,x::h,h',k=>by
  simp only [ZEp] at k
  split at k
  ·rename_i y ys h1 h2
   cases k
   obtain ⟨a1,a2⟩:=ZGp h1
   obtain ⟨b1,b2,b3⟩:=ZA4 h2
   refine ⟨by simp [b1],fun j=> ?_,.cons a2 b3⟩
   cases j with
   |zero=>exact a1
   |succ j=>exact b2 j
  ·cases k
theorem ZA5 {es:List ESh} {h h':List TEnt} (k:ZEp (lk h) es h=some h'):h'.length=h.length∧lk h'=lk h∧WkH (erH h) (erH h'):=by
 obtain ⟨a,b,c⟩:=ZA4 k
 have e:lk h'=lk h:=funext b
 refine ⟨a,e, ?_⟩
 unfold erH
 rw [e]
 exact c
def ZvS (n0:Nat) (sl:Slots) (es:List ESh) (a:List TD) (h:List TEnt):Option (List TV):=(ZEp (lk h) es h).bind fun h=>ZxZ n0 sl es a h
theorem Zug {n0:Nat} {sl:Slots} {es:List ESh} {a:List TD} {h:List TEnt} {vs:List TV} (k:ZvS n0 sl es a h=some vs):
 ∃a3 h3,V3 a.length sl es vs=some (a3,h3)∧∀{c:Code} {ts:List Dv} {H:List Ent} {ex:Ex},H.length=n0→XK P c ts H ex (TD.ers (lk h) a) (erH h)→XK P c ts H ex (TD.ers (lk h3) a3) (erH h3):=by
 obtain ⟨h1,k1,k2⟩:=yc.1 k
 obtain ⟨e1,e2,e3⟩:=ZA5 k1
 obtain ⟨a3,h3,g1,g2⟩:=ZzT (P:=P) k2
 refine ⟨a3,h3,g1,fun hl r=>g2 hl ?_⟩
 rw [e2]
 exact Zt0 r (WkL.refl _) e3
theorem Zuh {n0:Nat} {sl:Slots} {es:List ESh} {a:List TD} {h:List TEnt} {vs:List TV} (hn:h.length=n0) (k:ZvS n0 sl es a h=some vs):
 ∃a3 h3,V3 a.length sl es vs=some (a3,h3)∧∀(σ:Sg) (act:Act),Ok σ→σ.H=erH h→RepT σ (TD.ers (lk h) a) act→∃σ':Sg,σ'.w=σ.w∧σ'.H=erH h3∧To σ σ'∧Ok σ'∧RepT σ' (TD.ers (lk h3) a3) act:=by
 obtain ⟨h1,k1,k2⟩:=yc.1 k
 obtain ⟨e1,e2,e3⟩:=ZA5 k1
 obtain ⟨a3,h3,g1,g2⟩:=ZzU (by rw [e1];exact hn) k2
 refine ⟨a3,h3,g1,fun σ act ok hH hr=> ?_⟩
 obtain ⟨to,ok'⟩:=Zl8 ok (H':=erH h1) (by rw [hH];exact e3)
 obtain ⟨σ2,q1,q2,q3,q4,q5⟩:=g2 { σ with H:=erH h1} act ok' rfl (by rw [e2];exact hr.to to.leaf)
 exact ⟨σ2,q1,q2,to.trans q3,q4,q5⟩
structure Lp where
 sl:Slots
 es:List ESh
 I:List Ty
 xs:List XSh
 L:Ty.dens I→Option (XSh.sum xs)
def Lp.Is (P:Program) (n:Nat) (c:Code) (lp:Lp):Prop:=
 ∀v o,lp.L v=some o→∀s,V3 n lp.sl lp.es (ofD lp.I v)=some s→∀e vs s',ZxK lp.xs o e vs→V3 n e.sl e.es vs=some s'→
  XK P c (TD.ers (lk s.2) s.1) (erH s.2) e.ex (TD.ers (lk s'.2) s'.1) (erH s'.2)
abbrev Lp.Ok (P:Program) (n:Nat) (body:Code) (lp:Lp):Prop:=lp.Is P n (.loop body)
structure FI where
 hi:HI:={}
 lp:List (Nat×Lp):=[]
 bk:List (Nat×Lp):=[]
 gh:List (Nat×GOp):=[]
 un:Nat:=0
def Code.nl:Code→Nat
 |.seq a b=>Code.nl a+Code.nl b
 |.cond _ a b=>Code.nl a+Code.nl b
 |.block _ a=>Code.nl a
 |.scope a=>Code.nl a
 |.loop a=>Code.nl a+1
 |_=>0
def Code.ns:Code→Nat
 |.seq a b=>Code.ns a+Code.ns b+1
 |.cond _ a b=>Code.ns a+Code.ns b
 |.block _ a=>Code.ns a
 |.scope a=>Code.ns a
 |.loop a=>Code.ns a
 |_=>0
theorem QX:∀c:Code,(Zz c).length=Code.nl c
 |.seq a b=>by simp only [Zz,yl,QX a,QX b,Code.nl]
 |.cond _ a b=>by simp only [Zz,yl,QX a,QX b,Code.nl]
 |.block _ a=>by simp only [Zz,QX a,Code.nl]
 |.scope a=>by simp only [Zz,QX a,Code.nl]
 |.loop a=>by simp only [Zz,yz,QX a,Code.nl]
 |.skip=>rfl
 |.region _ _ _=>rfl
 |.rangeFunc _ _ _ _=>rfl
 |.exit _=>rfl
 |.ret=>rfl
 |.label _=>rfl
 |.goto _=>rfl
 |.refuse _=>rfl
def ZpX {O:Type} (step:List TD→List TEnt→Kc O→Option O):Nat→List TD→List TEnt→Kc O→Option O
 |0,_,_,_=>none
 |k+1,a,h,K=>step a h fun ex a' h'=>match ex with
  |.normal=>ZpX step k a' h' K
  |ex=>K ex a' h'
theorem ZoJ {O:Type} {body:Code} {N:Nat} {step:List TD→List TEnt→Kc O→Option O}
 (hs:∀(a:List TD) (h:List TEnt) (K:Kc O) (out:O),a.length=N→step a h K=some out→∃ex a' h',K ex a' h'=some out∧a'.length=N∧XK P body (TD.ers (lk h) a) (erH h) ex (TD.ers (lk h') a') (erH h')):
 ∀(k:Nat) (a:List TD) (h:List TEnt) (K:Kc O) (out:O),a.length=N→ZpX step k a h K=some out→∃ex a' h',K ex a' h'=some out∧a'.length=N∧ZtV P body (TD.ers (lk h) a) (erH h) ex (TD.ers (lk h') a') (erH h')
 |0,_,_,_,_,_,k=>by cases k
 |n+1,a,h,K,out,hN,k=>by
  unfold ZpX at k
  obtain ⟨ex,a1,h1,k1,k2,k3⟩:=hs _ _ _ _ hN k
  split at k1
  ·obtain ⟨ex2,a2,h2,k4,k5,k6⟩:=ZoJ hs n a1 h1 K out k2 k1
   exact ⟨ex2,a2,h2,k4,k5,ZtX [] k3 k6⟩
  ·rename_i hne
   exact ⟨_,a1,h1,k1,k2,ZtW hne k3⟩
def evT {O:Type} (P:Program) (fi:FI) (specs:Sp P):Code→Nat→Nat→List TD→List TEnt→Kc O→Option O
 |.skip,_,_,a,h,K=>K .normal a h
 |.label _,_,_,a,h,K=>K .normal a h
 |.region _ ops draw,_,_,a,h,K=>if draw=true then ZHV P fi.hi specs ops a h fun a' h'=>K .normal a' h' else if ZHY ops=true then ZzG P fi.hi specs ops (ops.toList.take (ops.size - 5)) a h fun a' h' _=>ZA2 P (ops.toList.drop (ops.size - 5)) a' h' fun a' h'=>K .normal a' h'
  else ZzG P fi.hi specs ops ops.toList a h fun a' h' _=>K .normal a' h'
 |.seq x y,n,m,a,h,K=>ghO (fi.gh.lookup m) a h fun a h=>match fi.bk.lookup m with
  |none=>evT P fi specs x n (m+1) a h fun ex a' h'=>match ex with
   |.normal=>evT P fi specs y (n+Code.nl x) (m+1+Code.ns x) a' h' K
   |ex=>K ex a' h'
  |some bk=>(ZvS h.length bk.sl bk.es a h).bind fun vs=>(toD bk.I vs).bind fun v=>(bk.L v).bind fun o=>xT a.length bk.xs o fun ex a' h'=>match ex with
   |.normal=>evT P fi specs y (n+Code.nl x) (m+1+Code.ns x) a' h' K
   |ex=>K ex a' h'
 |.cond c x y,n,m,a,h,K=>((arT P a 0 c).bind TD.boolT).bind fun b=>match c with
  |.tmp t=>if b=true then evT P fi specs x n m (a.set t (Zs0 true)) h K else evT P fi specs y (n+Code.nl x) (m+Code.ns x) (a.set t (Zs0 false)) h K
  |_=>if b=true then evT P fi specs x n m a h K else evT P fi specs y (n+Code.nl x) (m+Code.ns x) a h K
 |.block id body,n,m,a,h,K=>evT P fi specs body n m a h fun ex a' h'=>K (ZvR id ex) a' h'
 |.loop body,n,m,a,h,K=>match fi.lp.lookup n with
  |some lp=>(ZvS h.length lp.sl lp.es a h).bind fun vs=>(toD lp.I vs).bind fun v=>(lp.L v).bind fun o=>xT a.length lp.xs o K
  |none=>ZpX (fun a h K=>evT P fi specs body (n+1) m a h K) fi.un a h K
 |.scope body,n,m,a,h,K=>evT P fi specs body n m a h K
 |.exit id,_,_,a,h,K=>K (.exit id) a h
 |.ret,_,_,a,h,K=>K .ret a h
 |_,_,_,_,_,_=>none
def XN:Code→List Code
 |.seq a b=>a::(XN a++XN b)
 |.cond _ a b=>XN a++XN b
 |.block _ a=>XN a
 |.scope a=>XN a
 |.loop a=>XN a
 |_=>[]
theorem QY:∀c:Code,(XN c).length=Code.ns c
 |.seq a b=>by simp only [XN,yz,yl,QY a,QY b,Code.ns]
 |.cond _ a b=>by simp only [XN,yl,QY a,QY b,Code.ns]
 |.block _ a=>by simp only [XN,QY a,Code.ns]
 |.scope a=>by simp only [XN,QY a,Code.ns]
 |.loop a=>by simp only [XN,QY a,Code.ns]
 |.skip=>rfl
 |.region _ _ _=>rfl
 |.rangeFunc _ _ _ _=>rfl
 |.exit _=>rfl
 |.ret=>rfl
 |.label _=>rfl
 |.goto _=>rfl
 |.refuse _=>rfl
def ZhH (P:Program) (fi:FI) (N:Nat) (c:Code) (m:Nat):Prop:=∀(k:Nat) (x:Code),(XN c)[k]? =some x→∀bk,fi.bk.lookup (m+k)=some bk→bk.Is P N x
theorem ZEq {fi:FI} {N:Nat} {x y c:Code} {m:Nat} (e:XN c=XN x++XN y) (h:ZhH P fi N c m):ZhH P fi N x m:=fun k b hk=>h k b (by
 rw [e,yae (yj.1 hk).1]
 exact hk)
theorem ZCC {fi:FI} {N:Nat} {x y c:Code} {m:Nat} (e:XN c=XN x++XN y) (h:ZhH P fi N c m):ZhH P fi N y (m+Code.ns x):=fun k b hk lp hl=>h (Code.ns x+k) b (by
 rw [e,yaj (by rw [QY];omega),QY]
 rw [show Code.ns x+k - Code.ns x=k by omega]
 exact hk) lp (by rw [←ybx];exact hl)
theorem ZEr {fi:FI} {N:Nat} {x y:Code} {m:Nat} (h:ZhH P fi N (.seq x y) m):ZhH P fi N x (m+1):=fun k b hk lp hl=>h (k+1) b (by
 rw [XN,yat,yae (yj.1 hk).1]
 exact hk) lp (by rw [show m+(k+1)=m+1+k by omega];exact hl)
theorem Zx0 {fi:FI} {N:Nat} {x y:Code} {m:Nat} (h:ZhH P fi N (.seq x y) m):ZhH P fi N y (m+1+Code.ns x):=fun k b hk lp hl=>h (Code.ns x+k+1) b (by
 rw [XN,yat,yaj (by rw [QY];omega),QY]
 rw [show Code.ns x+k - Code.ns x=k by omega]
 exact hk) lp (by rw [show m+(Code.ns x+k+1)=m+1+Code.ns x+k by omega];exact hl)
def ZkN (P:Program) (fi:FI) (N:Nat) (c:Code) (n:Nat):Prop:=∀(k:Nat) (b:Code),(Zz c)[k]? =some (.loop b)→∀lp,fi.lp.lookup (n+k)=some lp→lp.Ok P N b
theorem Zx1 {fi:FI} {N:Nat} {x y c:Code} {n:Nat} (e:Zz c=Zz x++Zz y) (h:ZkN P fi N c n):ZkN P fi N x n:=fun k b hk=>h k b (by
 rw [e,yae (yj.1 hk).1]
 exact hk)
theorem Zui {fi:FI} {N:Nat} {x y c:Code} {n:Nat} (e:Zz c=Zz x++Zz y) (h:ZkN P fi N c n):ZkN P fi N y (n+Code.nl x):=fun k b hk lp hl=>h (Code.nl x+k) b (by
 rw [e,yaj (by rw [QX];omega),QX]
 rw [show Code.nl x+k - Code.nl x=k by omega]
 exact hk) lp (by rw [←ybx];exact hl)
theorem X6 {O:Type} {fi:FI} {specs:Sp P} {out:O} {N:Nat} (ok:SpOk specs):∀(c:Code) (n m:Nat) (a:List TD) (h:List TEnt) (K:Kc O),a.length=N→ZkN P fi N c n→ZhH P fi N c m→evT P fi specs c n m a h K=some out→
 ∃ex a' h',K ex a' h'=some out∧a'.length=N∧XK P c (TD.ers (lk h) a) (erH h) ex (TD.ers (lk h') a') (erH h')
 |.skip,n,m,a,h,K,hN,hl,hb0,k=>⟨_,_,_,k,hN,ZCz⟩
 |.label _,n,m,a,h,K,hN,hl,hb0,k=>⟨_,_,_,k,hN,ZzS⟩
 |.exit _,n,m,a,h,K,hN,hl,hb0,k=>⟨_,_,_,k,hN,ZCA⟩
 |.ret,n,m,a,h,K,hN,hl,hb0,k=>⟨_,_,_,k,hN,ZEo⟩
 |.region id ops draw,n,m,a,h,K,hN,hl,hb0,k=>by
  unfold evT at k
  cases draw with
  |true=>
   rw [if_pos rfl] at k
   obtain ⟨a',h',k1,k2,k3⟩:=ZCs ok k
   exact ⟨_,_,_,k1,by rw [k2,hN],k3 id⟩
  |false=>
   rw [if_neg (by decide)] at k
   split at k
   ·obtain ⟨a',h',k1,k2,k3⟩:=ZCx ok k
    exact ⟨_,_,_,k1,by rw [k2,hN],k3 id⟩
   ·obtain ⟨a',h',hs,k1,k2,k3⟩:=ZCt ok k
    exact ⟨_,_,_,k1,by rw [k2,hN],k3 id⟩
 |.seq x y,n,m,a,h,K,hN,hl,hb0,k=>by
  have hx:=Zx1 (x:=x) (y:=y) rfl hl
  have hy:=Zui (x:=x) (y:=y) rfl hl
  unfold evT at k
  obtain ⟨a0,h0,k,hN0,gst⟩:=ZEn k
  rw [hN] at hN0
  suffices key:∃ex a' h',K ex a' h'=some out∧a'.length=N∧XK P (.seq x y) (TD.ers (lk h0) a0) (erH h0) ex (TD.ers (lk h') a') (erH h') by
   obtain ⟨ex,a',h',g1,g2,g3⟩:=key
   exact ⟨ex,a',h',g1,g2,ZGn gst g3⟩
  clear gst
  have hN:=hN0
  clear hN0
  split at k
  ·obtain ⟨ex,a1,h1,k1,k2,k3⟩:=X6 ok x _ _ _ _ _ hN hx (ZEr hb0) k
   split at k1
   ·obtain ⟨ex2,a2,h2,k4,k5,k6⟩:=X6 ok y _ _ _ _ _ k2 hy (Zx0 hb0) k1
    exact ⟨_,_,_,k4,k5,ZxY k3 k6⟩
   ·rename_i hne
    exact ⟨_,_,_,k1,k2,Zuf hne k3⟩
  ·rename_i bk hbk
   obtain ⟨vs,j1,k⟩:=yc.1 k
   obtain ⟨v,j2,k⟩:=yc.1 k
   obtain ⟨o,j3,k⟩:=yc.1 k
   obtain ⟨e,vs',s,g1,g2,g3⟩:=ZpW k
   obtain ⟨a3,h3,j4,j5⟩:=Zuh rfl j1
   have hok:=hb0 0 x rfl bk (by rw [Nat.add_zero];exact hbk)
   rw [hN] at g2 j4
   have e1:=ZcZ _ _ _ j2
   have r:=hok v o j3 (a3,h3) (by rw [e1];exact j4) e vs' s g1 g2
   have k3:XK P x (TD.ers (lk h0) a0) (erH h0) e.ex (TD.ers (lk s.2) s.1) (erH s.2):=by
    intro σ act okσ hH hrep
    obtain ⟨σ1,p1,p2,p3,p4,p5⟩:=j5 σ act okσ hH hrep
    rw [←p1]
    refine wp_mono (r σ1 act p4 p2 p5) ?_
    rintro e' a' w' ⟨rfl,σ2,q1,q2,q3,q4,q5⟩
    exact ⟨rfl,σ2,q1,q2,p3.trans q3,q4,q5⟩
   split at g3
   ·rename_i he
    rw [he] at k3
    obtain ⟨ex2,a2,h2,k4,k5,k6⟩:=X6 ok y _ _ _ _ _ (Zj5 g2) hy (Zx0 hb0) g3
    exact ⟨_,_,_,k4,k5,ZxY k3 k6⟩
   ·rename_i hne
    exact ⟨_,_,_,g3,Zj5 g2,Zuf hne k3⟩
 |.cond c x y,n,m,a,h,K,hN,hl,hb0,k=>by
  have hx:=Zx1 (x:=x) (y:=y) rfl hl
  have hy:=Zui (x:=x) (y:=y) rfl hl
  have bx:=ZEq (x:=x) (y:=y) rfl hb0
  have bY:=ZCC (x:=x) (y:=y) rfl hb0
  unfold evT at k
  obtain ⟨b,k0,k⟩:=yc.1 k
  obtain ⟨d,k00,k01⟩:=yc.1 k0
  have hc:=Zp (L:=lk h) k00
  rw [Zf7 k01] at hc
  split at k
  ·rename_i t
   cases k00
   have e:=ZxP k01
   split at k
   ·rename_i hb
    subst hb
    rw [Zgb e] at k
    obtain ⟨ex,a1,h1,k1,k2,k3⟩:=X6 ok x _ _ _ _ _ hN hx bx k
    exact ⟨_,_,_,k1,k2,Zj7 hc k3⟩
   ·rename_i hb
    have hb:b=false:=by simpa using hb
    subst hb
    rw [Zgb e] at k
    obtain ⟨ex,a1,h1,k1,k2,k3⟩:=X6 ok y _ _ _ _ _ hN hy bY k
    exact ⟨_,_,_,k1,k2,Zj7 hc k3⟩
  ·split at k
   ·rename_i hb
    subst hb
    obtain ⟨ex,a1,h1,k1,k2,k3⟩:=X6 ok x _ _ _ _ _ hN hx bx k
    exact ⟨_,_,_,k1,k2,Zj7 hc k3⟩
   ·rename_i hb
    have hb:b=false:=by simpa using hb
    subst hb
    obtain ⟨ex,a1,h1,k1,k2,k3⟩:=X6 ok y _ _ _ _ _ hN hy bY k
    exact ⟨_,_,_,k1,k2,Zj7 hc k3⟩
 |.block id body,n,m,a,h,K,hN,hl,hb0,k=>by
  unfold evT at k
  obtain ⟨ex,a1,h1,k1,k2,k3⟩:=X6 ok body _ _ _ _ _ hN hl hb0 k
  exact ⟨_,_,_,k1,k2,ZzQ k3⟩
 |.scope body,n,m,a,h,K,hN,hl,hb0,k=>by
  unfold evT at k
  obtain ⟨ex,a1,h1,k1,k2,k3⟩:=X6 ok body _ _ _ _ _ hN hl hb0 k
  exact ⟨_,_,_,k1,k2,ZzR k3⟩
 |.loop body,n,m,a,h,K,hN,hl,hb0,k=>by
  unfold evT at k
  split at k
  ·rename_i lp hlp
   obtain ⟨vs,j1,k⟩:=yc.1 k
   obtain ⟨v,j2,k⟩:=yc.1 k
   obtain ⟨o,j3,k⟩:=yc.1 k
   obtain ⟨e,vs',s,g1,g2,g3⟩:=ZpW k
   obtain ⟨a3,h3,j4,j5⟩:=Zuh rfl j1
   have hok:=hl 0 body rfl lp (by rw [Nat.add_zero];exact hlp)
   rw [hN] at g2 j4
   have e1:=ZcZ _ _ _ j2
   have r:=hok v o j3 (a3,h3) (by rw [e1];exact j4) e vs' s g1 g2
   refine ⟨_,_,_,g3,Zj5 g2, ?_⟩
   intro σ act okσ hH hrep
   obtain ⟨σ1,p1,p2,p3,p4,p5⟩:=j5 σ act okσ hH hrep
   rw [←p1]
   refine wp_mono (r σ1 act p4 p2 p5) ?_
   rintro e' a' w' ⟨rfl,σ2,q1,q2,q3,q4,q5⟩
   exact ⟨rfl,σ2,q1,q2,p3.trans q3,q4,q5⟩
  ·have hl1:ZkN P fi N body (n+1):=fun k b hk lp hl2=>hl (k+1) b (by rw [Zz,yat];exact hk) lp (by rw [show n+(k+1)=n+1+k by omega];exact hl2)
   obtain ⟨ex,a1,h1,k1,k2,k3⟩:=ZoJ (fun a h K out hN k=>X6 ok body _ _ _ _ K hN hl1 hb0 k) _ _ _ _ _ hN k
   exact ⟨ex,a1,h1,k1,k2,ZtY k3⟩
 |.rangeFunc _ _ _ _,_,_,_,_,_,_,_,_,k=>by cases k
 |.goto _,_,_,_,_,_,_,_,_,k=>by cases k
 |.refuse _,_,_,_,_,_,_,_,_,k=>by cases k
end
end Go.Ev
end
section
namespace Go.Ev
def Zc {I X:Type} (step:I→Option (I⊕X)):Nat→I→Option X
 |0,_=>none
 |n+1,i=>(step i).bind fun r=>match r with
  |.inl j=>Zc step n j
  |.inr x=>some x
theorem ZEs:∃n:Nat,n=18446744073709551616:=⟨_,rfl⟩
noncomputable def fuel:Nat:=Classical.choose ZEs
theorem Zc0:fuel=18446744073709551616:=Classical.choose_spec ZEs
section
variable {P:Program}
def ZGq (n0:Nat) (ex:Ex) (a:List TD) (h:List TEnt):(l:List XSh)→Option (XSh.sum l)
 |[]=>none
 |[e]=>if ex=e.ex then (ZvS n0 e.sl e.es a h).bind fun vs=>toD e.ty vs else none
 |e::f::r=>match (if ex=e.ex then (ZvS n0 e.sl e.es a h).bind fun vs=>toD e.ty vs else none) with
  |some x=>some (Sum.inl x:Ty.dens e.ty⊕XSh.sum (f::r))
  |none=>(ZGq n0 ex a h (f::r)).map fun x=>(Sum.inr x:Ty.dens e.ty⊕XSh.sum (f::r))
theorem Zuj {n0:Nat} {ex:Ex} {a:List TD} {h:List TEnt}:∀{l:List XSh} {o:XSh.sum l},ZGq n0 ex a h l=some o→∀e vs,ZxK l o e vs→ex=e.ex∧ZvS n0 e.sl e.es a h=some vs
 |[],_,k,_,_,_=>by cases k
 |[e],o,k,x,vs,hs=>by
  obtain ⟨rfl,rfl⟩:=hs
  have k:(if ex=x.ex then (ZvS n0 x.sl x.es a h).bind fun vs=>toD x.ty vs else none)=some o:=k
  split at k
  ·rename_i he
   obtain ⟨ws,h1,h2⟩:=yc.1 k
   exact ⟨he,by rw [h1,ZcZ _ _ _ h2]⟩
  ·cases k
 |e::f::r,o,k,x,vs,hs=>by
  simp only [ZGq] at k
  split at k
  ·rename_i y hy
   cases k
   obtain ⟨rfl,rfl⟩:=hs
   split at hy
   ·rename_i he
    obtain ⟨ws,h1,h2⟩:=yc.1 hy
    exact ⟨he,by rw [h1,ZcZ _ _ _ h2]⟩
   ·cases hy
  ·obtain ⟨y,h1,h2⟩:=Zb k
   subst h2
   exact Zuj h1 x vs hs
def Zx2 (P:Program) (fi:FI) (specs:Sp P) (body:Code) (n N:Nat) (sl:Slots) (es:List ESh) (I:List Ty) (xs:List XSh):Ty.dens I→Option (Ty.dens I⊕XSh.sum xs):=fun v=>
 (V3 N sl es (ofD I v)).bind fun s=>evT P fi specs body (n+1) 0 s.1 s.2 fun ex a h=>match ex with
   |.normal=>(ZvS s.2.length sl es a h).bind fun vs=>(toD I vs).map .inl
   |ex=>(ZGq s.2.length ex a h xs).map .inr
theorem ZEt {fi:FI} {specs:Sp P} {body:Code} {n N:Nat} {sl:Slots} {es:List ESh} {I:List Ty} {xs:List XSh} (ok:SpOk specs) (hl:ZkN P fi N body (n+1)) (hb0:ZhH P fi N body 0):
 ∀(f:Nat) (v:Ty.dens I) (o:XSh.sum xs),Zc (Zx2 P fi specs body n N sl es I xs) f v=some o→∀s,V3 N sl es (ofD I v)=some s→∀e vs s',ZxK xs o e vs→V3 N e.sl e.es vs=some s'→
  ZtV P body (TD.ers (lk s.2) s.1) (erH s.2) e.ex (TD.ers (lk s'.2) s'.1) (erH s'.2)
 |0,_,_,h,_,_,_,_,_,_,_=>by cases h
 |f+1,v,o,h,s,hs,e,vs,s',hx,hs'=>by
  unfold Zc at h
  obtain ⟨r,h1,h2⟩:=yc.1 h
  unfold Zx2 at h1
  rw [hs,yb] at h1
  obtain ⟨ex,a,h3,k1,k2,k3⟩:=X6 ok body _ _ _ _ _ (Zj5 hs) hl hb0 h1
  split at k1
  ·obtain ⟨ws,g1,k1⟩:=yc.1 k1
   obtain ⟨w,g2,rfl⟩:=Zb k1
   obtain ⟨a3,h4,g3,g4⟩:=Zug (P:=P) g1
   rw [k2] at g3
   have r1:=g4 (ZJ _) k3
   have:=ZEt ok hl hb0 f w o h2 (a3,h4) (by rw [ZcZ _ _ _ g2];exact g3) e vs s' hx hs'
   exact ZtX [] r1 this
  ·rename_i hne
   obtain ⟨w,g2,rfl⟩:=Zb k1
   cases h2
   obtain ⟨g5,g6⟩:=Zuj g2 e vs hx
   obtain ⟨a3,h4,g3,g4⟩:=Zug (P:=P) g6
   rw [k2,hs'] at g3
   cases g3
   subst g5
   exact ZtW hne (g4 (ZJ _) k3)
theorem ZI1 {fi:FI} {specs:Sp P} {body:Code} {n N:Nat} {sl:Slots} {es:List ESh} {I:List Ty} {xs:List XSh} {step:Ty.dens I→Option (Ty.dens I⊕XSh.sum xs)} (f:Nat) (ok:SpOk specs) (hl:ZkN P fi N body (n+1)) (hb0:ZhH P fi N body 0)
 (h:∀v,Zx2 P fi specs body n N sl es I xs v=step v):Lp.Ok P N body ⟨sl,es,I,xs,Zc step f⟩:=by
 intro v o hL s hs e vs s' hx hs'
 have e1:Zx2 P fi specs body n N sl es I xs=step:=funext h
 subst e1
 exact ZtY (ZEt ok hl hb0 f v o hL s hs e vs s' hx hs')
theorem ZbG:∀(c:Code) (k:Nat) (b:Code),(Zz c)[k]? =some (.loop b)→∀j x,(Zz b)[j]? =some x→(Zz c)[k+1+j]? =some x
 |.seq x y,k,b,h,j,z,hz=>by
  simp only [Zz] at h ⊢
  rcases ybr k (Zz x).length with hl|hl
  ·rw [yae hl] at h
   have:=ZbG x k b h j z hz
   rw [yae (yj.1 this).1]
   exact this
  ·rw [yaj hl] at h
   have:=ZbG y _ b h j z hz
   rw [yaj (by omega)]
   rw [show k+1+j - (Zz x).length=k - (Zz x).length+1+j by omega]
   exact this
 |.cond _ x y,k,b,h,j,z,hz=>by
  simp only [Zz] at h ⊢
  rcases ybr k (Zz x).length with hl|hl
  ·rw [yae hl] at h
   have:=ZbG x k b h j z hz
   rw [yae (yj.1 this).1]
   exact this
  ·rw [yaj hl] at h
   have:=ZbG y _ b h j z hz
   rw [yaj (by omega)]
   rw [show k+1+j - (Zz x).length=k - (Zz x).length+1+j by omega]
   exact this
 |.block _ a,k,b,h,j,z,hz=>ZbG a k b h j z hz
 |.scope a,k,b,h,j,z,hz=>ZbG a k b h j z hz
 |.loop a,k,b,h,j,z,hz=>by
  simp only [Zz] at h ⊢
  cases k with
  |zero=>
   simp only [ybt,Option.some.injEq,Code.loop.injEq] at h
   subst h
   rw [show 0+1+j=j+1 by omega,yat]
   exact hz
  |succ k=>
   rw [yat] at h
   rw [show k+1+1+j=(k+1+j)+1 by omega,yat]
   exact ZbG a k b h j z hz
 |.skip,_,_,h,_,_,_=>by simp [Zz] at h
 |.region _ _ _,_,_,h,_,_,_=>by simp [Zz] at h
 |.rangeFunc _ _ _ _,_,_,h,_,_,_=>by simp [Zz] at h
 |.exit _,_,_,h,_,_,_=>by simp [Zz] at h
 |.ret,_,_,h,_,_,_=>by simp [Zz] at h
 |.label _,_,_,h,_,_,_=>by simp [Zz] at h
 |.goto _,_,_,h,_,_,_=>by simp [Zz] at h
 |.refuse _,_,_,h,_,_,_=>by simp [Zz] at h
def Zrh (P:Program) (g:FuncId) (N:Nat):List (Nat×Lp)→Prop
 |[]=>True
 |q::r=>q.2.Ok P N (Zn P g q.1)∧Zrh P g N r
theorem ZnL {g:FuncId} {N:Nat}:∀{l:List (Nat×Lp)} {n:Nat} {lp:Lp},Zrh P g N l→l.lookup n=some lp→lp.Ok P N (Zn P g n)
 |[],_,_,_,h=>by cases h
 |q::r,n,lp,hk,h=>by
  rw [List.lookup_cons] at h
  split at h
  ·rename_i e
   cases h
   rw [beq_iff_eq] at e
   rw [e]
   exact hk.1
  ·exact ZnL hk.2 h
def Zce (P:Program) (g:FuncId):Code:=
 match P.funcs[g]? with
 |some fn=>fn.body.getD .skip
 |none=>.skip
theorem ZnM {g:FuncId} {k:Nat} {b:Code} (h:(Zz (Zce P g))[k]? =some (.loop b)):Zn P g k=b:=by
 unfold Zn ZDt
 unfold Zce at h
 split at h
 ·rename_i fn hf
  rw [hf]
  dsimp only
  cases hb:fn.body with
  |none=>rw [hb] at h;simp [Zz] at h
  |some c=>
   rw [hb] at h
   dsimp only [Option.getD] at h ⊢
   rw [ycp,h]
   rfl
 ·simp [Zz] at h
theorem ZA6 {g:FuncId} {fi:FI} {N:Nat} (h:Zrh P g N fi.lp):ZkN P fi N (Zce P g) 0:=by
 intro k b hk lp hl
 rw [yax] at hl
 rw [←ZnM hk]
 exact ZnL h hl
theorem ZEu {g:FuncId} {fi:FI} {N k:Nat} (hk:(Zz (Zce P g))[k]? =some (.loop (Zn P g k))) (h:Zrh P g N fi.lp):ZkN P fi N (Zn P g k) (k+1):=by
 intro j b hj lp hl
 have:=ZbG _ _ _ hk j _ hj
 rw [←ZnM this]
 exact ZnL h hl
def Zri (P:Program) (g k:Nat):Bool:=
 match (Zz (Zce P g))[k]? with
 |some (.loop _)=>true
 |_=>false
theorem Zs3 {g k:Nat} (h:Zri P g k=true):(Zz (Zce P g))[k]? =some (.loop (Zn P g k)):=by
 unfold Zri at h
 split at h
 ·rename_i b hb
  rw [hb,ZnM hb]
 ·cases h
def ZEv (c:Code) (m:Nat):Code:=((XN c)[m]?).getD .skip
def Zuk (P:Program) (N:Nat) (c:Code):List (Nat×Lp)→Prop
 |[]=>True
 |q::r=>q.2.Is P N (ZEv c q.1)∧Zuk P N c r
theorem Zul {N:Nat} {c:Code}:∀{l:List (Nat×Lp)} {m:Nat} {bk:Lp},Zuk P N c l→l.lookup m=some bk→bk.Is P N (ZEv c m)
 |[],_,_,_,h=>by cases h
 |q::r,m,bk,hk,h=>by
  rw [List.lookup_cons] at h
  split at h
  ·rename_i he
   cases h
   have:m=q.1:=by simpa using he
   rw [this]
   exact hk.1
  ·exact Zul hk.2 h
theorem ZvT {fi:FI} {N:Nat} {c:Code} (h:Zuk P N c fi.bk):ZhH P fi N c 0:=by
 intro k x hk bk hl
 rw [yax] at hl
 have:=Zul h hl
 unfold ZEv at this
 rw [hk] at this
 exact this
theorem Zl {fi:FI} {specs:Sp P} {g k N:Nat} {sl:Slots} {es:List ESh} {I:List Ty} {xs:List XSh} {step:Ty.dens I→Option (Ty.dens I⊕XSh.sum xs)} (ok:SpOk specs) (hl:Zrh P g N fi.lp) (hk:Zri P g k=true)
 (h:∀v,Zx2 P fi specs (Zn P g k) k N sl es I xs v=step v) (hb:Zuk P N (Zn P g k) fi.bk:=by exact True.intro):Lp.Ok P N (Zn P g k) ⟨sl,es,I,xs,Zc step fuel⟩:=
 ZI1 fuel ok (ZEu (Zs3 hk) hl) (ZvT hb) h
def Zs4 {O:Type} (P:Program) (a:List TD) (h:List TEnt):List ResultVar→(List TD→List Hint→Option O)→Option O
 |[],K=>K [] []
 |.tmp t::r,K=>Zs4 P a h r fun ds hs=>K (a.getD t .junk::ds) hs
 |.cell t ty::r,K=>match a.getD t .junk with
  |.ref id path=>(ZoD h id).bind fun d=>gpT (lk h) path d fun sub hs _=>if okT P ty (sub.er (lk h))=true then Zs4 P a h r fun ds hs'=>K (sub::ds) (hs++hs') else none
  |_=>none
theorem Zgc {O:Type} {a:List TD} {h:List TEnt} {out:O}:∀(l:List ResultVar) (K:List TD→List Hint→Option O),Zs4 P a h l K=some out→∃ds hs C,K ds hs=some out∧AllP C∧∀rest,ZsM P (TD.ers (lk h) a) (erH h) l (hs++rest)=some (C,TD.ers (lk h) ds)
 |[],K,k=>⟨[],[],[],k,trivial,fun _=>rfl⟩
 |.tmp t::r,K,k=>by
  obtain ⟨ds,hs,C,k1,k2,k3⟩:=Zgc r _ k
  refine ⟨_,_,C,k1,k2,fun rest=> ?_⟩
  simp only [ZsM,k3 rest,yw,Zmn,TD.ers]
 |.cell t ty::r,K,k=>by
  unfold Zs4 at k
  split at k
  ·rename_i id path hx
   obtain ⟨d,h1,k⟩:=yc.1 k
   obtain ⟨st,h2,h3⟩:=ZdK h1
   obtain ⟨sub,hs,put,C,g1,g2,g3,_⟩:=Xo _ _ _ _ k
   obtain ⟨g4,g5⟩:=Za g1
   obtain ⟨ds,hs',C',k1,k2,k3⟩:=Zgc r _ g5
   refine ⟨_,_,C++[QG path=XM path]++C',k1,Zk.2 ⟨Zk.2 ⟨g2,(Xt _).symm,trivial⟩,k2⟩,fun rest=> ?_⟩
   unfold ZsM
   rw [Zmn,hx]
   dsimp only [TD.er]
   rw [h3]
   dsimp only
   rw [yaf,g3 (hs'++rest)]
   dsimp only
   rw [if_pos g4,k3 rest]
   rfl
  ·cases k
def Zrj:List TD→TD
 |[d]=>d
 |ds=>.tup ds
theorem Zj8 {L:Lk} (ds:List TD):(Zrj ds).er L=Zp7 (TD.ers L ds):=by
 match ds with
 |[]=>rfl
 |[d]=>rfl
 |_::_::_=>rfl
def TD.arg (L:Lk):TD→TD
 |.own id nn t c=>.p (.sl nn t (ZS L id t c))
 |.agg ds=>TD.melt L ds
 |d=>d
theorem ZzV {L:Lk} (d:TD):(d.arg L).er L=(d.er L).arg:=by
 cases d <;> first|rfl|exact ZAF _
def ZEw (h:List TEnt) (rs:Sh) (es:List ESh) (n0:Nat) (r:TD):Option (List Nat):=
 let l:=ZHU h es 0 ((yo n0).map (fun i=>(i,i))++Sh.ids rs r)
 ((yo es.length).drop n0).mapM fun j=>l.lookup j
def ZGr (h:List TEnt) (n0:Nat) (ds:List TD) (e:XSh):Option (Ty.dens e.ty):=
 match e.sl with
 |[(0,rs)]=>(ZEw h rs e.es n0 (Zrj ds)).bind fun keep=>
  if once (yo n0++keep) then (match Dv.rn (toIds (yo n0++keep)) ((Zrj ds).er (lk h)) with
   |some _=>(Zrj ds).rn (toIds (yo n0++keep))
   |none=>(Zrj (ds.map (TD.arg (lk h)))).rn (toIds (yo n0++keep))).bind fun r=>
   (X4 h (yo n0++keep) (yo n0++keep)).bind fun h2=>(Sh.mt (lk h2) rs r).bind fun q=>(ESh.mts (lk h2) e.es h2).bind fun w=>toD e.ty (q.2++w.2)
  else none
 |_=>none
def Zx3 (h:List TEnt) (n0:Nat) (ds:List TD):(l:List XSh)→Option (XSh.sum l)
 |[]=>none
 |[e]=>ZGr h n0 ds e
 |e::f::r=>match ZGr h n0 ds e with
  |some x=>some (Sum.inl x:Ty.dens e.ty⊕XSh.sum (f::r))
  |none=>(Zx3 h n0 ds (f::r)).map fun x=>(Sum.inr x:Ty.dens e.ty⊕XSh.sum (f::r))
theorem Zrk {h:List TEnt} {n0:Nat} {ds:List TD}:∀{l:List XSh} {o:XSh.sum l},Zx3 h n0 ds l=some o→∀e vs,ZxK l o e vs→∃x,ZGr h n0 ds e=some x∧vs=ofD e.ty x
 |[],_,k,_,_,_=>by cases k
 |[e],o,k,x,vs,hs=>by
  obtain ⟨rfl,rfl⟩:=hs
  exact ⟨o,k,rfl⟩
 |e::f::r,o,k,x,vs,hs=>by
  simp only [Zx3] at k
  split at k
  ·rename_i y hy
   cases k
   obtain ⟨rfl,rfl⟩:=hs
   exact ⟨y,hy,rfl⟩
  ·obtain ⟨y,h1,h2⟩:=Zb k
   subst h2
   exact Zrk h1 x vs hs
def fnT (P:Program) (fi:FI) (specs:Sp P) (g:FuncId) (ps:List Sh) (es:List ESh) (ins:List Ty) (xs:List XSh):Ty.dens ins→Option (XSh.sum xs):=fun x=>
 match P.funcs[g]? with
 |some fn=>match fn.body with
  |some c=>(Sh.fills ps (ofD ins x)).bind fun q=>(ESh.fills es q.2).bind fun w=>if w.2.isEmpty then
    evT P fi specs c 0 0 (q.1++yp (fn.ntmps - q.1.length) .junk) w.1 fun ex a h=>match ex with
     |.exit _=>none
     |_=>Zs4 P a h fn.results.toList fun ds _=>Zx3 h w.1.length ds xs
    else none
  |none=>none
 |none=>none
def Zo (P:Program) (g:FuncId):Nat:=
 match P.funcs[g]? with
 |some fn=>fn.ntmps
 |none=>0
theorem Zh {fi:FI} {specs:Sp P} {g:FuncId} {ps:List Sh} {es:List ESh} {ins:List Ty} {xs:List XSh} {M:Ty.dens ins→Option (XSh.sum xs)} (ok:SpOk specs) (hl:Zrh P g (Zo P g) fi.lp) (hn:ps.length≤Zo P g)
 (h:∀x,fnT P fi specs g ps es ins xs x=M x) (hb:Zuk P (Zo P g) (Zce P g) fi.bk:=by exact True.intro):Fs.Ok (⟨g,ps,es,ins,xs,M⟩:Fs P):=by
 intro x o hM
 have hM:M x=some o:=hM
 rw [←h x] at hM
 have hl':=ZA6 hl
 unfold fnT at hM
 split at hM
 ·rename_i fn hf
  split at hM
  ·rename_i c hb1
   obtain ⟨q,h1,hM⟩:=yc.1 hM
   obtain ⟨w,h2,hM⟩:=yc.1 hM
   obtain ⟨h3,hM⟩:=Za hM
   have hN:Zo P g=fn.ntmps:=by unfold Zo;rw [hf]
   have hc:Zce P g=c:=by unfold Zce;rw [hf];dsimp only;rw [hb1];rfl
   rw [hc,hN] at hl' hb
   have hb0:=ZvT hb
   rw [hN] at hn
   have hlen:(q.1++yp (fn.ntmps - q.1.length) TD.junk).length=fn.ntmps:=by
    rw [yl,yci,Zj4 h1]
    omega
   obtain ⟨ex,a,hh,k1,k2,k3⟩:=X6 ok c _ _ _ _ _ hlen hl' hb0 hM
   have hex:(ex=.ret∨ex=.normal)∧(Zs4 P a hh fn.results.toList fun ds _=>Zx3 hh w.1.length ds xs)=some o:=by
    cases ex with
    |exit _=>cases k1
    |normal=>exact ⟨.inr rfl,k1⟩
    |ret=>exact ⟨.inl rfl,k1⟩
   obtain ⟨hex,k1⟩:=hex
   obtain ⟨ds,hs,C,g1,g2,g3⟩:=Zgc _ _ k1
   refine ⟨q.1,q.2,w.1,h1, ?_,fun e vs s' hsel hfs=> ?_⟩
   ·rw [h2]
    have:w.2=[]:=by simpa using h3
    rw [←this]
   obtain ⟨o1,g1,hvs⟩:=Zrk g1 e vs hsel
   unfold ZGr at g1
   split at g1
   case h_2=>cases g1
   rename_i rs hsl
   obtain ⟨keep,g4,g1⟩:=yc.1 g1
   obtain ⟨g5,g1⟩:=Za g1
   obtain ⟨r,g6,g1⟩:=yc.1 g1
   obtain ⟨e2,g7,g1⟩:=yc.1 g1
   obtain ⟨z,g8,g1⟩:=yc.1 g1
   obtain ⟨y,g9,g1⟩:=yc.1 g1
   obtain ⟨b1,b2⟩:=Zga g9
   have hcc:∀id t,ZS (lk e2) id t none=ZS (lk y.1) id t none:=fun id t=>by rw [b2]
   have eo:=ZcZ _ _ _ g1
   have efill:s'=([z.1],y.1):=by
    rw [hvs,eo,hsl] at hfs
    unfold V3 at hfs
    rw [show shs [(0,rs)] 1=[rs] from rfl] at hfs
    simp only [Sh.fills,Zj2 _ _ _ g8,yb,yw] at hfs
    have:=ZaV g9 []
    rw [yba] at this
    rw [this] at hfs
    exact (ybj hfs).symm
   subst efill
   refine ⟨z.1,rfl, ?_⟩
   have hfin:fin P fn (TD.ers (lk hh) a) (erH hh) (erH w.1).length keep hs=some (C,r.er (lk e2),erH e2):=by
    unfold fin
    have:=g3 []
    rw [yba] at this
    rw [this]
    dsimp only
    rw [ZJ,g5, ←Zj8,show subEnts (erH hh) _ _=some (erH e2) from X5 (QW g7) g7]
    split at g6
    ·rename_i r0 hr0
     have e4:=Ze6 (QW g7) _ _ g6
     rw [e4]
    ·rename_i hr0
     have e4:=Ze6 (QW g7) _ _ g6
     rw [Zj8,ZI,yao] at e4
     rw [hr0,show (TD.ers (lk hh) ds).map Dv.arg=ds.map (TD.er (lk hh) ∘ TD.arg (lk hh)) by
      rw [ZI,yao]
      exact yby fun d _=>(ZzV d).symm,e4]
   have hrun:XK P c (TD.ers (lk w.1) q.1++yp (fn.ntmps - (TD.ers (lk w.1) q.1).length) .junk) (erH w.1) ex (TD.ers (lk hh) a) (erH hh):=by
    have e5:TD.ers (lk w.1) (q.1++yp (fn.ntmps - q.1.length) TD.junk)=TD.ers (lk w.1) q.1++yp (fn.ntmps - (TD.ers (lk w.1) q.1).length) .junk:=by
     rw [ZgV,ZI,ZI,yai,List.map_replicate]
     rfl
    rw [←e5]
    exact k3
   exact Zxa (ZiO hf hb1 hrun hex hfin g2) (Zq2 hcc _ _ _ g8) (Zj3 hcc g9)
  ·cases hM
 ·cases hM
end
theorem ZzW {P:Program} {g:FuncId} {t:Ty} {xs:List XSh} {MA:Ty.dens [.sl t]→Option (XSh.sum xs)} {MB:Ty.dens []→Option (XSh.sum xs)} (hA:Fs.Ok (⟨g,[.sl true t],[],[.sl t],xs,MA⟩:Fs P)) (hB:Fs.Ok (⟨g,[.nil t],[],[],xs,MB⟩:Fs P))
 (h:MB ()=MA ([]:List t.den)):Fs.Ok (⟨g,[.v (.sl t)],[],[.sl t],xs,MA⟩:Fs P):=by
 intro l o hM
 have key:∀(l:List t.den),Ty.cast (.sl t) (.sl t) l=some l:=fun l=>Y5 (.sl t) l
 obtain ⟨a1,R1,H1,f1,f2,f3⟩:=hA l o hM
 have e1:a1=[.p (.sl (some true) t l)]∧R1=[]:=by
  have:Sh.fills [.sl true t] [(⟨.sl t,l⟩:TV)]=some (a1,R1):=f1
  simp only [Sh.fills,Sh.fill] at this
  rw [key l] at this
  have this:some (([.p (.sl (some true) t l)]:List TD),([]:List TV))=some (a1,R1):=this
  cases this
  exact ⟨rfl,rfl⟩
 obtain ⟨rfl,rfl⟩:=e1
 cases f2
 refine ⟨[.p (.v (.sl t) l)],[],[], ?_,rfl,fun e vs s' hs hf=> ?_⟩
 ·show Sh.fills [.v (.sl t)] [(⟨.sl t,l⟩:TV)]=_
  simp only [Sh.fills,Sh.fill]
  rw [key l]
  rfl
 ·obtain ⟨r,r1,r2⟩:=f3 e vs s' hs hf
  refine ⟨r,r1, ?_⟩
  refine ZAx (xs:=l.map t.enc) r2 fun hl=> ?_
  have hl:l=[]:=List.map_eq_nil_iff.1 hl
  subst hl
  obtain ⟨a2,R2,H2,g1,g2,g3⟩:=hB () o (by rw [←hM];exact h)
  cases g1
  cases g2
  obtain ⟨r',r1',r2'⟩:=g3 e vs s' hs hf
  rw [r1] at r1'
  cases r1'
  exact r2'
def Zrl (n:Int):Option (List UInt8):=if (decide (0≤n)&&decide (n.toNat≤Zq))=true then some [] else none
theorem ZGs {P:Program} {g:FuncId} {e:TypeId} (h:∀n:Nat,n≤Zq→Con P g [.p (.sl (some false) 1 []),.p (.int .i64 (n:Int))] [] (.own 0 none 1 []) [.log 1 e []]):
 Fs.Ok (⟨g,[.nil .u8,.v (.int .i64)],[],[.int .i64],[⟨.ret,[(0,.own 0 .u8)],[.log .u8 e],[.sl .u8]⟩],Zrl⟩:Fs P):=by
 intro n o hM
 have key:∀(n:Int),Zrl n=some o→(0≤n∧n.toNat≤Zq)∧([]:List UInt8)=o:=fun n hM=>by
  unfold Zrl at hM
  obtain ⟨h1,h2⟩:=Za (α:=List UInt8) hM
  rw [yg,decide_eq_true_eq,decide_eq_true_eq] at h1
  exact ⟨h1,ybj h2⟩
 obtain ⟨h1,h2⟩:=key n hM
 cases h2
 refine ⟨[.p (.sl (some false) .u8 []),.p (.v (.int .i64) n)],[],[],rfl,rfl,fun x vs s' hs hf=> ?_⟩
 obtain ⟨rfl,rfl⟩:=hs
 cases hf
 refine ⟨_,rfl, ?_⟩
 have:=h (Int.toNat n) h1.2
 rw [Int.toNat_of_nonneg h1.1] at this
 exact this
mutual
theorem Zum:∀(s:Sh) (vs w:List TV) (q:TD×List TV),s.fill vs=some q→s.fill (vs++w)=some (q.1,q.2++w)
 |.v t,vs,w,q,h=>by
  cases vs with
  |nil=>cases h
  |cons x r=>
   obtain ⟨y,h1,rfl⟩:=Zb (show (Ty.cast x.1 t x.2).map (fun y=>((TD.p (.v t y),r):TD×List TV))=some q from h)
   show (Ty.cast x.1 t x.2).map (fun y=>((TD.p (.v t y),r++w):TD×List TV))=_
   rw [h1];rfl
 |.elem t,vs,w,q,h=>by
  cases vs with
  |nil=>cases h
  |cons x r=>
   obtain ⟨y,h1,rfl⟩:=Zb (show (Ty.cast x.1 t x.2).map (fun y=>((TD.elem (.v t y),r):TD×List TV))=some q from h)
   show (Ty.cast x.1 t x.2).map (fun y=>((TD.elem (.v t y),r++w):TD×List TV))=_
   rw [h1];rfl
 |.sl nn t,vs,w,q,h=>by
  cases vs with
  |nil=>cases h
  |cons x r=>
   obtain ⟨y,h1,rfl⟩:=Zb (α:=(Ty.sl t).den) (show (Ty.cast x.1 (.sl t) x.2).map (fun (y:List t.den)=>((TD.p (.sl (some nn) t y),r):TD×List TV))=some q from h)
   show (Ty.cast x.1 (.sl t) x.2).map (fun (y:List t.den)=>((TD.p (.sl (some nn) t y),r++w):TD×List TV))=_
   rw [h1];rfl
 |.nil _,vs,w,q,h=>by cases h;rfl
 |.own _ _,vs,w,q,h=>by cases h;rfl
 |.ref _ _,vs,w,q,h=>by cases h;rfl
 |.mp _,vs,w,q,h=>by cases h;rfl
 |.rw _,vs,w,q,h=>by cases h;rfl
 |.rp j s p,vs,w,q,h=>by
  cases vs with
  |nil=>cases h
  |cons x r=>
   obtain ⟨y,h1,rfl⟩:=Zb (α:=Int) (show (Ty.cast x.1 (.int .i64) x.2).map (fun (i:Int)=>((TD.rp j (.ix i.toNat s::p),r):TD×List TV))=some q from h)
   show (Ty.cast x.1 (.int .i64) x.2).map (fun (i:Int)=>((TD.rp j (.ix i.toNat s::p),r++w):TD×List TV))=_
   rw [h1];rfl
 |.view _ _ _ _ _,vs,w,q,h=>by cases h;rfl
 |.fn g l,vs,w,q,h=>by
  simp only [Sh.fill] at h ⊢
  obtain ⟨y,h1,rfl⟩:=Zb h
  rw [fills_more l vs w y h1];rfl
 |.agg l,vs,w,q,h=>by
  simp only [Sh.fill] at h ⊢
  obtain ⟨y,h1,rfl⟩:=Zb h
  rw [fills_more l vs w y h1];rfl
 |.arr n s l,vs,w,q,h=>by
  simp only [Sh.fill] at h ⊢
  obtain ⟨y,h1,rfl⟩:=Zb h
  rw [fills_more l vs w y h1];rfl
 |.tup l,vs,w,q,h=>by
  simp only [Sh.fill] at h ⊢
  obtain ⟨y,h1,rfl⟩:=Zb h
  rw [fills_more l vs w y h1];rfl
 |.iface t x,vs,w,q,h=>by
  simp only [Sh.fill] at h ⊢
  obtain ⟨y,h1,rfl⟩:=Zb h
  rw [Zum x vs w y h1];rfl
 |.ptr0,vs,w,q,h=>by cases h;rfl
 |.fn0,vs,w,q,h=>by cases h;rfl
 |.if0,vs,w,q,h=>by cases h;rfl
 |.map0,vs,w,q,h=>by cases h;rfl
 |.junk,vs,w,q,h=>by cases h;rfl
theorem fills_more:∀(l:List Sh) (vs w:List TV) (q:List TD×List TV),Sh.fills l vs=some q→Sh.fills l (vs++w)=some (q.1,q.2++w)
 |[],vs,w,q,h=>by simp only [Sh.fills] at h;cases h;rfl
 |s::r,vs,w,q,h=>by
  simp only [Sh.fills] at h ⊢
  obtain ⟨a,h1,h⟩:=yc.1 h
  obtain ⟨b,h2,rfl⟩:=Zb h
  rw [Zum s vs w a h1,yb,fills_more r a.2 w b h2]
  rfl
end
theorem ZH1 {P:Program} {g:FuncId} {t:Ty} {e:TypeId} {rest:List Sh} {i1 i2:List Ty} {xs:List XSh} {M:Ty.dens i2→Option (XSh.sum xs)} (pk:Ty.dens i1→Ty.dens i2) (h:Fs.Ok (⟨g,.own 0 t::rest,[.log t e],i2,xs,M⟩:Fs P))
 (hp:∀x,ofD i2 (pk x)=ofD i1 x++[⟨.sl t,([]:List t.den)⟩]) (hf:∀x,∃a,Sh.fills rest (ofD i1 x)=some (a,[])):Fs.Ok (⟨g,.nil t::rest,[],i1,xs,fun x=>M (pk x)⟩:Fs P):=by
 intro x o hM
 obtain ⟨args,R,H,f1,f2,f3⟩:=h (pk x) o hM
 obtain ⟨a,ha⟩:=hf x
 have f1:Sh.fills (.own 0 t::rest) (ofD i2 (pk x))=some (args,R):=f1
 rw [hp x] at f1
 simp only [Sh.fills,Sh.fill,yb,fills_more rest _ _ _ ha,yw,Option.some.injEq,Prod.mk.injEq,List.nil_append] at f1
 obtain ⟨rfl,rfl⟩:=f1
 have f2:((Ty.cast (.sl t) (.sl t) ([]:List t.den)).map fun (y:List t.den)=>((TEnt.log t e y,[]):TEnt×List TV)).bind (fun a=>(ESh.fills [] a.2).map fun b=>(a.1::b.1,b.2))=some (H,[]):=f2
 have key:Ty.cast (.sl t) (.sl t) ([]:List t.den)=some ([]:List t.den):=Y5 (.sl t) ([]:List t.den)
 rw [key] at f2
 cases f2
 refine ⟨.p (.sl (some false) t [])::a,[],[], ?_,rfl,fun x' vs s' hs hf'=> ?_⟩
 ·show Sh.fills (.nil t::rest) (ofD i1 x)=_
  simp only [Sh.fills,Sh.fill,yb,ha,yw]
 ·obtain ⟨r,r1,r2⟩:=f3 x' vs s' hs hf'
  refine ⟨r,r1, ?_⟩
  have e1:TD.ers (lk [.log t e []]) (.own 0 none t none::a)=.own 0 none t.size []::TD.ers (lk []) a:=by
   have e0:TD.ers (lk [.log t e []]) a=TD.ers (lk []) a:=(ers_cont (fun id t'=>Zmw (H:=[]) (T:=t) (e:=e) id t') a).symm
   rw [TD.ers,e0]
   congr 1
   rw [TD.er,show ZS (lk [.log t e []]) 0 t none=[] from Zdp (H:=[])]
   rfl
  have r2:Con P g (TD.ers (lk [.log t e []]) (.own 0 none t none::a)) (erH [.log t e []]) (r.er (lk s'.2)) (erH s'.2):=r2
  rw [e1] at r2
  exact Zxc (H:=[]) (e:=e) r2
end Go.Ev
end
section
namespace Go.Ev
universe u
variable {O:Type u}
def ZbH (n:Nat) (k:Nat→O):O:=Nat.rec (motive:=fun _=>O) (k 0) (fun m _=>k (Nat.succ m)) n
theorem YO (n:Nat) (k:Nat→O):ZbH n k=k n:=by cases n <;> rfl
def ZdN {α:Type} (f:α→(α→O)→O):List α→(List α→O)→O
 |[],k=>k []
 |a::r,k=>f a fun a=>ZdN f r fun r=>k (a::r)
theorem Wy {α:Type} {f:α→(α→O)→O} (hf:∀a k,f a k=k a):∀(l:List α) (k:List α→O),ZdN f l k=k l
 |[],k=>rfl
 |a::r,k=>by rw [ZdN,hf,Wy hf r]
def ZH2 (n:Int) (k:Int→O):O:=match n with
 |.ofNat n=>ZbH n fun n=>k (.ofNat n)
 |.negSucc n=>ZbH n fun n=>k (.negSucc n)
theorem ZGt (n:Int) (k:Int→O):ZH2 n k=k n:=by cases n <;> (rw [ZH2,YO])
def Zrm (b:Bool) (k:Bool→O):O:=match b with
 |true=>k true
 |false=>k false
theorem Zgd (b:Bool) (k:Bool→O):Zrm b k=k b:=by cases b <;> rfl
mutual
def Ty.fo:(t:Ty)→t.den→(t.den→O)→O
 |.int _,x,k=>ZH2 x k
 |.u8,x,k=>ZbH (yac x) fun n=>k (yas n)
 |.u32,x,k=>ZbH (yad x) fun n=>k (ybe n)
 |.u64,x,k=>ZbH (UInt64.toNat x) fun n=>k (yag n)
 |.bool,x,k=>Zrm x k
 |.str,x,k=>k x
 |.sl t,x,k=>ZdN (Ty.fo t) x k
 |.arr _ t,x,k=>ZdN (Ty.fo t) x k
 |.st fs,x,k=>Ty.fos fs x k
def Ty.fos:(fs:List Ty)→Ty.dens fs→(Ty.dens fs→O)→O
 |[],_,k=>k ()
 |[t],x,k=>Ty.fo t x k
 |t::u::r,x,k=>Ty.fo t x.1 fun a=>Ty.fos (u::r) x.2 fun b=>k (a,b)
end
mutual
theorem Ty.fo_eq:∀(t:Ty) (x:t.den) (k:t.den→O),t.fo x k=k x
 |.int _,x,k=>ZGt x k
 |.u8,x,k=>by rw [Ty.fo,YO];exact congrArg k UInt8.ofNat_toNat
 |.u32,x,k=>by rw [Ty.fo,YO];exact congrArg k UInt32.ofNat_toNat
 |.u64,x,k=>by rw [Ty.fo,YO];exact congrArg k UInt64.ofNat_toNat
 |.bool,x,k=>Zgd x k
 |.str,x,k=>rfl
 |.sl t,x,k=>by rw [Ty.fo];exact Wy (Ty.fo_eq t) x k
 |.arr _ t,x,k=>by rw [Ty.fo];exact Wy (Ty.fo_eq t) x k
 |.st fs,x,k=>Ty.fos_eq fs x k
theorem Ty.fos_eq:∀(fs:List Ty) (x:Ty.dens fs) (k:Ty.dens fs→O),Ty.fos fs x k=k x
 |[],_,k=>rfl
 |[t],x,k=>Ty.fo_eq t x k
 |t::u::r,x,k=>by rw [Ty.fos,Ty.fo_eq t];exact Ty.fos_eq (u::r) x.2 _
end
mutual
def TP.fo:TP→(TP→O)→O
 |.v t x,k=>t.fo x fun x=>k (.v t x)
 |.sl nn t xs,k=>ZdN t.fo xs fun xs=>k (.sl nn t xs)
 |.agg xs,k=>TP.fos xs fun xs=>k (.agg xs)
 |.arr n s xs,k=>TP.fos xs fun xs=>k (.arr n s xs)
 |.sll nn s xs,k=>TP.fos xs fun xs=>k (.sll nn s xs)
 |.iface t x,k=>TP.fo x fun x=>k (.iface t x)
 |x,k=>k x
def TP.fos:List TP→(List TP→O)→O
 |[],k=>k []
 |x::r,k=>TP.fo x fun x=>TP.fos r fun r=>k (x::r)
end
mutual
theorem TP.fo_eq:∀(x:TP) (k:TP→O),x.fo k=k x
 |.v t x,k=>by rw [TP.fo,Ty.fo_eq]
 |.sl nn t xs,k=>by rw [TP.fo,Wy (Ty.fo_eq t)]
 |.agg xs,k=>by rw [TP.fo,TP.fos_eq xs]
 |.arr n s xs,k=>by rw [TP.fo,TP.fos_eq xs]
 |.sll nn s xs,k=>by rw [TP.fo,TP.fos_eq xs]
 |.iface t x,k=>by rw [TP.fo,TP.fo_eq x]
 |.ptr0,k=>rfl
 |.fn0,k=>rfl
 |.if0,k=>rfl
 |.map0,k=>rfl
 |.fnv _,k=>rfl
theorem TP.fos_eq:∀(x:List TP) (k:List TP→O),TP.fos x k=k x
 |[],k=>rfl
 |x::r,k=>by rw [TP.fos,TP.fo_eq x,TP.fos_eq r]
end
def ZI2 {α:Type} (f:α→(α→O)→O):Option α→(Option α→O)→O
 |none,k=>k none
 |some a,k=>f a fun a=>k (some a)
theorem ZGu {α:Type} {f:α→(α→O)→O} (hf:∀a k,f a k=k a):∀(l:Option α) (k:Option α→O),ZI2 f l k=k l
 |none,k=>rfl
 |some a,k=>hf a _
mutual
def TD.fo:TD→(TD→O)→O
 |.p x,k=>x.fo fun x=>k (.p x)
 |.elem x,k=>x.fo fun x=>k (.elem x)
 |.own id nn t c,k=>ZbH id fun id=>ZI2 (ZdN t.fo) c fun c=>k (.own id nn t c)
 |.ref id q,k=>ZbH id fun id=>k (.ref id q)
 |.view id q s lo n,k=>ZbH id fun id=>ZbH s fun s=>ZbH lo fun lo=>ZbH n fun n=>k (.view id q s lo n)
 |.agg xs,k=>TD.fos xs fun xs=>k (.agg xs)
 |.arr n s xs,k=>ZbH n fun n=>ZbH s fun s=>TD.fos xs fun xs=>k (.arr n s xs)
 |.fn f xs,k=>TD.fos xs fun xs=>k (.fn f xs)
 |.iface t x,k=>TD.fo x fun x=>k (.iface t x)
 |.tup xs,k=>TD.fos xs fun xs=>k (.tup xs)
 |.mp id,k=>ZbH id fun id=>k (.mp id)
 |.rv id v s lo n,k=>ZbH id fun id=>ZbH v fun v=>ZbH s fun s=>ZbH lo fun lo=>ZbH n fun n=>k (.rv id v s lo n)
 |.rref id v q,k=>ZbH id fun id=>ZbH v fun v=>k (.rref id v q)
 |.rw id,k=>ZbH id fun id=>k (.rw id)
 |.rp id q,k=>ZbH id fun id=>k (.rp id q)
 |.junk,k=>k .junk
def TD.fos:List TD→(List TD→O)→O
 |[],k=>k []
 |x::r,k=>TD.fo x fun x=>TD.fos r fun r=>k (x::r)
end
mutual
theorem TD.fo_eq:∀(x:TD) (k:TD→O),x.fo k=k x
 |.p x,k=>by rw [TD.fo,TP.fo_eq]
 |.elem x,k=>by rw [TD.fo,TP.fo_eq]
 |.own id nn t c,k=>by rw [TD.fo,YO,ZGu (Wy (Ty.fo_eq t))]
 |.ref id q,k=>by rw [TD.fo,YO]
 |.view id q s lo n,k=>by rw [TD.fo,YO,YO,YO,YO]
 |.agg xs,k=>by rw [TD.fo,TD.fos_eq xs]
 |.arr n s xs,k=>by rw [TD.fo,YO,YO,TD.fos_eq xs]
 |.fn f xs,k=>by rw [TD.fo,TD.fos_eq xs]
 |.iface t x,k=>by rw [TD.fo,TD.fo_eq x]
 |.tup xs,k=>by rw [TD.fo,TD.fos_eq xs]
 |.mp id,k=>by rw [TD.fo,YO]
 |.rv id v s lo n,k=>by rw [TD.fo,YO,YO,YO,YO,YO]
 |.rref id v q,k=>by rw [TD.fo,YO,YO]
 |.rw id,k=>by rw [TD.fo,YO]
 |.rp id q,k=>by rw [TD.fo,YO]
 |.junk,k=>rfl
theorem TD.fos_eq:∀(x:List TD) (k:List TD→O),TD.fos x k=k x
 |[],k=>rfl
 |x::r,k=>by rw [TD.fos,TD.fo_eq x,TD.fos_eq r]
end
def TEnt.fo (e:TEnt) (k:TEnt→O):O:=match e with
 |.var d st=>d.fo fun d=>Zrm st fun st=>k (.var d st)
 |.log t e xs=>ZdN t.fo xs fun xs=>k (.log t e xs)
 |.map tid a b l=>ZdN (fun q k=>a.fo q.1 fun x=>b.fo q.2 fun y=>k (x,y)) l fun l=>k (.map tid a b l)
 |.row v s st e d=>ZbH v fun v=>ZbH s fun s=>Zrm st fun st=>d.fo fun d=>k (.row v s st e d)
 |.rowT t v st e xs=>Zrm st fun st=>ZdN t.fo xs fun xs=>k (.rowT t v st e xs)
 |.rowN t np v st e a b=>Zrm st fun st=>ZdN t.fo a fun a=>ZdN t.fo b fun b=>k (.rowN t np v st e a b)
 |.rowM t np v st e a d b=>Zrm st fun st=>ZdN t.fo a fun a=>d.fo fun d=>ZdN t.fo b fun b=>k (.rowM t np v st e a d b)
 |.gone=>k .gone
theorem TEnt.fo_eq (e:TEnt) (k:TEnt→O):e.fo k=k e:=by
 cases e with
 |var d st=>rw [TEnt.fo,TD.fo_eq,Zgd]
 |log t e xs=>rw [TEnt.fo,Wy (Ty.fo_eq t)]
 |map tid a b l=>rw [TEnt.fo,Wy fun q k=>by rw [Ty.fo_eq a,Ty.fo_eq b]]
 |row v s st e d=>rw [TEnt.fo,YO,YO,Zgd,TD.fo_eq]
 |rowT t v st e xs=>rw [TEnt.fo,Zgd,Wy (Ty.fo_eq t)]
 |rowN t np v st e a b=>rw [TEnt.fo,Zgd,Wy (Ty.fo_eq t),Wy (Ty.fo_eq t)]
 |rowM t np v st e a d b=>rw [TEnt.fo,Zgd,Wy (Ty.fo_eq t),TD.fo_eq,Wy (Ty.fo_eq t)]
 |gone=>rfl
def foS (a:List TD) (h:List TEnt) (k:List TD→List TEnt→O):O:=TD.fos a fun a=>ZdN TEnt.fo h fun h=>k a h
theorem ZH3 (a:List TD) (h:List TEnt) (k:List TD→List TEnt→O):foS a h k=k a h:=by rw [foS,TD.fos_eq,Wy TEnt.fo_eq]
def foX:(l:List XSh)→XSh.sum l→(XSh.sum l→O)→O
 |[],x,k=>k x
 |[e],x,k=>Ty.fos e.ty x k
 |e::f::r,x,k=>match (x:Ty.dens e.ty⊕XSh.sum (f::r)) with
  |.inl x=>Ty.fos e.ty x fun x=>k (.inl x:Ty.dens e.ty⊕XSh.sum (f::r))
  |.inr x=>foX (f::r) x fun x=>k (.inr x:Ty.dens e.ty⊕XSh.sum (f::r))
theorem ZEx:∀(l:List XSh) (x:XSh.sum l) (k:XSh.sum l→O),foX l x k=k x
 |[],x,k=>rfl
 |[e],x,k=>Ty.fos_eq _ _ _
 |e::f::r,x,k=>by
  unfold foX
  cases (x:Ty.dens e.ty⊕XSh.sum (f::r)) with
  |inl x=>exact Ty.fos_eq _ _ _
  |inr x=>exact ZEx (f::r) x _
def Fs.fo {P:Program} (s:Fs P):Fs P:={ s with M:=fun x=>Ty.fos s.ins x fun x=>(s.M x).bind fun o=>foX s.xs o some}
theorem Fs.fo_ok {P:Program} {s:Fs P} (h:s.Ok):s.fo.Ok:=by
 have e:s.fo=s:=by
  unfold Fs.fo
  have:(fun x=>Ty.fos s.ins x fun x=>(s.M x).bind fun o=>foX s.xs o some)=s.M:=by
   funext x
   rw [Ty.fos_eq]
   cases s.M x with
   |none=>rfl
   |some o=>exact ZEx _ _ _
  rw [this]
 rw [e]
 exact h
theorem Zx4 {P:Program}:∀{l:List (Fs P)},AllOk l→AllOk (l.map Fs.fo)
 |[],_=>trivial
 |s::r,h=>⟨Fs.fo_ok h.1,Zx4 h.2⟩
end Go.Ev
end
section
namespace Go.Ev
def ZvU (h:List TEnt) (n0:Nat) (r:TD):List Nat:=
 let got:=ZoH h 100000 (r.look++yo n0) []
 ((yo h.length).drop n0).filter got.contains
def Ty.mkFs (f:(T:Ty)→TD→Option T.den):(fs:List Ty)→List TD→Option (Ty.dens fs)
 |[],[]=>some ()
 |[t],[d]=>f t d
 |t::u::r,d::ds=>ZkK (f t d) (Ty.mkFs f (u::r) ds)
 |_,_=>none
def mkL {T:Ty} (f:TD→Option T.den):List TD→Option (List T.den)
 |[]=>some []
 |d::r=>(ZkK (f d) (mkL f r)).map fun q=>q.1::q.2
def ZEy (H:List TEnt) (id:Nat) (u:Ty):Option (List u.den):=
 match H[id]? with
 |some (.rowT u' v false e l)=>Ty.castL u' u l
 |_=>none
theorem ZEz {H:List TEnt} {id:Nat} {u:Ty} {l:List u.den} (h:ZEy H id u=some l):DeepR (erH H) ((TD.rw id).er (lk H)) ((Ty.sl u).enc l):=by
 unfold ZEy at h
 split at h
 ·rename_i u' v e l' hd
  obtain ⟨e1,h⟩:=Zy h
  subst e1
  subst h
  have hE:(erH H)[id]? =some (.row v.length u'.size false e (.p (.arr l.length u'.size (l.map u'.enc)))):=ZT hd
  have:=DeepR.rvp (lo:=0) (n:=l.length) hE (by omega)
  rw [(Zau hd).1,Zy7]
  rw [List.drop_zero, ←yr (f:=u'.enc),List.take_length,yr] at this
  exact this
 ·cases h
def Zx5 (H:List TEnt):Nat→(T:Ty)→TD→Option T.den
 |0,_,_=>none
 |n+1,T,d=>match d with
  |.p x=>TP.to ZkL x T
  |.own id nn t c=>ZDw true t (ZS (lk H) id t c) T
  |.agg ds=>ZDx (fun fs=>Ty.mkFs (Zx5 H n) fs ds) T
  |.rw id=>match T with
   |.sl u=>ZEy H id u
   |_=>none
  |.rv id v s lo k=>match T with
   |.sl u=>match H[id]? with
    |some (.row w s' false e d)=>if (w==v&&s'==s&&s==u.size)=true then match d with
      |.p x=>x.arow.bind fun r=>(Ty.castL r.t u r.l).bind fun l=>if decide (lo+k≤r.n)=true then some ((l.drop lo).take k) else none
      |.arr N s2 ds=>if (s2==s&&decide (lo+k≤N))=true then (mkL (Zx5 H n u) ds).map fun (l:List u.den)=>(l.drop lo).take k else none
      |_=>none
     else none
    |_=>none
   |_=>none
  |_=>none
theorem ZA7 {H:List Ent} {L:Lk} {f:(T:Ty)→TD→Option T.den} (hf:∀T d y,f T d=some y→DeepR H (d.er L) (T.enc y)):∀(fs:List Ty) (ds:List TD) (y:Ty.dens fs),Ty.mkFs f fs ds=some y→
 (TD.ers L ds).length=(Ty.encs fs y).length∧∀(i:Nat) (d:Dv) (z:Pl),(TD.ers L ds)[i]? =some d→(Ty.encs fs y)[i]? =some z→DeepR H d z
 |[],[],y,h=>⟨rfl,fun i d z h1 _=>by simp [TD.ers] at h1⟩
 |[],_::_,y,h=>by cases h
 |[t],[],y,h=>by cases h
 |[t],[d],y,h=>by
  refine ⟨rfl,fun i d' z h1 h2=> ?_⟩
  cases i with
  |zero=>cases h1;cases h2;exact hf t d y h
  |succ i=>simp [TD.ers] at h1
 |[t],_::_::_,y,h=>by cases h
 |t::u::r,[],y,h=>by cases h
 |t::u::r,d::ds,y,h=>by
  obtain ⟨h1,h2⟩:=Vw (α:=t.den) (β:=Ty.dens (u::r)) h
  obtain ⟨h3,h4⟩:=ZA7 hf (u::r) ds y.2 h2
  refine ⟨by rw [TD.ers,Ty.encs,yz,yz,h3],fun i d' z k1 k2=> ?_⟩
  cases i with
  |zero=>cases k1;cases k2;exact hf t d y.1 h1
  |succ i=>exact h4 i d' z k1 k2
theorem ZEA {H:List Ent} {L:Lk} {T:Ty} {f:TD→Option T.den} (hf:∀d y,f d=some y→DeepR H (d.er L) (T.enc y)):∀(ds:List TD) (l:List T.den),mkL f ds=some l→
 (TD.ers L ds).length=(l.map T.enc).length∧∀(i:Nat) (d:Dv) (z:Pl),(TD.ers L ds)[i]? =some d→(l.map T.enc)[i]? =some z→DeepR H d z
 |[],l,h=>by cases h;exact ⟨rfl,fun i d z h1 _=>by simp [TD.ers] at h1⟩
 |d::ds,l,h=>by
  obtain ⟨q,h1,rfl⟩:=Zb h
  obtain ⟨h1,h2⟩:=Vw h1
  obtain ⟨h3,h4⟩:=ZEA hf ds q.2 h2
  refine ⟨by rw [TD.ers,yy,yz,yz,h3],fun i d' z k1 k2=> ?_⟩
  cases i with
  |zero=>cases k1;cases k2;exact hf d q.1 h1
  |succ i=>exact h4 i d' z k1 k2
theorem Zrn {H:List TEnt}:∀(n:Nat) (T:Ty) (d:TD) (y:T.den),Zx5 H n T d=some y→DeepR (erH H) (d.er (lk H)) (T.enc y)
 |0,_,_,_,h=>by cases h
 |n+1,T,d,y,h=>by
  unfold Zx5 at h
  split at h
  ·exact .wk (.p _) (ZAB h)
  ·rename_i id nn t c
   obtain ⟨l,_,e1,rfl⟩:=ZnD (nn:=none) h
   rw [e1,TD.er]
   exact .wk (.own id nn t.size _) (PlWk.sl_mk (PlsWk.refl _))
  ·rename_i ds
   obtain ⟨fs,z,h1,e1⟩:=ZnE h
   rw [e1,TD.er]
   obtain ⟨h2,h3⟩:=ZA7 (fun T d y=>Zrn n T d y) fs ds z h1
   exact .agg h2 h3
  ·rename_i id
   cases T with
   |sl u=>exact ZEz h
   |_=>cases h
  ·rename_i id v s lo k
   split at h
   ·rename_i u
    split at h
    ·rename_i w s' e dd hd
     obtain ⟨hk,g⟩:=Za h
     clear h
     simp only [yg,beq_iff_eq] at hk
     obtain ⟨⟨hk1,hk2⟩,hk3⟩:=hk
     have hE:=ZT hd
     rw [hk1,hk2,hk3] at hE
     split at g
     ·rename_i x
      obtain ⟨r,p1,g1⟩:=yc.1 g
      obtain ⟨l,p2,g2⟩:=yc.1 g1
      obtain ⟨p3,g3⟩:=Za g2
      cases g3
      obtain ⟨rn,rt,rl⟩:=r
      obtain ⟨e1,p2⟩:=Zy p2
      dsimp only at e1 p2 p3
      subst e1
      subst p2
      rw [TEnt.er,TD.er,Vd p1] at hE
      have:=DeepR.rvp hE (of_decide_eq_true p3)
      rw [Zy7,ybs,List.map_drop,TD.er,hk3]
      exact this
     ·rename_i N s2 ds
      obtain ⟨p1,g1⟩:=Za g
      simp only [yg,beq_iff_eq,decide_eq_true_eq] at p1
      obtain ⟨q1,p1⟩:=p1
      obtain ⟨l,p2,g2⟩:=Zb g1
      subst g2
      obtain ⟨h2,h3⟩:=ZEA (fun d y=>Zrn n u d y) ds l p2
      rw [TEnt.er,TD.er,q1,hk3] at hE
      have:=DeepR.rva hE p1 h2 h3
      rw [Zy7,ybs,List.map_drop,TD.er,hk3]
      exact this
     ·cases g
    ·cases h
   ·cases h
  ·cases h
def Zx6:TEnt→TEnt
 |.row v s _ e d=>.row v s false e d
 |.rowT t v _ e l=>.rowT t v false e l
 |e=>e
def Zg1 (ids:List Nat) (H:List TEnt):List TEnt:=(yo H.length).zipWith (fun i e=>if ids.contains i then Zx6 e else e) H
theorem ZEB (e:TEnt):lkE (some (Zx6 e))=lkE (some e):=by cases e <;> rfl
theorem ZoK (ids:List Nat) (H:List TEnt) (i:Nat):(Zg1 ids H)[i]? =(H[i]?).map fun e=>if ids.contains i then Zx6 e else e:=by
 unfold Zg1
 rw [List.getElem?_zipWith]
 rcases ybr i H.length with h|h
 ·rw [List.getElem?_range h,yv h]
  rfl
 ·rw [yak (by simpa using h),yak h]
  rfl
theorem Zro (ids:List Nat) (H:List TEnt):lk (Zg1 ids H)=lk H:=by
 funext i
 unfold lk
 rw [ZoK]
 cases H[i]? with
 |none=>rfl
 |some e=>
  show lkE (some (if ids.contains i=true then Zx6 e else e))=_
  split
  ·exact ZEB e
  ·rfl
theorem ZzX (ids:List Nat) (H:List TEnt):WkH (erH H) (erH (Zg1 ids H)):=by
 refine ZzI (by rw [ZJ,ZJ];unfold Zg1;simp) fun i a b h1 h2=> ?_
 unfold erH at h1 h2
 rw [yaa] at h1 h2
 rw [Zro,ZoK] at h2
 cases he:H[i]? with
 |none=>rw [he] at h1;cases h1
 |some e=>
  rw [he] at h1 h2
  cases h1
  cases h2
  show WkE (e.er (lk H)) (TEnt.er (lk H) (if ids.contains i=true then Zx6 e else e))
  split
  ·cases e <;> first|exact .refl _|exact .lock
  ·exact .refl _
def ZzY:List TEnt→Nat→Bool
 |H,i=>match H[i]? with
  |some (.row _ _ _ _ _)=>true
  |some (.rowT _ _ _ _ _)=>true
  |_=>false
def ZA8 (P:Program) (H:List TEnt) (t:TypeId) (d:TD):Option TD:=
 match d with
 |.p x=>some (.p x)
 |d=>(Zh0 P tyD t).bind fun T=>(Zx5 H 100 T d).map fun y=>.p (.v T y)
theorem Zx7 {P:Program} {H:List TEnt} {t:TypeId} {d e:TD} (h:ZA8 P H t d=some e):DeepP (erH H) (d.er (lk H)) (e.er (lk H)):=by
 unfold ZA8 at h
 split at h
 ·cases h;exact .refl _
 ·obtain ⟨T,h1,h⟩:=yc.1 h
  obtain ⟨y,h2,rfl⟩:=Zb h
  exact .deep (Zrn _ _ _ _ h2)
def ZvV (P:Program) (H:List TEnt):List TypeId→List TD→Option (List TD)
 |[],[]=>some []
 |t::r,d::ds=>match ZA8 P H t d,ZvV P H r ds with
  |some a,some b=>some (a::b)
  |_,_=>none
 |_,_=>none
theorem Zun {P:Program} {H:List TEnt}:∀{ts:List TypeId} {ds es:List TD},ZvV P H ts ds=some es→DeepL (erH H) (TD.ers (lk H) ds) (TD.ers (lk H) es)
 |[],[],es,h=>by cases h;exact .nil
 |[],_::_,es,h=>by cases h
 |_::_,[],es,h=>by cases h
 |t::r,d::ds,es,h=>by
  simp only [ZvV] at h
  split at h
  ·rename_i a b h1 h2
   cases h
   exact .cons (Zx7 h1) (Zun h2)
  ·cases h
def ZEC (P:Program) (H:List TEnt) (ts:List TypeId) (r:TD):Option TD:=
 match ts with
 |[t]=>ZA8 P H t r
 |ts=>match r with
  |.tup ds=>(ZvV P H ts ds).map .tup
  |_=>none
theorem ZED {P:Program} {H:List TEnt} {ts:List TypeId} {r r':TD} (h:ZEC P H ts r=some r'):DeepT (erH H) (r.er (lk H)) (r'.er (lk H)):=by
 unfold ZEC at h
 split at h
 ·exact .one (Zx7 h)
 ·split at h
  ·obtain ⟨es,h1,rfl⟩:=Zb h
   exact .tup (Zun h1)
  ·cases h
def ZCD {O:Type} (P:Program) (ts:List TypeId) (r:TD) (H:List TEnt) (K:TD→List TEnt→Option O):Option O:=
 match ts with
 |[]=>K r H
 |ts=>(ZEC P (Zg1 ((ZoH H 100000 r.look []).filter (ZzY H)) H) ts r).bind fun r'=>K r' (Zg1 ((ZoH H 100000 r.look []).filter (ZzY H)) H)
theorem Zuo {O:Type} {P:Program} {ts:List TypeId} {r:TD} {H:List TEnt} {K:TD→List TEnt→Option O} {out:O} {g:FuncId} {args:List Dv} {H0:List Ent} (h:ZCD P ts r H K=some out) (hc:Con P g args H0 (r.er (lk H)) (erH H)):
 ∃r' H',K r' H'=some out∧Con P g args H0 (r'.er (lk H')) (erH H'):=by
 unfold ZCD at h
 split at h
 ·exact ⟨_,_,h,hc⟩
 ·obtain ⟨r',h1,h2⟩:=yc.1 h
  generalize (ZoH H 100000 r.look []).filter (ZzY H)=ids at h1 h2
  refine ⟨_,_,h2,ZDv hc (ZzX ids H) ?_⟩
  have:=ZED h1
  rw [Zro] at this ⊢
  exact this
def ZCE {O:Type} (h:List TEnt) (n0:Nat) (ds:List TD) (K:TD→List TEnt→Option O):Option O:=
 let keep:=ZvU h n0 (Zrj ds)
 if once (yo n0++keep) then (match Dv.rn (toIds (yo n0++keep)) ((Zrj ds).er (lk h)) with
  |some _=>(Zrj ds).rn (toIds (yo n0++keep))
  |none=>(Zrj (ds.map (TD.arg (lk h)))).rn (toIds (yo n0++keep))).bind fun r=>
  (X4 h (yo n0++keep) (yo n0++keep)).bind fun h2=>K r h2
 else none
section
variable {P:Program}
def ZGv (P:Program) (his:FuncId→HI) (l:List (Fs P)) (mt:List (TypeId×String×FuncId)):Nat→(O:Type)→FuncId→List TD→List TEnt→(TD→List TEnt→Option O)→Option O
 |0,_,_,_,_,_=>none
 |n+1,O,g,args,H,K=>foS args H fun args H=>match P.funcs[g]? with
  |some fn=>match fn.body with
   |some c=>if decide (args.length≤fn.ntmps)=true then
     evT P { hi:=his g,un:=1000000} ⟨l,ZGv P his l mt n,mt⟩ c 0 0 (args++yp (fn.ntmps - args.length) .junk) H fun ex a h=>match ex with
      |.exit _=>none
      |_=>Zs4 P a h fn.results.toList fun ds _=>ZCE h H.length ds fun r h=>ZCD P (his g).deep r h fun r h=>foS [r] h fun rs h=>match rs with
       |[r]=>K r h
       |_=>none
     else none
   |none=>none
  |none=>none
theorem ZA9 {his:FuncId→HI} {l:List (Fs P)} {mt:List (TypeId×String×FuncId)} (hl:AllOk l) (hm:MtOk P mt):∀(n:Nat),HdOk P (ZGv P his l mt n)
 |0=>fun _ _ _ _ _ _ h=>by cases h
 |n+1=>fun O g args H K out hM=>by
  unfold ZGv at hM
  simp only [ZH3] at hM
  split at hM
  ·rename_i fn hf
   split at hM
   ·rename_i c hb1
    obtain ⟨hn,hM⟩:=Za hM
    have hn:=of_decide_eq_true hn
    have hlen:(args++yp (fn.ntmps - args.length) TD.junk).length=fn.ntmps:=by
     rw [yl,yci]
     omega
    obtain ⟨ex,a,hh,k1,k2,k3⟩:=X6 (N:=fn.ntmps) ⟨hl,ZA9 hl hm n,hm⟩ c _ _ _ _ _ hlen (fun k b hk lp h=>by cases h) (fun k b hk lp h=>by cases h) hM
    have hex:(ex=.ret∨ex=.normal)∧(Zs4 P a hh fn.results.toList fun ds _=>ZCE hh H.length ds fun r h=>ZCD P (his g).deep r h K)=some out:=by
     cases ex with
     |exit _=>cases k1
     |normal=>exact ⟨.inr rfl,k1⟩
     |ret=>exact ⟨.inl rfl,k1⟩
    obtain ⟨hex,k1⟩:=hex
    obtain ⟨ds,hs,C,g1,g2,g3⟩:=Zgc _ _ k1
    unfold ZCE at g1
    dsimp only at g1
    generalize ZvU hh H.length (Zrj ds)=keep at g1
    obtain ⟨g5,g1⟩:=Za g1
    obtain ⟨r,g6,g1⟩:=yc.1 g1
    obtain ⟨e2,g7,g1⟩:=yc.1 g1
    refine Zuo g1 ?_
    have hfin:fin P fn (TD.ers (lk hh) a) (erH hh) (erH H).length keep hs=some (C,r.er (lk e2),erH e2):=by
     unfold fin
     have:=g3 []
     rw [yba] at this
     rw [this]
     dsimp only
     rw [ZJ,g5, ←Zj8,show subEnts (erH hh) _ _=some (erH e2) from X5 (QW g7) g7]
     split at g6
     ·rename_i r0 hr0
      have e4:=Ze6 (QW g7) _ _ g6
      rw [e4]
     ·rename_i hr0
      have e4:=Ze6 (QW g7) _ _ g6
      rw [Zj8,ZI,yao] at e4
      rw [hr0,show (TD.ers (lk hh) ds).map Dv.arg=ds.map (TD.er (lk hh) ∘ TD.arg (lk hh)) by
       rw [ZI,yao]
       exact yby fun d _=>(ZzV d).symm,e4]
    have hrun:XK P c (TD.ers (lk H) args++yp (fn.ntmps - (TD.ers (lk H) args).length) .junk) (erH H) ex (TD.ers (lk hh) a) (erH hh):=by
     have e5:TD.ers (lk H) (args++yp (fn.ntmps - args.length) TD.junk)=TD.ers (lk H) args++yp (fn.ntmps - (TD.ers (lk H) args).length) .junk:=by
      rw [ZgV,ZI,ZI,yai,List.map_replicate]
      rfl
     rw [←e5]
     exact k3
    exact ZiO hf hb1 hrun hex hfin g2
   ·cases hM
  ·cases hM
def ZH4 (P:Program) (his:FuncId→HI) (l:List (Fs P)) (mt:List (TypeId×String×FuncId)) (n:Nat) (g:FuncId):Option Bool:=
 ZGv P his l mt n Bool g [] [] fun r h=>match h with
  |[]=>r.boolT
  |_=>none
theorem ZGw {his:FuncId→HI} {l:List (Fs P)} {mt:List (TypeId×String×FuncId)} {n:Nat} {g:FuncId} {b:Bool} (hl:AllOk l) (hm:MtOk P mt) (h:ZH4 P his l mt n g=some b):Con P g [] [] (.p (.bool b)) []:=by
 obtain ⟨r,H',h1,h2⟩:=ZA9 hl hm n _ _ _ _ _ _ h
 split at h1
 ·rw [Zf7 h1] at h2
  exact h2
 ·cases h1
theorem ZH5 {his:FuncId→HI} {l:List (Fs P)} {mt:List (TypeId×String×FuncId)} {n:Nat} {g:FuncId} {b:Bool} (hl:AllOk l) (hm:MtOk P mt) (h:ZH4 P his l mt n g=some b):
 Fs.Ok (⟨g,[],[],[],[⟨.ret,[(0,.v .bool)],[],[.bool]⟩],fun _=>some b⟩:Fs P):=by
 intro x o hM
 cases hM
 refine ⟨[],[],[],rfl,rfl,fun e vs s' hs hf=> ?_⟩
 obtain ⟨rfl,rfl⟩:=hs
 cases hf
 exact ⟨_,rfl,ZGw hl hm h⟩
end
theorem okN {P:Program} (s:Nat→Fs P) (h:(s fuel).Ok):(s 18446744073709551616).Ok:=by
 rw [Zc0] at h
 exact h
end Go.Ev
end
section
namespace Go.Ev
theorem ZEE {P:Program} {g:FuncId} {args:List Dv} {H H1 H2:List Ent} {r r2:Dv} {keep:List Nat} (h:Con P g args H r H1) (ho:once (yo H.length++keep)=true)
 (hin:subEnts H1 (yo H.length++keep) (yo H.length++keep)=some H2) (hr:r.rn (toIds (yo H.length++keep))=some r2):Con P g args H r2 H2:=by
 intro σ vs ok e hv
 refine Calls.mono (h σ vs ok e hv) ?_
 rintro e' w' ⟨v,σ',h1,h2,h3,h4,h5,h6⟩
 subst h3
 subst e
 exact ⟨v,ZkJ σ' (yo σ.H.length++keep) H2,h1,h2,rfl,ZpQ ok h4 ho hin,ZpP h5 ho hin,ZdA (ZgU hin) hr h6⟩
def ZBa (h:List TEnt) (n0:Nat) (r:TD) (e:XSh):Option (Ty.dens e.ty):=
 match e.sl with
 |[(0,rs)]=>(ZEw h rs e.es n0 r).bind fun keep=>
  if once (yo n0++keep) then (r.rn (toIds (yo n0++keep))).bind fun r=>
   (X4 h (yo n0++keep) (yo n0++keep)).bind fun h2=>(Sh.mt (lk h2) rs r).bind fun q=>(ESh.mts (lk h2) e.es h2).bind fun w=>toD e.ty (q.2++w.2)
  else none
 |_=>none
def Zrp (h:List TEnt) (n0:Nat) (r:TD):(l:List XSh)→Option (XSh.sum l)
 |[]=>none
 |[e]=>ZBa h n0 r e
 |e::f::q=>match ZBa h n0 r e with
  |some x=>some (Sum.inl x:Ty.dens e.ty⊕XSh.sum (f::q))
  |none=>(Zrp h n0 r (f::q)).map fun x=>(Sum.inr x:Ty.dens e.ty⊕XSh.sum (f::q))
theorem ZoL {h:List TEnt} {n0:Nat} {r:TD}:∀{l:List XSh} {o:XSh.sum l},Zrp h n0 r l=some o→∀e vs,ZxK l o e vs→∃x,ZBa h n0 r e=some x∧vs=ofD e.ty x
 |[],_,k,_,_,_=>by cases k
 |[e],o,k,x,vs,hs=>by
  obtain ⟨rfl,rfl⟩:=hs
  exact ⟨o,k,rfl⟩
 |e::f::q,o,k,x,vs,hs=>by
  simp only [Zrp] at k
  split at k
  ·rename_i y hy
   cases k
   obtain ⟨rfl,rfl⟩:=hs
   exact ⟨y,hy,rfl⟩
  ·obtain ⟨y,h1,h2⟩:=Zb k
   subst h2
   exact ZoL h1 x vs hs
section
variable {P:Program}
def fnD (P:Program) (fi:FI) (specs:Sp P) (g:FuncId) (ps:List Sh) (es:List ESh) (ins:List Ty) (xs:List XSh):Ty.dens ins→Option (XSh.sum xs):=fun x=>
 match P.funcs[g]? with
 |some fn=>match fn.body with
  |some c=>(Sh.fills ps (ofD ins x)).bind fun q=>(ESh.fills es q.2).bind fun w=>if w.2.isEmpty then
    evT P fi specs c 0 0 (q.1++yp (fn.ntmps - q.1.length) .junk) w.1 fun ex a h=>match ex with
     |.exit _=>none
     |_=>Zs4 P a h fn.results.toList fun ds _=>ZCE h w.1.length ds fun r h=>ZCD P fi.hi.deep r h fun r h=>Zrp h w.1.length r xs
    else none
  |none=>none
 |none=>none
theorem ZGx {fi:FI} {specs:Sp P} {g:FuncId} {ps:List Sh} {es:List ESh} {ins:List Ty} {xs:List XSh} {M:Ty.dens ins→Option (XSh.sum xs)} (ok:SpOk specs) (hl:Zrh P g (Zo P g) fi.lp) (hn:ps.length≤Zo P g)
 (h:∀x,fnD P fi specs g ps es ins xs x=M x) (hb:Zuk P (Zo P g) (Zce P g) fi.bk:=by exact True.intro):Fs.Ok (⟨g,ps,es,ins,xs,M⟩:Fs P):=by
 intro x o hM
 have hM:M x=some o:=hM
 rw [←h x] at hM
 have hl':=ZA6 hl
 unfold fnD at hM
 split at hM
 ·rename_i fn hf
  split at hM
  ·rename_i c hb1
   obtain ⟨q,h1,hM⟩:=yc.1 hM
   obtain ⟨w,h2,hM⟩:=yc.1 hM
   obtain ⟨h3,hM⟩:=Za hM
   have hN:Zo P g=fn.ntmps:=by unfold Zo;rw [hf]
   have hc:Zce P g=c:=by unfold Zce;rw [hf];dsimp only;rw [hb1];rfl
   rw [hc,hN] at hl' hb
   have hb0:=ZvT hb
   rw [hN] at hn
   have hlen:(q.1++yp (fn.ntmps - q.1.length) TD.junk).length=fn.ntmps:=by
    rw [yl,yci,Zj4 h1]
    omega
   obtain ⟨ex,a,hh,k1,k2,k3⟩:=X6 ok c _ _ _ _ _ hlen hl' hb0 hM
   have hex:(ex=.ret∨ex=.normal)∧(Zs4 P a hh fn.results.toList fun ds _=>ZCE hh w.1.length ds fun r h=>ZCD P fi.hi.deep r h fun r h=>Zrp h w.1.length r xs)=some o:=by
    cases ex with
    |exit _=>cases k1
    |normal=>exact ⟨.inr rfl,k1⟩
    |ret=>exact ⟨.inl rfl,k1⟩
   obtain ⟨hex,k1⟩:=hex
   obtain ⟨ds,hs,C,g1,g2,g3⟩:=Zgc _ _ k1
   refine ⟨q.1,q.2,w.1,h1, ?_,fun e vs s' hsel hfs=> ?_⟩
   ·rw [h2]
    have:w.2=[]:=by simpa using h3
    rw [←this]
   unfold ZCE at g1
   dsimp only at g1
   generalize ZvU hh w.1.length (Zrj ds)=keep at g1
   obtain ⟨g5,g1⟩:=Za g1
   obtain ⟨r,g6,g1⟩:=yc.1 g1
   obtain ⟨e2,g7,g1⟩:=yc.1 g1
   have hrun:XK P c (TD.ers (lk w.1) q.1++yp (fn.ntmps - (TD.ers (lk w.1) q.1).length) .junk) (erH w.1) ex (TD.ers (lk hh) a) (erH hh):=by
    have e5:TD.ers (lk w.1) (q.1++yp (fn.ntmps - q.1.length) TD.junk)=TD.ers (lk w.1) q.1++yp (fn.ntmps - (TD.ers (lk w.1) q.1).length) .junk:=by
     rw [ZgV,ZI,ZI,yai,List.map_replicate]
     rfl
    rw [←e5]
    exact k3
   have hfin:fin P fn (TD.ers (lk hh) a) (erH hh) (erH w.1).length keep hs=some (C,r.er (lk e2),erH e2):=by
    unfold fin
    have:=g3 []
    rw [yba] at this
    rw [this]
    dsimp only
    rw [ZJ,g5, ←Zj8,show subEnts (erH hh) _ _=some (erH e2) from X5 (QW g7) g7]
    split at g6
    ·rename_i r0 hr0
     have e4:=Ze6 (QW g7) _ _ g6
     rw [e4]
    ·rename_i hr0
     have e4:=Ze6 (QW g7) _ _ g6
     rw [Zj8,ZI,yao] at e4
     rw [hr0,show (TD.ers (lk hh) ds).map Dv.arg=ds.map (TD.er (lk hh) ∘ TD.arg (lk hh)) by
      rw [ZI,yao]
      exact yby fun d _=>(ZzV d).symm,e4]
   obtain ⟨r',H',m1,m2⟩:=Zuo g1 (ZiO hf hb1 hrun hex hfin g2)
   obtain ⟨o1,m3,hvs⟩:=ZoL m1 e vs hsel
   unfold ZBa at m3
   split at m3
   case h_2=>cases m3
   rename_i rs hsl
   obtain ⟨keep2,n1,m3⟩:=yc.1 m3
   obtain ⟨n2,m3⟩:=Za m3
   obtain ⟨r3,n3,m3⟩:=yc.1 m3
   obtain ⟨e3,n4,m3⟩:=yc.1 m3
   obtain ⟨z,g8,m3⟩:=yc.1 m3
   obtain ⟨y,g9,m3⟩:=yc.1 m3
   obtain ⟨b1,b2⟩:=Zga g9
   have hcc:∀id t,ZS (lk e3) id t none=ZS (lk y.1) id t none:=fun id t=>by rw [b2]
   have eo:=ZcZ _ _ _ m3
   have efill:s'=([z.1],y.1):=by
    rw [hvs,eo,hsl] at hfs
    unfold V3 at hfs
    rw [show shs [(0,rs)] 1=[rs] from rfl] at hfs
    simp only [Sh.fills,Zj2 _ _ _ g8,yb,yw] at hfs
    have:=ZaV g9 []
    rw [yba] at this
    rw [this] at hfs
    exact (ybj hfs).symm
   subst efill
   refine ⟨z.1,rfl, ?_⟩
   have hk:Con P g (TD.ers (lk w.1) q.1) (erH w.1) (r3.er (lk e3)) (erH e3):=by
    refine ZEE (keep:=keep2) m2 (by rw [ZJ];exact n2) ?_ ?_
    ·rw [ZJ]
     exact X5 (QW n4) n4
    ·rw [ZJ]
     exact Ze6 (QW n4) _ _ n3
   exact Zxa hk (Zq2 hcc _ _ _ g8) (Zj3 hcc g9)
  ·cases hM
 ·cases hM
end
end Go.Ev
end
section
namespace Go.Ev
open Go.RowKit Go.WideShapes Go.ChangeShapes
def Z8 (P:Program):Nat→TypeId→Bool
 |0,_=>false
 |n+1,t=>match P.underlying t with
  |some .bool=>true
  |some (.int _)=>true
  |some .string=>true
  |some (.slice e)=>Z8 P n e&&decide (0 < P.cellsOf e)
  |some (.array m e)=>Z8 P n e&&P.cellsOf t==m*P.cellsOf e
  |some (.struct fs)=>(fs.toList.all fun f=>Z8 P n f.type)&&P.cellsOf t==(fs.toList.map fun f=>P.cellsOf f.type).sum&&
    ((yo fs.toList.length).all fun j=>match fs.toList[j]? with|some f=>f.offset==((fs.toList.take j).map fun f=>P.cellsOf f.type).sum|none=>true)
  |_=>false
theorem ZvW (P:Program):Kids P (fun t=>∃n,Z8 P n t=true) where
 pointer:=by
  rintro t e ⟨n,h⟩ hu
  cases n with
  |zero=>simp [Z8] at h
  |succ n=>simp [Z8,hu] at h
 slice:=by
  rintro t e ⟨n,h⟩ hu
  cases n with
  |zero=>simp [Z8] at h
  |succ n=>simp [Z8,hu] at h;exact ⟨n,h.1⟩
 array:=by
  rintro t e m ⟨n,h⟩ hu
  cases n with
  |zero=>simp [Z8] at h
  |succ n=>simp [Z8,hu] at h;exact ⟨⟨n,h.1⟩,h.2⟩
 struct:=by
  rintro t fs ⟨n,h⟩ hu
  cases n with
  |zero=>simp [Z8] at h
  |succ n=>
   simp only [Z8,hu,yg,beq_iff_eq,List.all_eq_true] at h
   obtain ⟨⟨h1,h2⟩,h3⟩:=h
   refine ⟨fun f hf=>⟨n,h1 f hf⟩,h2,fun j f hf=> ?_⟩
   have hj:j < fs.toList.length:=(yj.1 hf).1
   have:=h3 j (by simpa using hj)
   rw [hf] at this
   simpa using this
 map:=by
  rintro t k e ⟨n,h⟩ hu
  cases n with
  |zero=>simp [Z8] at h
  |succ n=>simp [Z8,hu] at h
def ZGy (R:TypeId→Pl→Prop):List Field→List Pl→Prop
 |[],[]=>True
 |f::fs,y::ys=>R f.type y∧ZGy R fs ys
 |_,_=>False
def wtP (P:Program):Nat→TypeId→Pl→Prop
 |0,_,_=>False
 |n+1,t,x=>match P.underlying t,x with
  |some .bool,.bool _=>True
  |some (.int k),.int k' m=>k'=k∧(Lit.int k m).wf=true
  |some .string,.str s=>s.size≤maxLen
  |some (.slice e),.sl nn s xs=>s=P.cellsOf e∧nn=none∧xs.length≤maxLen∧∀y,y∈xs→wtP P n e y
  |some (.array m e),.arr m' s xs=>m'=m∧s=P.cellsOf e∧xs.length=m∧∀y,y∈xs→wtP P n e y
  |some (.struct fs),.agg xs=>ZGy (wtP P n) fs.toList xs
  |_,_=>False
def ZvX:Nat→Nat→Prop:=fun _ _=>True
section
variable {H:Type} {enc:TypeId×Value→H} {P:Program} {w:World} {base:Nat} {sp:Nat→Bool} {held:Bool}
theorem ZCF:∀{s:Nat} {a:Addr} {cs:List Value},w.cells? base a s=some cs→cs.length=s∧∀j u,cs[j]? =some u→w.cell? (a.add j)=some u:=by
 intro s a cs h
 unfold World.cells? at h
 split at h
 ·have hl:cs.length=s:=by simpa using mapM_some_length h
  refine ⟨hl,fun j u hu=> ?_⟩
  have hj:j < s:=by rw [←hl];exact (yj.1 hu).1
  have:=mapM_some_get h j j (by simp [hj])
  rw [hu] at this
  exact this
 ·cases h
theorem ZBb {e:TypeId} {n m:Nat} {a:Addr} {s:Nat} (hs:0 < s) {elems:List (DataW H×List MemPlace)} {len:Nat} (hlen:elems.length=len)
 (ih:∀(cs:List Value) (x:DataW H×List MemPlace),DataW.trod enc P w base sp held m e cs=some x→cs.length=s→∃pl,wtP P n e pl∧repC w ZvX pl cs)
 (h:∀i,i < len→(w.cells? base (a.add (i*s)) s).bind (DataW.trod enc P w base sp held m e)=elems[i]?):
 ∀k,k≤len→∃(xs:List Pl) (us:List Value),xs.length=k∧(∀y,y∈xs→wtP P n e y)∧allSz s xs∧us.length=k*s∧repCs w ZvX xs us∧(∀j u,us[j]? =some u→w.cell? (a.add j)=some u)
 |0,_=>⟨[],[],rfl,(fun y hy=>by cases hy),(fun y hy=>by cases hy),by simp,by simp [repCs],by simp⟩
 |k+1,hk=>by
  obtain ⟨xs,us,h1,h2,h3,h4,h5,h6⟩:=ZBb hs hlen ih h k (by omega)
  have hk':=h k (by omega)
  rw [yv (by omega)] at hk'
  obtain ⟨cs,hc,ht⟩:=yc.1 hk'
  obtain ⟨c1,c2⟩:=ZCF hc
  obtain ⟨pl,p1,p2⟩:=ih cs _ ht c1
  have psz:pl.size=s:=by rw [←XJ _ _ p2,c1]
  refine ⟨xs++[pl],us++cs,by simp [h1],fun y hy=> ?_,fun y hy=> ?_,by simp [h4,c1,yan],Z5 h5 (by simpa [repCs] using p2),fun j u hu=> ?_⟩
  ·rcases ych.1 hy with hy|hy
   ·exact h2 y hy
   ·rw [yal.1 hy];exact p1
  ·rcases ych.1 hy with hy|hy
   ·exact h3 y hy
   ·rw [yal.1 hy];exact psz
  ·by_cases hj:j < us.length
   ·rw [yae hj] at hu;exact h6 j u hu
   ·rw [yaj (by omega)] at hu
    have:=c2 _ _ hu
    rw [Addr.add_add] at this
    rw [←this]
    congr 2
    omega
theorem Zx8 {e:TypeId} {n m:Nat} {s:Nat} {cs:List Value} {elems:List (DataW H×List MemPlace)} {len:Nat} (hlen:elems.length=len) (hcs:cs.length=len*s)
 (ih:∀(cs:List Value) (x:DataW H×List MemPlace),DataW.trod enc P w base sp held m e cs=some x→cs.length=s→∃pl,wtP P n e pl∧repC w ZvX pl cs)
 (h:∀i,i < len→DataW.trod enc P w base sp held m e ((cs.drop (i*s)).take s)=elems[i]?):
 ∀k,k≤len→∃(xs:List Pl),xs.length=k∧(∀y,y∈xs→wtP P n e y)∧allSz s xs∧repCs w ZvX xs (cs.take (k*s))
 |0,_=>⟨[],rfl,(fun y hy=>by cases hy),(fun y hy=>by cases hy),by simp [repCs]⟩
 |k+1,hk=>by
  obtain ⟨xs,h1,h2,h3,h5⟩:=Zx8 hlen hcs ih h k (by omega)
  have hk':=h k (by omega)
  rw [yv (by omega)] at hk'
  have hle:k*s+s≤len*s:=by rw [←Nat.succ_mul];exact Nat.mul_le_mul_right _ hk
  have c1:((cs.drop (k*s)).take s).length=s:=by simp;omega
  obtain ⟨pl,p1,p2⟩:=ih _ _ hk' c1
  have psz:pl.size=s:=by rw [←XJ _ _ p2,c1]
  refine ⟨xs++[pl],by simp [h1],fun y hy=> ?_,fun y hy=> ?_, ?_⟩
  ·rcases ych.1 hy with hy|hy
   ·exact h2 y hy
   ·rw [yal.1 hy];exact p1
  ·rcases ych.1 hy with hy|hy
   ·exact h3 y hy
   ·rw [yal.1 hy];exact psz
  ·rw [yan,Nat.one_mul,List.take_add]
   exact Z5 h5 (by simpa [repCs] using p2)
theorem Zup {n m:Nat} {cs:List Value}
 (ih:∀(t:TypeId),Z8 P n t=true→∀(cs:List Value) (x:DataW H×List MemPlace),DataW.trod enc P w base sp held m t cs=some x→∃pl,wtP P n t pl∧repC w ZvX pl cs):
 ∀(fs:List Field) (o:Nat),(∀f,f∈fs→Z8 P n f.type=true)→(∀(j:Nat) f,fs[j]? =some f→f.offset=o+((fs.take j).map fun f=>P.cellsOf f.type).sum)→
  cs.length=o+(fs.map fun f=>P.cellsOf f.type).sum→(∀(j:Nat) f,fs[j]? =some f→∃x,DataW.trod enc P w base sp held m f.type ((cs.drop f.offset).take (P.cellsOf f.type))=some x)→
  ∃(xs:List Pl),ZGy (wtP P n) fs xs∧repCs w ZvX xs (cs.drop o)
 |[],o,_,_,hl,_=>⟨[],trivial,by simp only [repCs];apply List.drop_eq_nil_of_le;simp at hl;omega⟩
 |f::fs,o,hp,ho,hl,h=>by
  obtain ⟨x,hx⟩:=h 0 f rfl
  have ho0:=ho 0 f rfl
  simp at ho0
  rw [ho0] at hx
  obtain ⟨pl,p1,p2⟩:=ih f.type (hp f (yam ..)) _ _ hx
  simp only [yy,List.sum_cons] at hl
  obtain ⟨xs,q1,q2⟩:=Zup ih fs (o+P.cellsOf f.type) (fun g hg=>hp g (yaq _ hg)) (fun j g hg=>by
   have:=ho (j+1) g hg
   simp only [List.take_succ_cons,yy,List.sum_cons] at this
   omega) (by omega) (fun j g hg=>h (j+1) g hg)
  refine ⟨pl::xs,⟨p1,q1⟩, ?_⟩
  simp only [repCs]
  refine ⟨(cs.drop o).take (P.cellsOf f.type),(cs.drop o).drop (P.cellsOf f.type),(ybc ..).symm,p2, ?_⟩
  rw [List.drop_drop]
  exact q2
theorem ZGz:∀(n m:Nat) (t:TypeId),Z8 P n t=true→∀(cs:List Value) (x:DataW H×List MemPlace),DataW.trod enc P w base sp held m t cs=some x→∃pl,wtP P n t pl∧repC w ZvX pl cs:=by
 intro n
 induction n with
 |zero=>intro m t h;simp [Z8] at h
 |succ n ih=>
  intro m t ht cs x h
  unfold Z8 at ht
  split at ht
  ·rename_i hu
   obtain ⟨b,rfl,_⟩:=DataW.trod_bool hu h
   exact ⟨.bool b,by simp [wtP,hu],by simp [repC]⟩
  ·rename_i k hu
   obtain ⟨z,rfl,rfl,hw⟩:=DataW.trod_int hu h
   exact ⟨.int k z,by simp [wtP,hu,hw],by simp [repC]⟩
  ·rename_i hu
   obtain ⟨s,rfl,h2⟩:=DataW.trod_string hu h
   exact ⟨.str s,by simp [wtP,hu];exact h2.2,by simp [repC]⟩
  ·rename_i e hu
   simp only [yg,decide_eq_true_eq] at ht
   rcases DataW.trod_slice hu h with ⟨rfl,rfl⟩|⟨a,len,cap,elems,rest,m',rfl,rfl,rfl,_,hle,hcap,hlen,hel,_⟩
   ·exact ⟨.sl none (P.cellsOf e) [],by simp [wtP,hu],by simp only [repC];exact ⟨(fun y hy=>by cases hy),none,0,rfl,yi _,Nat.zero_le _,ZU _,fun _=>rfl,fun h=>absurd rfl h⟩⟩
   ·obtain ⟨xs,us,h1,h2,h3,h4,h5,h6⟩:=ZBb (n:=n) ht.2 hlen (fun cs x hx _=>ih m' e ht.1 cs x hx) hel len (yi _)
    refine ⟨.sl none (P.cellsOf e) xs,by simp only [wtP,hu];exact ⟨trivial,trivial,by omega,h2⟩, ?_⟩
    simp only [repC]
    refine ⟨h3,some a,cap,by rw [h1],by omega,hcap,ZU _,by simp,fun hne=> ?_⟩
    have hpos:0 < us.length:=by
     rw [h4]
     have:0 < len:=by rw [←h1];exact List.length_pos_iff.2 hne
     exact Nat.mul_pos this ht.2
    have hc0:=h6 0 us[0] (yv hpos)
    obtain ⟨b,o,spot⟩:=a
    have hspot:spot=none:=by
     cases spot with
     |none=>rfl
     |some z=>
      exfalso
      unfold World.cell? at hc0
      split at hc0
      ·simp [Addr.add] at hc0
      ·cases hc0
    subst hspot
    exact ⟨b,o,us,rfl,h5,fun j u hu=>⟨by have:=h6 j u hu;rwa [Addr.add_lit] at this,trivial⟩⟩
  ·rename_i k e hu
   simp only [yg,beq_iff_eq] at ht
   obtain ⟨elems,m',rfl,rfl,hl,hlen,hel⟩:=DataW.trod_array hu h
   obtain ⟨xs,h1,h2,h3,h4⟩:=Zx8 (n:=n) (s:=P.cellsOf e) hlen (by rw [hl,ht.2]) (fun cs x hx _=>ih m' e ht.1 cs x hx) hel k (yi _)
   rw [List.take_of_length_le (by rw [hl,ht.2];exact yi _)] at h4
   exact ⟨.arr k (P.cellsOf e) xs,by simp only [wtP,hu];exact ⟨trivial,trivial,h1,h2⟩,by simp only [repC];exact ⟨h1,h3,h4⟩⟩
  ·rename_i fs hu
   simp only [yg,beq_iff_eq,List.all_eq_true] at ht
   obtain ⟨⟨t1,t2⟩,t3⟩:=ht
   obtain ⟨elems,m',rfl,rfl,hl,hlen,hel⟩:=DataW.trod_struct hu h
   obtain ⟨xs,q1,q2⟩:=Zup (n:=n) (m:=m') (cs:=cs) (fun t ht cs x hx=>ih m' t ht cs x hx) fs.toList 0 t1 (fun j f hf=>by
    have hj:j < fs.toList.length:=(yj.1 hf).1
    have:=t3 j (by simpa using hj)
    rw [hf] at this
    simpa using this) (by rw [hl,t2];omega) (fun j f hf=>by
    have hj:j < fs.toList.length:=(yj.1 hf).1
    have:=hel j f (by simpa using hf)
    rw [yv (by rw [hlen];simpa using hj)] at this
    exact ⟨_,this⟩)
   exact ⟨.agg xs,by simp only [wtP,hu];exact q1,by simp only [repC];simpa using q2⟩
  ·cases ht
end
end Go.Ev
namespace Go.Ev
open Go.RowKit Go.WideShapes Go.ChangeShapes
def ZGA (P:Program) (n:Nat):List TypeId→List Pl→Prop
 |[],[]=>True
 |t::ts,x::xs=>wtP P n t x∧ZGA P n ts xs
 |_,_=>False
section
variable {H:Type} {enc:TypeId×Value→H} {P:Program}
def sg0 (W:World):Sg:={ F:=ZvX,B:=fun b=>W.heap.size≤b,m:=[],H:=[],w:=W}
theorem ZH6 (W:World):Ok (sg0 W) where
 len:=rfl
 inj i j b h:=by simp [sg0] at h
 lt i b h:=by simp [sg0] at h
 ent i e a h:=by simp [sg0] at h
 new b h:=h
 own i b h:=by simp [sg0] at h
theorem ZEF (W:World) (b o:Nat):(sg0 W).stab b o:=⟨.inl trivial,fun id e h=>by simp [sg0] at h⟩
theorem Zrq {W:World} {x:Pl} {v:Value} {cs:List Value} (hx:repC W ZvX x cs) (hc:v.cells.toList=cs) (hv:x.isAgg=true→∃a,v=.agg a) (hn:x.isAgg=false→cs=[v]):repDV (sg0 W) (.p x) v:=by
 have hm:repC W (sg0 W).stab x cs:=Qs (fun b o u h _=>⟨h,ZEF W b o⟩) x cs hx
 refine ⟨fun ha=> ?_,fun ha=> ?_⟩
 ·obtain ⟨a,rfl⟩:=hv ha
  refine ⟨a,rfl, ?_⟩
  simp only [repD]
  have:a.toList=cs:=by rw [←hc];rfl
  rw [this]
  exact hm
 ·simp only [repD]
  have e:=hn ha
  rw [←e]
  exact hm
theorem ZH7:∀{n:Nat} {t:TypeId} {x:Pl},wtP P n t x→x.isAgg=XC P t
 |0,_,_,h=>by simp [wtP] at h
 |n+1,t,x,h=>by
  unfold wtP at h
  split at h <;> rename_i hu <;> first|(simp [Pl.isAgg,XC,hu];done)|exact h.elim
theorem ZBc {W:World} {n:Nat} (hval:∀(t:TypeId) (v:Value),XC P t=true→Value.okWide P W .any 0 t v→∃a,v=.agg a):
 ∀(ts:List TypeId) (vs:List Value) (ds:List (DataW H)) (ps:List MemPlace),(∀t,t∈ts→Z8 P n t=true)→(∀(j:Nat) t v,ts[j]? =some t→vs[j]? =some v→(XC P t=true→∃a,v=.agg a)∧(XC P t=false→v.cells.toList=[v]))→
  DataW.TrodAll enc P W 0 (fun _=>true) true ts vs ds ps→∃xs,ZGA P n ts xs∧repVs (sg0 W) (xs.map .p) vs
 |[],[],[],_,_,_,_=>⟨[],trivial,by simp [repVs]⟩
 |[],_::_,_,_,_,_,h=>by simp [DataW.TrodAll] at h
 |[],[],_::_,_,_,_,h=>by simp [DataW.TrodAll] at h
 |_::_,[],_,_,_,_,h=>by simp [DataW.TrodAll] at h
 |_::_,_::_,[],_,_,_,h=>by simp [DataW.TrodAll] at h
 |t::ts,v::vs,d::ds,ps,hp,hv,h=>by
  obtain ⟨p,q,⟨fuel,h1⟩,h2,rfl⟩:=h
  obtain ⟨x,x1,x2⟩:=ZGz n fuel t (hp t (yam ..)) _ _ h1
  obtain ⟨xs,xs1,xs2⟩:=ZBc hval ts vs ds q (fun u hu=>hp u (yaq _ hu)) (fun j u w' hj hw=>hv (j+1) u w' hj hw) h2
  obtain ⟨v1,v2⟩:=hv 0 t v rfl rfl
  refine ⟨x::xs,⟨x1,xs1⟩, ?_⟩
  simp only [yy,repVs]
  have ha:=ZH7 x1
  exact ⟨v,vs,rfl,Zrq x2 rfl (fun e=>v1 (by rw [←ha];exact e)) (fun e=>v2 (by rw [←ha];exact e)),xs2⟩
theorem ZkO {W W':World} {sp':Nat→Bool} {n:Nat}:∀(ts:List TypeId) (vs:List Value) (ds:List (DataW H)) (ps:List MemPlace),(∀t,t∈ts→Z8 P n t=true)→
 DataW.TrodAll enc P W 0 (fun _=>true) true ts vs ds ps→(∀p∈ps,W.sameAt W' p)→(∀p∈ps,sp' p.block=true)→DataW.TrodAll enc P W' 0 sp' true ts vs ds ps
 |[],[],[],_,_,h,_,_=>h
 |[],_::_,_,_,_,h,_,_=>by simp [DataW.TrodAll] at h
 |[],[],_::_,_,_,h,_,_=>by simp [DataW.TrodAll] at h
 |_::_,[],_,_,_,h,_,_=>by simp [DataW.TrodAll] at h
 |_::_,_::_,[],_,_,h,_,_=>by simp [DataW.TrodAll] at h
 |t::ts,v::vs,d::ds,ps,hp,h,hs,hb=>by
  obtain ⟨p,q,⟨fuel,h1⟩,h2,rfl⟩:=h
  refine ⟨p,q,⟨fuel, ?_⟩,ZkO ts vs ds q (fun u hu=>hp u (yaq _ hu)) h2 (fun z hz=>hs z (List.mem_append_right _ hz)) (fun z hz=>hb z (List.mem_append_right _ hz)),rfl⟩
  exact DataW.trod_stays (ZvW P) (fun {t e} ⟨n,hn⟩ hu=>by
   cases n with
   |zero=>simp [Z8] at hn
   |succ n=>simp [Z8,hu] at hn;exact hn.2) (by simp) ⟨n,hp t (yam ..)⟩ h1 (fun z hz=>hs z (List.mem_append_left _ hz)) (fun z hz=>hb z (List.mem_append_left _ hz))
theorem Zx9 {W:World} {σ':Sg} (h:To (sg0 W) σ'):Below W.heap.size W σ'.w:=
 ⟨h.os,h.tape,h.output,h.size,fun b hb=>h.block b hb (fun id=>by simp [sg0])⟩
theorem Zrr {f:Func} {s:ChangeSpec} {apart fresh handsOn again:Bool} {W W':World} {args:Array Value} {v:Value} {ds gs:List (DataW H)} {before pa pv:List MemPlace}
 (hW:DataW.Whole enc P f.params.toList s.vars apart W args.toList ds gs before)
 (hres:∀(b:Nat) (sp:Nat→Bool) (hd:Bool),DataW.TrodAll enc P W' b sp hd f.resultTypes.toList (v.resultList f.resultTypes.size) (s.fn H (ds++gs)).results [])
 (hargs:∀sp:Nat→Bool,(∀p∈before,sp p.block=true)→DataW.TrodAll enc P W' 0 sp true f.params.toList args.toList (s.fn H (ds++gs)).args pa)
 (hvars:∀sp:Nat→Bool,(∀p∈before,sp p.block=true)→DataW.TrodVars enc P W' sp s.vars (s.fn H (ds++gs)).vars pv)
 (hps:before=pa++pv) (hb:Below W.heap.size W W')
 (hok:∀(j:Nat) (t:TypeId) (r:Value),f.resultTypes[j]? =some t→(v.resultList f.resultTypes.size)[j]? =some r→Value.okWide P W' .any 0 t r):
 s.post enc P f apart fresh handsOn again W args v W':=by
 have hlt:∀p∈before,p.block < W.heap.size:=fun p hp=>hW.lt p hp
 have hold:∀p∈before,(fun b=>decide (b < W.heap.size)) p.block=true:=fun p hp=>by simpa using hlt p hp
 refine ⟨ds,gs,before,[],pa,pv,hW,hres _ _ _,hargs _ hold,hvars _ hold,World.keptBut_mono (fun p hp=>⟨hp, ?_⟩) (hb.frame (· ∈before)),fun _=> ?_⟩
 ·rw [hps,ych] at hp
  exact Or.inr hp
 ·obtain ⟨_,_,_,_,_,hz,hn⟩:=hW
  refine ⟨hok,_,_,([]++pa)++pv,⟨[]++pa,pv,trodAll_append (hargs _ (fun _ _=>rfl)) (hres _ _ _),hvars _ (fun _ _=>rfl),rfl, ?_, ?_⟩, ?_⟩
  ·intro b off hp
   have hin:MemPlace.cell b off∈before:=by rw [hps];simpa using hp
   rw [hb.frozen (hlt _ hin)]
   exact hz b off hin
  ·intro ha
   have:=hn ha
   rw [hps] at this
   simpa using this
  ·intro p hp _
   rw [hps]
   simpa using hp
theorem ZvY {f:FuncId} {fn:Func} {s:ChangeSpec} {n:Nat} {tb:TypeId} (hr:fn.resultTypes= #[tb]) (ht:P.underlying tb=some .bool) (hv:s.vars=[])
 (hs:∀ds:List (DataW H),ds.length=fn.params.toList.length→s.fn H ds={ results:=[.lit (.bool true)],args:=ds}) (hp:∀t,t∈fn.params.toList→Z8 P n t=true)
 (W:World) (base:Nat) (args:Array Value) (ds gs:List (DataW H)) (before:List MemPlace)
 (hval:∀(j:Nat) t v,fn.params[j]? =some t→args[j]? =some v→Value.okWide P W .any base t v) (hW:DataW.Whole enc P fn.params.toList s.vars false W args.toList ds gs before)
 (hc:∀xs:List Pl,ZGA P n fn.params.toList xs→repVs (sg0 W) (xs.map .p) args.toList→Con P f (xs.map .p) [] (.p (.bool true)) []):
 Calls P f args W fun e W'=>∃v,e=.returned v∧s.post enc P fn false true false false W args v W':=by
 have hW':=hW
 obtain ⟨p,q,hA,hV,rfl,hfz,hnd⟩:=hW
 rw [hv] at hV
 obtain ⟨rfl,rfl⟩:gs=[]∧q=[]:=by
  cases gs with
  |nil=>exact ⟨rfl,hV⟩
  |cons g r=>simp [DataW.TrodVars] at hV
 have hlen:=trodAll_length hA
 obtain ⟨xs,x1,x2⟩:=ZBc (enc:=enc) (P:=P) (W:=W) (n:=n) (fun t v ha hok=>by
  unfold Value.okWide at hok
  unfold XC at ha
  split at hok
  ·obtain ⟨cs,rfl,_⟩:=hok;exact ⟨cs,rfl⟩
  ·obtain ⟨cs,rfl,_⟩:=hok;exact ⟨cs,rfl⟩
  ·rename_i h1 h2
   split at ha
   ·rename_i fs hu;exact absurd hu (h1 fs)
   ·rename_i k e hu;exact absurd hu (h2 k e)
   ·cases ha) fn.params.toList args.toList ds p hp (fun j t v hj hvv=>by
  have hok:=hval j t v (by simpa using hj) (by simpa using hvv)
  refine ⟨fun ha=> ?_,fun ha=> ?_⟩
  ·unfold Value.okWide at hok
   unfold XC at ha
   split at hok
   ·obtain ⟨cs,rfl,_⟩:=hok;exact ⟨cs,rfl⟩
   ·obtain ⟨cs,rfl,_⟩:=hok;exact ⟨cs,rfl⟩
   ·rename_i h1 h2
    split at ha
    ·rename_i fs hu;exact absurd hu (h1 fs)
    ·rename_i k e hu;exact absurd hu (h2 k e)
    ·cases ha
  ·obtain ⟨m,hm⟩:∃m,Z8 P (m+1) t=true:=by
    have:=hp t (List.mem_of_getElem? hj)
    cases n with
    |zero=>simp [Z8] at this
    |succ n=>exact ⟨n,this⟩
   unfold Value.okWide at hok
   unfold Z8 at hm
   unfold XC at ha
   split at hm <;> rename_i hu <;> simp only [hu] at hok ha
   all_goals first
    |(cases ha;done)
    |(cases hm;done)
    |(unfold Cell.okWide Cell.ok at hok;simp only [hu] at hok;cases v <;> first|rfl|(simp at hok;done))) hA
 have hcall:=hc xs x1 x2 (sg0 W) args.toList (ZH6 W) rfl x2
 rw [Array.toArray_toList] at hcall
 refine Calls.mono hcall ?_
 rintro e W' ⟨v,σ',rfl,rfl,hH,hto,hok,hrep⟩
 have hbv:v=.bool true:=by simpa [repDV,Dv.isAgg,Pl.isAgg,repD,repC] using hrep
 subst hbv
 have hb:=Zx9 hto
 simp only [yba] at hW'
 have hlt:=hW'.lt
 have hsame:∀z∈p,W.sameAt σ'.w z:=by
  intro z hz
  have hz':=hlt z hz
  cases z with
  |cell b o=>exact hb.cell (p:=⟨b,o,none⟩) hz'
  |map b=>exact hb.block b hz'
 have hfn:=hs ds hlen.2
 refine ⟨_,rfl,Zrr (pa:=p) (pv:=[]) hW' (fun b sp hd=> ?_) (fun sp h=> ?_) (fun sp h=> ?_) (by simp) hb ?_⟩
 ·rw [yba,hfn,hr]
  exact trodAll_cons_mk (shut_bool ht _) trodAll_mk0
 ·rw [yba,hfn]
  exact ZkO fn.params.toList args.toList ds p hp hA hsame h
 ·rw [yba,hfn,hv]
  rfl
 ·intro j t r hj hjr
  rw [hr] at hj hjr
  cases j with
  |zero=>
   simp at hj
   subst hj
   have:r=.bool true:=by simpa [Value.resultList] using hjr.symm
   subst this
   exact okWide_bool_mk ht _
  |succ j=>simp at hj
end
end Go.Ev
namespace Go.Ev
end Go.Ev
end
section
namespace Go.Ev
mutual
def Ty.Wf:(t:Ty)→t.den→Prop
 |.int k,n=>(Lit.int k n).wf=true
 |.u8,_=>True
 |.u32,_=>True
 |.u64,_=>True
 |.bool,_=>True
 |.str,s=>s.size≤maxLen
 |.sl t,l=>List.length l≤maxLen∧∀x,List.Mem x l→Ty.Wf t x
 |.arr n t,l=>List.length l=n∧∀x,List.Mem x l→Ty.Wf t x
 |.st fs,x=>Ty.Wfs fs x
def Ty.Wfs:(fs:List Ty)→Ty.dens fs→Prop
 |[],_=>True
 |[t],x=>Ty.Wf t x
 |t::u::r,x=>Ty.Wf t x.1∧Ty.Wfs (u::r) x.2
end
mutual
def ZzZ (P:Program):Nat→TypeId→Ty→Bool
 |0,_,_=>false
 |n+1,t,T=>match P.underlying t,T with
  |some (.int .u8),.u8=>true
  |some (.int .u32),.u32=>true
  |some (.int .u64),.u64=>true
  |some (.int k),.int k'=>decide (k=k')
  |some .bool,.bool=>true
  |some .string,.str=>true
  |some (.slice e),.sl T'=>P.cellsOf e==T'.size&&ZzZ P n e T'
  |some (.array m e),.arr m' T'=>m==m'&&(P.cellsOf e==T'.size&&ZzZ P n e T')
  |some (.struct fs),.st Ts=>tyOks P n fs.toList Ts
  |_,_=>false
def tyOks (P:Program):Nat→List Field→List Ty→Bool
 |0,_,_=>false
 |_+1,[],[]=>true
 |n+1,f::fs,T::Ts=>ZzZ P n f.type T&&tyOks P n fs Ts
 |_+1,_,_=>false
end
theorem ZI3 {m:Int} (h:(Lit.int .u8 m).wf=true):∃b:UInt8,m=(b.toNat:Int):=by
 simp only [Lit.wf,yg,decide_eq_true_eq] at h
 have h1:(0:Int)≤m:=h.1
 have h2:m≤255:=h.2
 refine ⟨yas m.toNat, ?_⟩
 have:(yas m.toNat).toNat=m.toNat:=by simp;omega
 rw [this]
 omega
theorem ZH8 {m:Int} (h:(Lit.int .u32 m).wf=true):∃b:UInt32,m=(b.toNat:Int):=by
 simp only [Lit.wf,yg,decide_eq_true_eq] at h
 have h1:(0:Int)≤m:=h.1
 have h2:m≤4294967295:=h.2
 refine ⟨ybe m.toNat, ?_⟩
 have:(ybe m.toNat).toNat=m.toNat:=by simp;omega
 rw [this]
 omega
theorem ZH9 {m:Int} (h:(Lit.int .u64 m).wf=true):∃b:UInt64,m=(b.toNat:Int):=by
 simp only [Lit.wf,yg,decide_eq_true_eq] at h
 have h1:(0:Int)≤m:=h.1
 have h2:m≤18446744073709551615:=h.2
 refine ⟨yag m.toNat, ?_⟩
 have:(yag m.toNat).toNat=m.toNat:=by simp;omega
 rw [this]
 omega
theorem Zz0 {α β:Type} {f:α→β} {R:α→Prop}:∀{ys:List β},(∀y,y∈ys→∃x,y=f x∧R x)→∃l:List α,ys=l.map f∧∀x,List.Mem x l→R x
 |[],_=>⟨[],rfl,fun x hx=>by cases hx⟩
 |y::ys,h=>by
  obtain ⟨x,rfl,hx⟩:=h y (yam ..)
  obtain ⟨l,rfl,hl⟩:=Zz0 (fun z hz=>h z (yaq _ hz))
  exact ⟨x::l,rfl,fun z hz=>by
   cases hz with
   |head=>exact hx
   |tail _ hz=>exact hl z hz⟩
mutual
theorem Zuq {P:Program}:∀(m n:Nat) (t:TypeId) (T:Ty) (x:Pl),ZzZ P m t T=true→wtP P n t x→∃v:T.den,T.Wf v∧x=T.enc v
 |0,_,_,_,_,h,_=>by simp [ZzZ] at h
 |_+1,0,_,_,_,_,h=>by simp [wtP] at h
 |m+1,n+1,t,T,x,h,hw=>by
  unfold ZzZ at h
  split at h
  ·rename_i hu
   unfold wtP at hw
   rw [hu] at hw
   cases x <;> try exact hw.elim
   obtain ⟨rfl,h2⟩:=hw
   obtain ⟨b,rfl⟩:=ZI3 h2
   exact ⟨b,trivial,rfl⟩
  ·rename_i hu
   unfold wtP at hw
   rw [hu] at hw
   cases x <;> try exact hw.elim
   obtain ⟨rfl,h2⟩:=hw
   obtain ⟨b,rfl⟩:=ZH8 h2
   exact ⟨b,trivial,rfl⟩
  ·rename_i hu
   unfold wtP at hw
   rw [hu] at hw
   cases x <;> try exact hw.elim
   obtain ⟨rfl,h2⟩:=hw
   obtain ⟨b,rfl⟩:=ZH9 h2
   exact ⟨b,trivial,rfl⟩
  ·rename_i k k' hu
   have h:=of_decide_eq_true h
   subst h
   unfold wtP at hw
   rw [hu] at hw
   cases x <;> try exact hw.elim
   obtain ⟨rfl,h2⟩:=hw
   exact ⟨_,h2,rfl⟩
  ·rename_i hu
   unfold wtP at hw
   rw [hu] at hw
   cases x <;> try exact hw.elim
   exact ⟨_,trivial,rfl⟩
  ·rename_i hu
   unfold wtP at hw
   rw [hu] at hw
   cases x <;> try exact hw.elim
   exact ⟨_,hw,rfl⟩
  ·rename_i e T' hu
   simp only [yg,beq_iff_eq] at h
   unfold wtP at hw
   rw [hu] at hw
   cases x <;> try exact hw.elim
   obtain ⟨rfl,rfl,h3,h4⟩:=hw
   obtain ⟨l,rfl,h5⟩:=Zz0 fun y hy=>(by
    obtain ⟨v,a,b⟩:=Zuq m n e T' y h.2 (h4 y hy)
    exact ⟨v,b,a⟩:∃v:T'.den,y=T'.enc v∧T'.Wf v)
   refine ⟨l,⟨by simpa using h3,h5⟩, ?_⟩
   rw [h.1]
   rfl
  ·rename_i m0 e m' T' hu
   simp only [yg,beq_iff_eq] at h
   obtain ⟨rfl,h⟩:=h
   unfold wtP at hw
   rw [hu] at hw
   cases x <;> try exact hw.elim
   obtain ⟨rfl,rfl,h3,h4⟩:=hw
   obtain ⟨l,rfl,h5⟩:=Zz0 fun y hy=>(by
    obtain ⟨v,a,b⟩:=Zuq m n e T' y h.2 (h4 y hy)
    exact ⟨v,b,a⟩:∃v:T'.den,y=T'.enc v∧T'.Wf v)
   refine ⟨l,⟨by simpa using h3,h5⟩, ?_⟩
   rw [h.1]
   rfl
  ·rename_i fs Ts hu
   unfold wtP at hw
   rw [hu] at hw
   cases x <;> try exact hw.elim
   rename_i xs
   obtain ⟨v,h1,rfl⟩:=wt_tys m n fs.toList Ts xs h hw
   exact ⟨v,h1,rfl⟩
  ·cases h
theorem wt_tys {P:Program}:∀(m n:Nat) (fs:List Field) (Ts:List Ty) (xs:List Pl),tyOks P m fs Ts=true→ZGy (wtP P n) fs xs→∃v:Ty.dens Ts,Ty.Wfs Ts v∧xs=Ty.encs Ts v
 |0,_,_,_,_,h,_=>by simp [tyOks] at h
 |m+1,n,[],[],[],h,hw=>⟨(),trivial,rfl⟩
 |m+1,n,[],[],_::_,h,hw=>hw.elim
 |m+1,n,[],_::_,_,h,hw=>by cases h
 |m+1,n,_::_,[],_,h,hw=>by cases h
 |m+1,n,_::_,_::_,[],h,hw=>hw.elim
 |m+1,n,f::fs,[T],x::xs,h,hw=>by
  simp only [tyOks,yg] at h
  obtain ⟨v,h1,rfl⟩:=Zuq m n f.type T x h.1 hw.1
  cases fs with
  |nil=>cases xs with
   |nil=>exact ⟨v,h1,rfl⟩
   |cons _ _=>exact hw.2.elim
  |cons _ _=>
   cases m with
   |zero=>exact absurd h.2 (by simp [tyOks])
   |succ m=>exact absurd h.2 (by simp [tyOks])
 |m+1,n,f::fs,T::U::Ts,x::xs,h,hw=>by
  simp only [tyOks,yg] at h
  obtain ⟨v,h1,rfl⟩:=Zuq m n f.type T x h.1 hw.1
  obtain ⟨w,h2,rfl⟩:=wt_tys m n fs (U::Ts) xs h.2 hw.2
  exact ⟨(v,w),⟨h1,h2⟩,rfl⟩
end
theorem Zur {I X:Type} {step:I→Option (I⊕X)} (Inv:I→Prop) (mu:I→Nat) (Post:X→Prop)
 (h:∀i,Inv i→(∃j,step i=some (.inl j)∧Inv j∧mu j < mu i)∨(∃x,step i=some (.inr x)∧Post x)):∀(n:Nat) (i:I),Inv i→mu i < n→∃x,Zc step n i=some x∧Post x
 |0,i,_,hn=>by omega
 |n+1,i,hi,hn=>by
  unfold Zc
  rcases h i hi with ⟨j,h1,h2,h3⟩|⟨x,h1,h2⟩
  ·rw [h1,yb]
   exact Zur Inv mu Post h n j h2 (by omega)
  ·rw [h1,yb]
   exact ⟨x,rfl,h2⟩
theorem XZ {I X:Type} {step:I→Option (I⊕X)} (Inv:I→Prop) (mu:I→Nat) (Post:X→Prop)
 (h:∀i,Inv i→(∃j,step i=some (.inl j)∧Inv j∧mu j < mu i)∨(∃x,step i=some (.inr x)∧Post x)) (i:I) (hi:Inv i) (hm:mu i < 18446744073709551616):∃x,Zc step fuel i=some x∧Post x:=by
 refine Zur Inv mu Post h fuel i hi ?_
 rw [Zc0]
 exact hm
theorem Zx {z:Int} (h1: -9223372036854775808≤z) (h2:z≤9223372036854775807):wi z=z:=by
 simp only [wi,IntKind.wrap,IntKind.signed,IntKind.bits]
 simp
 omega
theorem Ze8 {α:Type} {l:List α} {i:Int} {y:α} (h0:0≤i) (h:l[i.toNat]? =some y):idx l i=some y:=by
 unfold idx
 rw [if_pos h0,h]
theorem QZ {α:Type} {l:List α} {i:Nat} (h:i < l.length):∃y,l[i]? =some y:=⟨_,yv h⟩
theorem YF {i:Int} {n:Nat} (h1:0≤i) (h2:i < (n:Int)):inB i n=true:=by simp [inB,h1,h2]
theorem Yg {n m b:Nat} (h1:(n+m)*b≤140737488355328) (h2:n+m≤9223372036854775807):apB n m b=true:=by
 unfold apB
 rw [yg]
 exact ⟨decide_eq_true h1,decide_eq_true h2⟩
end Go.Ev
end
section
namespace Go.Ev
def tdv:(ts:List Ty)→Ty.dens ts→List TD
 |[],_=>[]
 |[t],x=>[.p (.v t x)]
 |t::u::r,x=>.p (.v t x.1)::tdv (u::r) x.2
theorem ZBd:∀(ts:List Ty) (x:Ty.dens ts),Sh.fills (ts.map .v) (ofD ts x)=some (tdv ts x,[])
 |[],_=>rfl
 |[t],x=>by
  rw [show ofD [t] x=[⟨t,x⟩] from rfl,yy,List.map_nil,Sh.fills,Sh.fill]
  have e:=Y5 t x
  dsimp only
  rw [e]
  rfl
 |t::u::r,x=>by
  have h:=ZBd (u::r) x.2
  have e:=Y5 t x.1
  rw [show ofD (t::u::r) x=⟨t,x.1⟩::ofD (u::r) x.2 from rfl,yy,Sh.fills,Sh.fill]
  dsimp only
  rw [e,yw,yb,h]
  rfl
theorem ZEG {L:Lk}:∀(ts:List Ty) (x:Ty.dens ts),TD.ers L (tdv ts x)=(Ty.encs ts x).map .p
 |[],_=>rfl
 |[t],x=>rfl
 |t::u::r,x=>by
  rw [show tdv (t::u::r) x=.p (.v t x.1)::tdv (u::r) x.2 from rfl,ZI,yy, ←ZI,ZEG (u::r) x.2]
  rfl
theorem ZGB {P:Program} {g:FuncId} {ts:List Ty} {M:Ty.dens ts→Option Bool} (hok:Fs.Ok (⟨g,ts.map .v,[],ts,[⟨.ret,[(0,.v .bool)],[],[.bool]⟩],M⟩:Fs P)) {x:Ty.dens ts} (h:M x=some true):
 Con P g ((Ty.encs ts x).map .p) [] (.p (.bool true)) []:=by
 obtain ⟨args,R,H,h1,h2,h3⟩:=hok x true h
 have e:=(ZBd ts x).symm.trans (show Sh.fills (ts.map .v) (ofD ts x)=some (args,R) from h1)
 cases e
 cases h2
 obtain ⟨r,h4,h5⟩:=h3 _ [⟨.bool,true⟩] ([.p (.v .bool true)],[]) ⟨rfl,rfl⟩ (by
  simp only [V3,shs]
  rfl)
 cases h4
 rw [←ZEG (L:=lk [])]
 exact h5
theorem ZlA {P:Program} {s:Fs P} (h:s.Ok) {M:Ty.dens s.ins→Option (XSh.sum s.xs)} (e:∀x,M x=s.M x):Fs.Ok (P:=P) { s with M:=M}:=by
 have:M=s.M:=funext e
 subst this
 exact h
def Zrs (P:Program) (m:Nat):List TypeId→List Ty→Bool
 |[],[]=>true
 |t::ts,T::Ts=>ZzZ P m t T&&Zrs P m ts Ts
 |_,_=>false
theorem ZBe {P:Program} {m n:Nat}:∀{ts:List TypeId} {Ts:List Ty} {xs:List Pl},Zrs P m ts Ts=true→ZGA P n ts xs→∃v:Ty.dens Ts,Ty.Wfs Ts v∧xs=Ty.encs Ts v
 |[],[],[],_,_=>⟨(),trivial,rfl⟩
 |[],[],_::_,_,h=>h.elim
 |[],_::_,_,h,_=>by cases h
 |_::_,[],_,h,_=>by cases h
 |_::_,_::_,[],_,h=>h.elim
 |t::ts,[T],x::xs,h,hw=>by
  simp only [Zrs,yg] at h
  obtain ⟨v,h1,rfl⟩:=Zuq m n t T x h.1 hw.1
  cases ts with
  |nil=>cases xs with
   |nil=>exact ⟨v,h1,rfl⟩
   |cons _ _=>exact hw.2.elim
  |cons _ _=>exact absurd h.2 (by simp [Zrs])
 |t::ts,T::U::Ts,x::xs,h,hw=>by
  simp only [Zrs,yg] at h
  obtain ⟨v,h1,rfl⟩:=Zuq m n t T x h.1 hw.1
  obtain ⟨w,h2,rfl⟩:=ZBe (Ts:=U::Ts) h.2 hw.2
  exact ⟨(v,w),⟨h1,h2⟩,rfl⟩
end Go.Ev
end
section
namespace Go.Ev
theorem ZvZ {P:Program} {g:FuncId} {t:Ty} {xs:List XSh} {MA M:Ty.dens [.sl t]→Option (XSh.sum xs)} (hA:Fs.Ok (⟨g,[.sl true t],[],[.sl t],xs,MA⟩:Fs P))
 (h1:M ([]:List t.den)=none) (h2:∀(x:t.den) (l:List t.den),M (x::l)=MA (x::l)):Fs.Ok (⟨g,[.v (.sl t)],[],[.sl t],xs,M⟩:Fs P):=by
 intro l o hM
 have key:∀(l:List t.den),Ty.cast (.sl t) (.sl t) l=some l:=fun l=>Y5 (.sl t) l
 have h3:∀l:List t.den,M l=some o→MA l=some o∧l≠[]:=fun l hl=>by
  cases l with
  |nil=>rw [h1] at hl;cases hl
  |cons x l=>exact ⟨by rw [←h2];exact hl,by simp⟩
 obtain ⟨hMA,hne⟩:=h3 l hM
 obtain ⟨a1,R1,H1,f1,f2,f3⟩:=hA l o hMA
 have e1:a1=[.p (.sl (some true) t l)]∧R1=[]:=by
  have:Sh.fills [.sl true t] [(⟨.sl t,l⟩:TV)]=some (a1,R1):=f1
  simp only [Sh.fills,Sh.fill] at this
  rw [key l] at this
  have this:some (([.p (.sl (some true) t l)]:List TD),([]:List TV))=some (a1,R1):=this
  cases this
  exact ⟨rfl,rfl⟩
 obtain ⟨rfl,rfl⟩:=e1
 cases f2
 refine ⟨[.p (.v (.sl t) l)],[],[], ?_,rfl,fun e vs s' hs hf=> ?_⟩
 ·show Sh.fills [.v (.sl t)] [(⟨.sl t,l⟩:TV)]=_
  simp only [Sh.fills,Sh.fill]
  rw [key l]
  rfl
 ·obtain ⟨r,r1,r2⟩:=f3 e vs s' hs hf
  exact ⟨r,r1,ZAx (xs:=List.map t.enc l) r2 fun hl=>absurd (List.map_eq_nil_iff.1 hl) hne⟩
end Go.Ev
end
section
namespace Go.Proofs.YtjbbdlffilcaaaaGreat
open Go.Ev Go.RowKit Go.Lib
theorem Zz1 (w:World):Calls ya 216 #[.slice none 0 0,.int .i64 0] w fun e w'=>e=.returned (.slice none 0 0)∧w'=w:=by
 go_enter Tryz.func216,Tryz.ntmps216
 go_wp2
 go_ret
 exact ⟨rfl,rfl⟩
theorem ZCG (n:Nat) (w:World) (h0:0 < n) (hn:n≤Zq):Calls ya 216 #[.slice none 0 0,.int .i64 n] w fun e w'=>e=.returned (.slice (some ⟨w.heap.size,0,none⟩) 0 (grownCap w n 0 5))∧
 w'=w.drew.alloc (.cells (Builtin.zeroCells #[.int .u8 0] n++Builtin.zeroCells #[.int .u8 0] (grownCap w n 0 5 - n)) 5):=by
 have hb:n≤140737488355328:=hn
 have h1:¬((n:Int) < 0):=by omega
 have h3:wrap64 ((n:Int) - ((0:Int) - (0:Int)))=(n:Int):=by unfold wrap64;omega
 have h3':wrap64 ((n:Int) - 0)=(n:Int):=by unfold wrap64;omega
 have h3'':wrap64 (n:Int)=(n:Int):=by unfold wrap64;omega
 have h4:(n:Int) > 0:=by omega
 have hi:∃i,ya.info? 5=some i∧i.zero=some (.int .u8 0)∧i.size=1∧i.bytes=1:=by
  have h:(ya.info? 5).map (fun i=>(i.zero,i.size,i.bytes))=some (some (.int .u8 0),1,1):=by kernel_rfl
  obtain ⟨i,h1,h2⟩:=Option.map_eq_some_iff.1 h
  simp only [Prod.mk.injEq] at h2
  exact ⟨i,h1,h2.1,h2.2.1,h2.2.2⟩
 obtain ⟨i,hi1,hi2,hi3,hi4⟩:=hi
 have hrz:∀ty,(Builtin.append_ #[134,3] ty #[.slice none 0 0,.int .i64 n]).run ya w=
  .ok (.slice (some ⟨w.heap.size,0,none⟩) n (grownCap w n 0 5)) (w.drew.alloc (.cells (Builtin.zeroCells #[.int .u8 0] n++Builtin.zeroCells #[.int .u8 0] (grownCap w n 0 5 - n)) 5)):=fun ty=>by
  have h:=Lib.run_append_grow_zeros (P:=ya) w 134 3 ty 5 i (.int .u8 0) .i64 .i64 Tryz.underlying134 Tryz.underlying3 hi1 hi2 none 0 0 [] (by rw [hi3];simp [Builtin.firstCells]) n h0 (by omega) (by omega) (by omega)
   (by rw [hi4];omega) (by rw [yax];exact growslice_fits h0 (by rw [hi4];omega))
  simpa [Value.cells] using h
 obtain ⟨G,hG⟩:∃G,G=grownCap w n 0 5:=⟨_,rfl⟩
 have hGn:=grownCap_ge w n 0 5
 have hG63:=grownCap_le_maxLen w n 0 5 (by unfold maxLen;omega)
 unfold maxLen at hG63
 rw [←hG] at hrz hGn hG63 ⊢
 clear hG
 go_enter Tryz.func216,Tryz.ntmps216
 go_wp2_with (at_builtin;refine Lib.wpList_append_run _ rfl _ _ _ _ rfl _ _ rfl rfl _ _ (hrz _) ?_)
 all_goals (go_ret;exact ⟨rfl,rfl⟩)
theorem ZEH (n:Nat) (hn:n≤Zq):Con ya 216 [.p (.sl (some false) 1 []),.p (.int .i64 (n:Int))] [] (.own 0 none 1 []) [.log 1 5 []]:=by
 intro σ vs ok hH hvs
 simp only [repVs] at hvs
 obtain ⟨v,_,rfl,hv,v2,_,rfl,hv2,rfl⟩:=hvs
 obtain rfl:=Zos hv
 obtain rfl:v2=.int .i64 n:=by
  have:=hv2.2 rfl
  simpa [repD,repC] using this
 have hm:σ.m=[]:=List.eq_nil_of_length_eq_zero (by rw [ok.len,hH];rfl)
 rcases ybw n with rfl|h0
 ·refine (Zz1 σ.w).mono fun e w' ⟨he,hw⟩=> ?_
  subst he;subst hw
  obtain ⟨to,ok'⟩:=X3 (σ':={ σ with m:=σ.m++[none],H:=σ.H++[.log 1 5 []]}) ok rfl rfl rfl rfl (World.grownBy.refl σ.w none) (.inl rfl) (fun _=>.inl ⟨rfl,rfl⟩)
  refine ⟨_,{ σ with m:=σ.m++[none],H:=σ.H++[.log 1 5 []]},rfl,rfl,by simp [hH],to,ok', ?_⟩
  rw [Zd rfl]
  simp only [repD]
  exact ⟨fun _ hx=>(by cases hx),none,0,rfl,yi _,by simp [maxLen],ZU _,fun _=>rfl,fun h=>absurd rfl h,5,[],by simp [hH],yi _,fun _=>.inl ⟨by simp [hm],rfl,rfl⟩⟩
 ·refine (ZCG n σ.w h0 hn).mono fun e w' ⟨he,hw⟩=> ?_
  subst he;subst hw
  have hge:=grownCap_ge σ.w n 0 5
  have hcm:=grownCap_le_maxLen σ.w n 0 5 (by have:n≤140737488355328:=hn;unfold maxLen;omega)
  have hsz:(Builtin.zeroCells #[.int .u8 0] n++Builtin.zeroCells #[.int .u8 0] (grownCap σ.w n 0 5 - n):Array Value).size=grownCap σ.w n 0 5*1:=by
   simp only [Array.size_append,size_zeroCells]
   simp
   omega
  let cs:Array Value:=Builtin.zeroCells #[.int .u8 0] n++Builtin.zeroCells #[.int .u8 0] (grownCap σ.w n 0 5 - n)
  let σ':Sg:={ σ with m:=σ.m++[some σ.w.heap.size],H:=σ.H++[.log 1 5 []],w:=σ.w.drew.alloc (.cells cs 5)}
  have hblk:σ'.w.heap[σ.w.heap.size]? =some (.cells cs 5 (0,0)):=heap_alloc_new σ.w.drew _
  obtain ⟨to,ok'⟩:=X3 (σ':=σ') ok rfl rfl rfl rfl (YI σ.w (.cells cs 5) none) (.inr ⟨_,rfl,yi _,by simp [σ']⟩)
   (fun leaf=>.inr ⟨σ.w.heap.size,_,grownCap σ.w n 0 5,rfl,hblk,hsz,Nat.zero_le _,hcm,fun _ hx=>(by cases hx),by simp [repCs]⟩)
  refine ⟨_,σ',rfl,rfl,by simp [σ',hH],to,ok', ?_⟩
  rw [Zd rfl]
  simp only [repD]
  exact ⟨fun _ hx=>(by cases hx),_,_,rfl,Nat.zero_le _,hcm,ZU _,fun h=>(by cases h),fun h=>absurd rfl h,5,[],by simp [σ',hH],yi _,fun _=>.inr ⟨_,_,by simp [σ',hm],rfl,hblk,hsz⟩⟩
end Go.Proofs.YtjbbdlffilcaaaaGreat
end
section
set_option maxRecDepth 4000
namespace Go.Proofs.YtjbbdlffilcaaaaGreat
open Go Go.Ev
noncomputable section
abbrev XO:Ty:=(.st [.u8,(.int .u16),(.int .u16),.u64])
abbrev Vf:Type:=(UInt8×Int×Int×UInt64)
def Vy (F:Nat) (a0:Vf):Option (UInt64):=
 some (1+(a0.2.2.2 % 2305843009213688668))
def Zg2 (F:Nat):Fs ya:=⟨30,[.v XO],[],[XO],[⟨.ret,[(0,.v .u64)],[],[.u64]⟩],fun x=>Vy F x⟩
def Zav:Fs ya:=Zg2 fuel
theorem Zg3:Zav.Ok:=Zh (fi:={ hi:={ still:=[2]},lp:=[]}) (specs:={ l:=[]}) (okS trivial) trivial (by decide+kernel) (fun x=>by kernel_rfl)
def Xa (F:Nat) (s:(UInt64×Int×Int×(List UInt8))):Option ((UInt64×Int×Int×(List UInt8))⊕(UInt64×Int×(List UInt8))):=
 if (decide (s.2.2.1 ≥ 0))=true then
  if (inB s.2.1 32)=true then
   (s.2.2.2[s.2.1.toNat]?).bind fun e1=>
   let y2:UInt64:=Zw (yag e1.toNat) (min ((w64 s.2.2.1).toNat:Int).toNat 64)
   some (.inl (((2*s.1)+(y2&&&1)) % 2305843009213688668,s.2.1,wi (s.2.2.1 - 1),s.2.2.2))
  else
  none
 else
 some (.inr (s.1,s.2.1,s.2.2.2))
def ZbI:Lp:=⟨[(1,.ref 0 []),(3,.v .u64),(4,.v (.int .i64)),(5,.v (.int .i64))],[.var (.v (.arr 32 .u8)) true],[.u64,(.int .i64),(.int .i64),(.arr 32 .u8)],[⟨.exit 2,[(1,.ref 0 []),(3,.v .u64),(4,.v (.int .i64))],[.var (.v (.arr 32 .u8)) true],[.u64,(.int .i64),(.arr 32 .u8)]⟩],Zc (Xa fuel) fuel⟩
theorem Zge:ZbI.Ok ya (Zo ya 106) (Zn ya 106 1):=Zl (fi:={ hi:={ still:=[2]},lp:=[]}) (specs:={ l:=[]}) (okS trivial) trivial (by kernel_rfl) (fun v=>by kernel_rfl)
def Xb (F:Nat) (s:(UInt64×Int×(List UInt8))):Option ((UInt64×Int×(List UInt8))⊕(UInt64×(List UInt8))):=
 if (decide (s.2.1 < 32))=true then
  (Zc (Xa F) F (s.1,s.2.1,(7:Int),s.2.2)).bind fun o3=>
  some (.inl (o3.1,wi (o3.2.1+1),o3.2.2))
 else
 some (.inr (s.1,s.2.2))
def ZbJ:Lp:=⟨[(1,.ref 0 []),(3,.v .u64),(4,.v (.int .i64))],[.var (.v (.arr 32 .u8)) true],[.u64,(.int .i64),(.arr 32 .u8)],[⟨.exit 0,[(3,.v .u64)],[.var (.v (.arr 32 .u8)) true],[.u64,(.arr 32 .u8)]⟩],Zc (Xb fuel) fuel⟩
theorem Zgf:ZbJ.Ok ya (Zo ya 106) (Zn ya 106 0):=Zl (fi:={ hi:={ still:=[2]},lp:=[(1,ZbI)]}) (specs:={ l:=[]}) (okS trivial) ⟨Zge,trivial⟩ (by kernel_rfl) (fun v=>by kernel_rfl)
def Yc (F:Nat) (a0:(List UInt8)):Option (UInt64):=
 (Zc (Xb F) F ((0:UInt64),(0:Int),a0)).bind fun o4=>
 some (o4.1+1)
def ZiW (F:Nat):Fs ya:=⟨106,[.v (.arr 32 .u8)],[],[(.arr 32 .u8)],[⟨.ret,[(0,.v .u64)],[],[.u64]⟩],fun x=>Yc F x⟩
def Zcv:Fs ya:=ZiW fuel
theorem ZiX:Zcv.Ok:=Zh (fi:={ hi:={ still:=[2]},lp:=[(0,ZbJ)]}) (specs:={ l:=[]}) (okS trivial) ⟨Zgf,trivial⟩ (by decide+kernel) (fun x=>by kernel_rfl)
def Xc (F:Nat) (s:(UInt64×Int×(List UInt8))):Option ((UInt64×Int×(List UInt8))⊕(List UInt8)):=
 if (decide (s.2.1 ≥ 0))=true then
  if (decide (0≤s.2.1))=true then
   let y5:UInt8:=w8 ((Zw s.1 (min s.2.1.toNat 64)).toNat:Int)
   if (apB s.2.2.length 1 1)=true then
    some (.inl (s.1,wi (s.2.1 - 8),s.2.2++([y5]:List UInt8)))
   else
   none
  else
  none
 else
 some (.inr s.2.2)
def ZbK:Lp:=⟨[(0,.v .u64),(3,.own 0 .u8),(4,.v (.int .i64))],[.log .u8 5],[.u64,(.int .i64),(.sl .u8)],[⟨.exit 0,[(3,.own 0 .u8)],[.log .u8 5],[(.sl .u8)]⟩],Zc (Xc fuel) fuel⟩
theorem Zgg:ZbK.Ok ya (Zo ya 168) (Zn ya 168 0):=Zl (fi:={ hi:={ own:=[3,9,15],still:=[2]},lp:=[]}) (specs:={ l:=[]}) (okS trivial) trivial (by kernel_rfl) (fun v=>by kernel_rfl)
def WP (F:Nat) (a0:UInt64):Option ((List UInt8)):=
 (Zc (Xc F) F (a0,(56:Int),([]:List UInt8))).bind fun o6=>
 some o6
def ZiY (F:Nat):Fs ya:=⟨168,[.v .u64],[],[.u64],[⟨.ret,[(0,.v (.sl .u8))],[],[(.sl .u8)]⟩],fun x=>WP F x⟩
def Zcw:Fs ya:=ZiY fuel
theorem ZiZ:Zcw.Ok:=Zh (fi:={ hi:={ own:=[3,9,15],still:=[2]},lp:=[(0,ZbK)]}) (specs:={ l:=[]}) (okS trivial) ⟨Zgg,trivial⟩ (by decide+kernel) (fun x=>by kernel_rfl)
def YJ (F:Nat) (s:((List UInt8)×(List UInt8))):Option (((List UInt8)×(List UInt8))⊕((List UInt8)×(List UInt8))):=
 if ((Int.tmod (s.2.length:Int) 64)!=56)=true then
  if (apB s.2.length 1 1)=true then
   some (.inl (s.1,s.2++([0]:List UInt8)))
  else
  none
 else
 some (.inr (s.1,s.2))
def Q0:Lp:=⟨[(0,.v (.sl .u8)),(3,.own 0 .u8)],[.log .u8 5],[(.sl .u8),(.sl .u8)],[⟨.exit 0,[(0,.v (.sl .u8)),(3,.own 0 .u8)],[.log .u8 5],[(.sl .u8),(.sl .u8)]⟩],Zc (YJ fuel) fuel⟩
theorem ZeM:Q0.Ok ya (Zo ya 218) (Zn ya 218 0):=Zl (fi:={ hi:={ own:=[3,6,8,9,11,16,18,27,33],still:=[2]},lp:=[]}) (specs:={ l:=[]}) (okS trivial) trivial (by kernel_rfl) (fun v=>by kernel_rfl)
def YK (F:Nat) (s:(UInt64×Int×(List UInt8))):Option ((UInt64×Int×(List UInt8))⊕(List UInt8)):=
 if (decide (s.2.1 ≥ 0))=true then
  if (decide (0≤s.2.1))=true then
   let y8:UInt8:=w8 ((Zw s.1 (min s.2.1.toNat 64)).toNat:Int)
   if (apB s.2.2.length 1 1)=true then
    some (.inl (s.1,wi (s.2.1 - 8),s.2.2++([y8]:List UInt8)))
   else
   none
  else
  none
 else
 some (.inr s.2.2)
def Q1:Lp:=⟨[(3,.own 0 .u8),(4,.v .u64),(5,.v (.int .i64))],[.log .u8 5],[.u64,(.int .i64),(.sl .u8)],[⟨.exit 2,[(3,.own 0 .u8)],[.log .u8 5],[(.sl .u8)]⟩],Zc (YK fuel) fuel⟩
theorem ZeN:Q1.Ok ya (Zo ya 218) (Zn ya 218 1):=Zl (fi:={ hi:={ own:=[3,6,8,9,11,16,18,27,33],still:=[2]},lp:=[]}) (specs:={ l:=[]}) (okS trivial) trivial (by kernel_rfl) (fun v=>by kernel_rfl)
def X7 (F:Nat) (a0:(List UInt8)):Option ((List UInt8)):=
 if (apB 0 a0.length 1)=true then
  if (apB a0.length 1 1)=true then
   (Zc (YJ F) F (a0,a0++([128]:List UInt8))).bind fun o7=>
   (Zc (YK F) F (8*(w64 (o7.1.length:Int)),(56:Int),o7.2)).bind fun o9=>
   some o9
  else
  none
 else
 none
def Zg4 (F:Nat):Fs ya:=⟨218,[.v (.sl .u8)],[],[(.sl .u8)],[⟨.ret,[(0,.v (.sl .u8))],[],[(.sl .u8)]⟩],fun x=>X7 F x⟩
def Zaw:Fs ya:=Zg4 fuel
theorem Zg5:Zaw.Ok:=Zh (fi:={ hi:={ own:=[3,6,8,9,11,16,18,27,33],still:=[2]},lp:=[(0,Q0),(1,Q1)]}) (specs:={ l:=[]}) (okS trivial) ⟨ZeM,ZeN,trivial⟩ (by decide+kernel) (fun x=>by kernel_rfl)
def Vz (F:Nat):Option ((List UInt32)):=
 some ([1779033703,3144134277,1013904242,2773480762,1359893119,2600822924,528734635,1541459225]:List UInt32)
def Zg6 (F:Nat):Fs ya:=⟨219,[],[],[],[⟨.ret,[(0,.v (.sl .u32))],[],[(.sl .u32)]⟩],fun x=>Vz F⟩
def Zax:Fs ya:=Zg6 fuel
theorem Zg7:Zax.Ok:=Zh (fi:={ hi:={ still:=[0]},lp:=[]}) (specs:={ l:=[]}) (okS trivial) trivial (by decide+kernel) (fun x=>by kernel_rfl)
def ZA (F:Nat) (a0:UInt32) (a1:Int):Option (UInt32):=
 if (decide (0≤a1))=true then
  if (decide (0≤wi (32 - a1)))=true then
   let y10:UInt32:=(Zcu a0 (min a1.toNat 32))|||(Qy a0 (min (wi (32 - a1)).toNat 32))
   some y10
  else
  none
 else
 none
def Zi0 (F:Nat):Fs ya:=⟨229,[.v .u32,.v (.int .i64)],[],[.u32,(.int .i64)],[⟨.ret,[(0,.v .u32)],[],[.u32]⟩],fun x=>ZA F x.1 x.2⟩
def V6:Fs ya:=Zi0 fuel
theorem ZbL:V6.Ok:=Zh (fi:={ hi:={ still:=[4]},lp:=[]}) (specs:={ l:=[]}) (okS trivial) trivial (by decide+kernel) (fun x=>by kernel_rfl)
def YV (F:Nat) (s:((List UInt8)×Int×(List UInt32))):Option (((List UInt8)×Int×(List UInt32))⊕(List UInt32)):=
 if (decide (s.2.1 < 16))=true then
  (idx s.1 (wi (4*s.2.1))).bind fun e11=>
  (idx s.1 (wi ((wi (4*s.2.1))+1))).bind fun e12=>
  let y13:UInt32:=(Qy (ybe e11.toNat) 24)|||(Qy (ybe e12.toNat) 16)
  (idx s.1 (wi ((wi (4*s.2.1))+2))).bind fun e14=>
  (idx s.1 (wi ((wi (4*s.2.1))+3))).bind fun e15=>
  let y16:UInt32:=(y13|||(Qy (ybe e14.toNat) 8))|||(ybe e15.toNat)
  if (apB s.2.2.length 1 4)=true then
   some (.inl (s.1,wi (s.2.1+1),s.2.2++([y16]:List UInt32)))
  else
  none
 else
 some (.inr s.2.2)
def Zay:Lp:=⟨[(0,.v (.sl .u8)),(3,.own 0 .u32),(4,.v (.int .i64))],[.log .u32 25],[(.sl .u8),(.int .i64),(.sl .u32)],[⟨.exit 0,[(3,.own 0 .u32)],[.log .u32 25],[(.sl .u32)]⟩],Zc (YV fuel) fuel⟩
theorem Zfx:Zay.Ok ya (Zo ya 227) (Zn ya 227 0):=Zl (fi:={ hi:={ own:=[3,14,49,80,97],still:=[2,64,66,72,74]},lp:=[]}) (specs:={ l:=[]}) (okS trivial) trivial (by kernel_rfl) (fun v=>by kernel_rfl)
def YW (F:Nat) (s:(Int×(List UInt32))):Option ((Int×(List UInt32))⊕(List UInt32)):=
 if (decide (s.1 < 64))=true then
  (idx s.2 (wi (s.1 - 15))).bind fun e18=>
  (idx s.2 (wi (s.1 - 2))).bind fun e19=>
  (ZA F e18 (7:Int)).bind fun o20=>
  (ZA F e18 (18:Int)).bind fun o21=>
  (ZA F e19 (17:Int)).bind fun o22=>
  (ZA F e19 (19:Int)).bind fun o23=>
  (idx s.2 (wi (s.1 - 16))).bind fun e24=>
  (idx s.2 (wi (s.1 - 7))).bind fun e25=>
  let y26:UInt32:=((e24+((o20^^^o21)^^^(Zcu e18 3)))+e25)+((o22^^^o23)^^^(Zcu e19 10))
  if (apB s.2.length 1 4)=true then
   some (.inl (wi (s.1+1),s.2++([y26]:List UInt32)))
  else
  none
 else
 some (.inr s.2)
def Zaz:Lp:=⟨[(3,.own 0 .u32),(5,.v (.int .i64))],[.log .u32 25],[(.int .i64),(.sl .u32)],[⟨.exit 2,[(3,.own 0 .u32)],[.log .u32 25],[(.sl .u32)]⟩],Zc (YW fuel) fuel⟩
theorem Zfy:Zaz.Ok ya (Zo ya 227) (Zn ya 227 1):=Zl (fi:={ hi:={ own:=[3,14,49,80,97],still:=[2,64,66,72,74]},lp:=[]}) (specs:={ l:=[V6]}) (okS ⟨ZbL,trivial⟩) trivial (by kernel_rfl) (fun v=>by kernel_rfl)
def Wq (F:Nat) (a0:(List UInt8)):Option ((List UInt32)):=
 (Zc (YV F) F (a0,(0:Int),([]:List UInt32))).bind fun o17=>
 (Zc (YW F) F ((16:Int),o17)).bind fun o27=>
 some o27
def Zh1 (F:Nat):Fs ya:=⟨227,[.v (.sl .u8)],[],[(.sl .u8)],[⟨.ret,[(0,.v (.sl .u32))],[],[(.sl .u32)]⟩],fun x=>Wq F x⟩
def ZbM:Fs ya:=Zh1 fuel
theorem Zh2:ZbM.Ok:=Zh (fi:={ hi:={ own:=[3,14,49,80,97],still:=[2,64,66,72,74]},lp:=[(0,Zay),(1,Zaz)]}) (specs:={ l:=[]}) (okS trivial) ⟨Zfx,Zfy,trivial⟩ (by decide+kernel) (fun x=>by kernel_rfl)
def Qp (F:Nat):Option ((List UInt32)):=
 some ([1116352408,1899447441,3049323471,3921009573,961987163,1508970993,2453635748,2870763221,3624381080,310598401,607225278,1426881987,1925078388,2162078206,2614888103,3248222580,3835390401,4022224774,264347078,604807628,770255983,1249150122,1555081692,1996064986,2554220882,2821834349,2952996808,3210313671,3336571891,3584528711,113926993,338241895,666307205,773529912,1294757372,1396182291,1695183700,1986661051,2177026350,2456956037,2730485921,2820302411,3259730800,3345764771,3516065817,3600352804,4094571909,275423344,430227734,506948616,659060556,883997877,958139571,1322822218,1537002063,1747873779,1955562222,2024104815,2227730452,2361852424,2428436474,2756734187,3204031479,3329325298]:List UInt32)
def Zi1 (F:Nat):Fs ya:=⟨228,[],[],[],[⟨.ret,[(0,.v (.sl .u32))],[],[(.sl .u32)]⟩],fun x=>Qp F⟩
def Zcx:Fs ya:=Zi1 fuel
theorem Zi2:Zcx.Ok:=Zh (fi:={ hi:={ still:=[0]},lp:=[]}) (specs:={ l:=[]}) (okS trivial) trivial (by decide+kernel) (fun x=>by kernel_rfl)
def YX (F:Nat) (s:((List UInt32)×(List UInt32)×(List UInt32)×Int×(List Unit)×(List UInt32))):Option (((List UInt32)×(List UInt32)×(List UInt32)×Int×(List Unit)×(List UInt32))⊕((List UInt32)×(List Unit)×(List UInt32))):=
 if (decide (s.2.2.2.1 < 64))=true then
  if (inB 4 s.2.2.2.2.2.length)=true then
   (s.2.2.2.2.2[4]?).bind fun e30=>
   (ZA F e30 (6:Int)).bind fun o31=>
   if (inB 4 s.2.2.2.2.2.length)=true then
    (s.2.2.2.2.2[4]?).bind fun e32=>
    (ZA F e32 (11:Int)).bind fun o33=>
    if (inB 4 s.2.2.2.2.2.length)=true then
     (s.2.2.2.2.2[4]?).bind fun e34=>
     (ZA F e34 (25:Int)).bind fun o35=>
     if (inB 4 s.2.2.2.2.2.length)=true then
      (s.2.2.2.2.2[4]?).bind fun e36=>
      if (inB 5 s.2.2.2.2.2.length)=true then
       (s.2.2.2.2.2[5]?).bind fun e37=>
       if (inB 4 s.2.2.2.2.2.length)=true then
        (s.2.2.2.2.2[4]?).bind fun e38=>
        if (inB 6 s.2.2.2.2.2.length)=true then
         (s.2.2.2.2.2[6]?).bind fun e39=>
         if (inB 7 s.2.2.2.2.2.length)=true then
          (s.2.2.2.2.2[7]?).bind fun e40=>
          let y41:UInt32:=(e40+((o31^^^o33)^^^o35))+((e36&&&e37)^^^((4294967295^^^e38)&&&e39))
          (idx s.2.2.1 s.2.2.2.1).bind fun e42=>
          (idx s.2.1 s.2.2.2.1).bind fun e43=>
          if (inB 0 s.2.2.2.2.2.length)=true then
           (s.2.2.2.2.2[0]?).bind fun e44=>
           (ZA F e44 (2:Int)).bind fun o45=>
           if (inB 0 s.2.2.2.2.2.length)=true then
            (s.2.2.2.2.2[0]?).bind fun e46=>
            (ZA F e46 (13:Int)).bind fun o47=>
            if (inB 0 s.2.2.2.2.2.length)=true then
             (s.2.2.2.2.2[0]?).bind fun e48=>
             (ZA F e48 (22:Int)).bind fun o49=>
             if (inB 0 s.2.2.2.2.2.length)=true then
              (s.2.2.2.2.2[0]?).bind fun e50=>
              if (inB 1 s.2.2.2.2.2.length)=true then
               (s.2.2.2.2.2[1]?).bind fun e51=>
               if (inB 0 s.2.2.2.2.2.length)=true then
                (s.2.2.2.2.2[0]?).bind fun e52=>
                if (inB 2 s.2.2.2.2.2.length)=true then
                 (s.2.2.2.2.2[2]?).bind fun e53=>
                 if (inB 1 s.2.2.2.2.2.length)=true then
                  (s.2.2.2.2.2[1]?).bind fun e54=>
                  if (inB 2 s.2.2.2.2.2.length)=true then
                   (s.2.2.2.2.2[2]?).bind fun e55=>
                   let y56:UInt32:=((e50&&&e51)^^^(e52&&&e53))^^^(e54&&&e55)
                   let y57:UInt32:=(((y41+e42)+e43)+((o45^^^o47)^^^o49))+y56
                   if (inB 0 s.2.2.2.2.2.length)=true then
                    (s.2.2.2.2.2[0]?).bind fun e58=>
                    if (inB 1 s.2.2.2.2.2.length)=true then
                     (s.2.2.2.2.2[1]?).bind fun e59=>
                     if (inB 2 s.2.2.2.2.2.length)=true then
                      (s.2.2.2.2.2[2]?).bind fun e60=>
                      if (inB 3 s.2.2.2.2.2.length)=true then
                       (s.2.2.2.2.2[3]?).bind fun e61=>
                       if (inB 4 s.2.2.2.2.2.length)=true then
                        (s.2.2.2.2.2[4]?).bind fun e62=>
                        if (inB 5 s.2.2.2.2.2.length)=true then
                         (s.2.2.2.2.2[5]?).bind fun e63=>
                         if (inB 6 s.2.2.2.2.2.length)=true then
                          (s.2.2.2.2.2[6]?).bind fun e64=>
                          some (.inl (s.1,s.2.1,s.2.2.1,wi (s.2.2.2.1+1),()::s.2.2.2.2.1,([y57,e58,e59,e60,e61+((y41+e42)+e43),e62,e63,e64]:List UInt32)))
                         else
                         none
                        else
                        none
                       else
                       none
                      else
                      none
                     else
                     none
                    else
                    none
                   else
                   none
                  else
                  none
                 else
                 none
                else
                none
               else
               none
              else
              none
             else
             none
            else
            none
           else
           none
          else
          none
         else
         none
        else
        none
       else
       none
      else
      none
     else
     none
    else
    none
   else
   none
  else
  none
 else
 some (.inr (s.1,s.2.2.2.2.1,s.2.2.2.2.2))
def ZaA:Lp:=⟨[(0,.v (.sl .u32)),(5,.v (.sl .u32)),(6,.v (.sl .u32)),(7,.rw 0),(8,.v (.int .i64))],[.row .u32 true 25],[(.sl .u32),(.sl .u32),(.sl .u32),(.int .i64),(.sl (.st [])),(.sl .u32)],[⟨.exit 0,[(0,.v (.sl .u32)),(7,.rw 0)],[.row .u32 true 25],[(.sl .u32),(.sl (.st [])),(.sl .u32)]⟩],Zc (YX fuel) fuel⟩
theorem Zfz:ZaA.Ok ya (Zo ya 220) (Zn ya 220 0):=Zl (fi:={ hi:={ own:=[18,20],still:=[4,15,27,31,36,74,78,83],rowt:=[7,18,20,137,142],rew:=[(137,7)]},lp:=[]}) (specs:={ l:=[V6]}) (okS ⟨ZbL,trivial⟩) trivial (by kernel_rfl) (fun v=>by kernel_rfl)
def YY (F:Nat) (s:((List UInt32)×Int×(List Unit)×(List UInt32))):Option (((List UInt32)×Int×(List Unit)×(List UInt32))⊕((List Unit)×(List UInt32))):=
 if (decide (s.2.1 < 8))=true then
  if (inB s.2.1 s.2.2.2.length)=true then
   (s.2.2.2[s.2.1.toNat]?).bind fun e66=>
   (idx s.1 s.2.1).bind fun e67=>
   if (inB s.2.1 s.2.2.2.length)=true then
    (s.2.2.2[s.2.1.toNat]?).bind fun e68=>
    some (.inl (s.1,wi (s.2.1+1),s.2.2.1,s.2.2.2.set s.2.1.toNat (e66+e67)))
   else
   none
  else
  none
 else
 some (.inr (s.2.2.1,s.2.2.2))
def ZaB:Lp:=⟨[(0,.v (.sl .u32)),(7,.rw 0),(14,.v (.int .i64))],[.row .u32 true 25],[(.sl .u32),(.int .i64),(.sl (.st [])),(.sl .u32)],[⟨.exit 2,[(7,.rw 0)],[.row .u32 true 25],[(.sl (.st [])),(.sl .u32)]⟩],Zc (YY fuel) fuel⟩
theorem ZfA:ZaB.Ok ya (Zo ya 220) (Zn ya 220 1):=Zl (fi:={ hi:={ own:=[18,20],still:=[4,15,27,31,36,74,78,83],rowt:=[7,18,20,137,142],rew:=[(137,7)]},lp:=[]}) (specs:={ l:=[]}) (okS trivial) trivial (by kernel_rfl) (fun v=>by kernel_rfl)
def Wr (F:Nat) (a0:(List UInt32)) (a1:(List UInt8)):Option ((List UInt32)):=
 (Wq F a1).bind fun o28=>
 (Qp F).bind fun o29=>
 if (apB 0 a0.length 4)=true then
  (Zc (YX F) F (a0,o28,o29,(0:Int),([()]:List Unit),a0)).bind fun o65=>
  (Zc (YY F) F (o65.1,(0:Int),o65.2.1,o65.2.2)).bind fun o69=>
  some o69.2
 else
 none
def Zh3 (F:Nat):Fs ya:=⟨220,[.v (.sl .u32),.v (.sl .u8)],[],[(.sl .u32),(.sl .u8)],[⟨.ret,[(0,.v (.sl .u32))],[],[(.sl .u32)]⟩],fun x=>Wr F x.1 x.2⟩
def ZbN:Fs ya:=Zh3 fuel
theorem Zh4:ZbN.Ok:=Zh (fi:={ hi:={ own:=[18,20],still:=[4,15,27,31,36,74,78,83],rowt:=[7,18,20,137,142],rew:=[(137,7)]},lp:=[(0,ZaA),(1,ZaB)]}) (specs:={ l:=[ZbM,Zcx]}) (okS ⟨Zh2,Zi2,trivial⟩) ⟨Zfz,ZfA,trivial⟩ (by decide+kernel) (fun x=>by kernel_rfl)
def Xd (F:Nat) (s:((List UInt8)×(List UInt32)×Int×(List UInt8))):Option (((List UInt8)×(List UInt32)×Int×(List UInt8))⊕((List UInt32)×(List UInt8))):=
 if (decide (s.2.2.1 < (s.1.length:Int)))=true then
  if (ZdI s.1.length (some s.2.2.1) (some (wi (s.2.2.1+64))))=true then
   let y72:(List UInt8):=(s.1.take ((wi (s.2.2.1+64)).toNat)).drop s.2.2.1.toNat
   (Wr F s.2.1 y72).bind fun o73=>
   some (.inl (s.1,o73,wi (s.2.2.1+64),s.2.2.2))
  else
  none
 else
 some (.inr (s.2.1,s.2.2.2))
def ZbO:Lp:=⟨[(2,.ref 0 []),(3,.v (.sl .u8)),(4,.v (.sl .u32)),(5,.v (.int .i64))],[.var (.v (.arr 32 .u8)) true],[(.sl .u8),(.sl .u32),(.int .i64),(.arr 32 .u8)],[⟨.exit 0,[(2,.ref 0 []),(4,.v (.sl .u32))],[.var (.v (.arr 32 .u8)) true],[(.sl .u32),(.arr 32 .u8)]⟩],Zc (Xd fuel) fuel⟩
theorem Zgh:ZbO.Ok ya (Zo ya 203) (Zn ya 203 0):=Zl (fi:={ hi:={ still:=[8,17,22]},lp:=[]}) (specs:={ l:=[ZbN]}) (okS ⟨Zh4,trivial⟩) trivial (by kernel_rfl) (fun v=>by kernel_rfl)
def Xe (F:Nat) (s:((List UInt32)×Int×(List UInt8)×(List UInt8))):Option (((List UInt32)×Int×(List UInt8)×(List UInt8))⊕((List UInt8)×(List UInt8))):=
 if (decide (s.2.1 < 32))=true then
  (idx s.1 (wi (Int.tdiv s.2.1 4))).bind fun e75=>
  if (decide (0≤wi (24 - (wi (8*(Int.tmod s.2.1 4))))))=true then
   let y76:UInt32:=Zcu e75 (min (wi (24 - (wi (8*(Int.tmod s.2.1 4))))).toNat 32)
   if (inB s.2.1 32)=true then
    (s.2.2.2[s.2.1.toNat]?).bind fun e77=>
    some (.inl (s.1,wi (s.2.1+1),s.2.2.1,s.2.2.2.set s.2.1.toNat (w8 (y76.toNat:Int))))
   else
   none
  else
  none
 else
 some (.inr (s.2.2.1,s.2.2.2))
def ZbP:Lp:=⟨[(2,.ref 0 []),(4,.v (.sl .u32)),(6,.ref 1 []),(7,.v (.int .i64))],[.var (.v (.arr 32 .u8)) true,.var (.v (.arr 32 .u8)) true],[(.sl .u32),(.int .i64),(.arr 32 .u8),(.arr 32 .u8)],[⟨.exit 2,[(2,.ref 0 []),(6,.ref 1 [])],[.var (.v (.arr 32 .u8)) true,.var (.v (.arr 32 .u8)) true],[(.arr 32 .u8),(.arr 32 .u8)]⟩],Zc (Xe fuel) fuel⟩
theorem Zgi:ZbP.Ok ya (Zo ya 203) (Zn ya 203 1):=Zl (fi:={ hi:={ still:=[8,17,22]},lp:=[]}) (specs:={ l:=[]}) (okS trivial) trivial (by kernel_rfl) (fun v=>by kernel_rfl)
def XP (F:Nat) (a0:(List UInt8)):Option ((List UInt8)):=
 (X7 F a0).bind fun o70=>
 (Vz F).bind fun o71=>
 (Zc (Xd F) F (o70,o71,(0:Int),([0,0,0,0,0,0,0,0,0,0,0,0,0,0,0,0,0,0,0,0,0,0,0,0,0,0,0,0,0,0,0,0]:List UInt8))).bind fun o74=>
 (Zc (Xe F) F (o74.1,(0:Int),o74.2,([0,0,0,0,0,0,0,0,0,0,0,0,0,0,0,0,0,0,0,0,0,0,0,0,0,0,0,0,0,0,0,0]:List UInt8))).bind fun o78=>
 some o78.2
def VA (F:Nat):Fs ya:=⟨203,[.v (.sl .u8)],[],[(.sl .u8)],[⟨.ret,[(0,.v (.arr 32 .u8))],[],[(.arr 32 .u8)]⟩],fun x=>XP F x⟩
def Zkh:Fs ya:=VA fuel
theorem Zi3:Zkh.Ok:=Zh (fi:={ hi:={ still:=[8,17,22]},lp:=[(0,ZbO),(1,ZbP)]}) (specs:={ l:=[Zaw,Zax]}) (okS ⟨Zg5,Zg7,trivial⟩) ⟨Zgh,Zgi,trivial⟩ (by decide+kernel) (fun x=>by kernel_rfl)
end
end Go.Proofs.YtjbbdlffilcaaaaGreat
end
section
namespace Go.Sha
open Go.Ev
noncomputable def Qd {α:Type} (n:Nat) (k:Nat→α):α:=Nat.rec (motive:=fun _=>α) (k 0) (fun m _=>k (Nat.succ m)) n
theorem Xp {α:Type} (n:Nat) (k:Nat→α):Qd n k=k n:=by cases n <;> rfl
def dbl (x:Nat):Nat:=Nat.mul x 4294967297
def s0 (x:Nat):Nat:=Nat.xor (Nat.xor (yx (dbl x) 7) (yx (dbl x) 18)) (yx x 3)
def s1 (x:Nat):Nat:=Nat.xor (Nat.xor (yx (dbl x) 17) (yx (dbl x) 19)) (yx x 10)
def S0 (x:Nat):Nat:=Nat.xor (Nat.xor (yx (dbl x) 2) (yx (dbl x) 13)) (yx (dbl x) 22)
def S1 (x:Nat):Nat:=Nat.xor (Nat.xor (yx (dbl x) 6) (yx (dbl x) 11)) (yx (dbl x) 25)
def ch (e f g:Nat):Nat:=Nat.xor g (Nat.land e (Nat.xor f g))
def mj (a b c:Nat):Nat:=Nat.lor (Nat.land a b) (Nat.land c (Nat.lor a b))
def lo (x:Nat):Nat:=Nat.mod x 4294967296
def kw (W:Nat):Nat:=lo (ym (ym (ym (yx W 480) (s0 (lo (yx W 448)))) (lo (yx W 192))) (s1 (lo (yx W 32))))
def kn (W:Nat):Nat:=Nat.mod (ym (Nat.mul W 4294967296) (kw W)) (Nat.pow 2 512)
noncomputable def kst (k:Nat) (ih:Nat→Nat→Nat→Nat→Nat→Nat→Nat→Nat→Nat→Nat) (W a b c d e f g h:Nat):Nat:=
 Qd (ym (ym (ym (ym h (S1 e)) (ch e f g)) k) (yx W 480)) fun t=>
     Qd (lo (ym (ym t (S0 a)) (mj a b c))) fun a'=>Qd (lo (ym d t)) fun e'=>Qd (kn W) fun W'=>ih W' a' a b c e' e f g
noncomputable def kgo (ks:List Nat) (K:Nat→Nat→Nat→Nat→Nat→Nat→Nat→Nat→Nat):Nat→Nat→Nat→Nat→Nat→Nat→Nat→Nat→Nat→Nat:=
 List.rec (motive:=fun _=>Nat→Nat→Nat→Nat→Nat→Nat→Nat→Nat→Nat→Nat) (fun _=>K) (fun k _ ih=>kst k ih) ks
def ks:List Nat:=[1116352408,1899447441,3049323471,3921009573,961987163,1508970993,2453635748,2870763221,3624381080,310598401,607225278,1426881987,1925078388,2162078206,2614888103,3248222580,3835390401,4022224774,264347078,604807628,770255983,1249150122,1555081692,1996064986,2554220882,2821834349,2952996808,3210313671,3336571891,3584528711,113926993,338241895,666307205,773529912,1294757372,1396182291,1695183700,1986661051,2177026350,2456956037,2730485921,2820302411,3259730800,3345764771,3516065817,3600352804,4094571909,275423344,430227734,506948616,659060556,883997877,958139571,1322822218,1537002063,1747873779,1955562222,2024104815,2227730452,2361852424,2428436474,2756734187,3204031479,3329325298]
def w32 (H i:Nat):Nat:=lo (yx H i)
def cat (H x:Nat):Nat:=ym (Nat.mul H 4294967296) (lo x)
noncomputable def ZGC (H B:Nat):Nat:=
 Qd (w32 H 224) fun a=>Qd (w32 H 192) fun b=>Qd (w32 H 160) fun c=>Qd (w32 H 128) fun d=>Qd (w32 H 96) fun e=>Qd (w32 H 64) fun f=>Qd (w32 H 32) fun g=>Qd (w32 H 0) fun h=>
  kgo ks (fun a' b' c' d' e' f' g' h'=>cat (cat (cat (cat (cat (cat (cat (cat 0 (ym a' a)) (ym b' b)) (ym c' c)) (ym d' d)) (ym e' e)) (ym f' f)) (ym g' g)) (ym h' h)) B a b c d e f g h
noncomputable def pk (l:List Nat) (n:Nat):Nat:=List.rec (motive:=fun _=>Nat→Nat) (fun n=>n) (fun x _ ih n=>Qd (ym (Nat.mul n 256) x) ih) l n
noncomputable def ZIa (n:Nat) (l:List Nat) (H:Nat):Nat:=
 Nat.rec (motive:=fun _=>List Nat→Nat→Nat) (fun _ H=>H) (fun _ ih l H=>Qd (ZGC H (pk (l.take 64) 0)) fun H'=>ih (l.drop 64) H') n l H
noncomputable def Zat (H:Nat) (l:List Nat):List UInt8:=List.rec (motive:=fun _=>List UInt8) [] (fun s _ ih=>Qd (Nat.mod (yx H s) 256) fun x=>yas x::ih) l
def Zz2:List Nat:=[248,240,232,224,216,208,200,192,184,176,168,160,152,144,136,128,120,112,104,96,88,80,72,64,56,48,40,32,24,16,8,0]
def be8 (n:Nat):List Nat:=[n / 2 ^ 56 % 256,n / 2 ^ 48 % 256,n / 2 ^ 40 % 256,n / 2 ^ 32 % 256,n / 2 ^ 24 % 256,n / 2 ^ 16 % 256,n / 2 ^ 8 % 256,n % 256]
def zs (n:Nat):Nat:=(119 - n % 64) % 64
def H0:Nat:=cat (cat (cat (cat (cat (cat (cat (cat 0 1779033703) 3144134277) 1013904242) 2773480762) 1359893119) 2600822924) 528734635) 1541459225
noncomputable def sha (l:List UInt8):List UInt8:=
 Qd l.length fun n=>Qd (ZIa (Nat.div (ym n 72) 64) (l.map yac++(128::(yp (zs n) 0++be8 (8*n)))) H0) fun H=>Zat H Zz2
theorem V4 (x y:UInt32):(x+y).toNat=lo (x.toNat+y.toNat):=by rw [UInt32.toNat_add];rfl
theorem ZkP (x y:UInt32):(x^^^y).toNat=Nat.xor x.toNat y.toNat:=UInt32.toNat_xor ..
theorem ZEI (x y:UInt32):(x&&&y).toNat=Nat.land x.toNat y.toNat:=UInt32.toNat_and ..
theorem Zv0 (x y:UInt32):(x|||y).toNat=Nat.lor x.toNat y.toNat:=UInt32.toNat_or ..
theorem ZIb (x:UInt32):x.toNat < 4294967296:=x.toNat_lt
theorem Zus (x:UInt32) (n:Nat):(Zcu x n).toNat=yx x.toNat n:=by
 unfold Zcu
 rw [ycf,show yx x.toNat n=x.toNat >>> n from rfl,ycu]
 exact yah (Nat.lt_of_le_of_lt (Nat.div_le_self _ _) (ZIb x))
theorem ZG0 (x:Nat):lo x < 4294967296:=yav _ (by omega)
theorem ZaC {x:Nat} (h:x < 4294967296):lo x=x:=yah h
theorem ZG1 (x:UInt32) {n k:Nat} (h:n+k=32) (hn:0 < n):(Qy x k|||Zcu x n).toNat=lo (yx (dbl x.toNat) n):=by
 rw [Zv0,Zus]
 unfold Qy
 have hx:=ZIb x
 generalize x.toNat=m at hx
 have hp:2 ^ n*2 ^ k=4294967296:=by rw [←Nat.pow_add,h]
 rw [ycf,show yx m n=m >>> n from rfl,ycu,show yx (dbl m) n=(dbl m) >>> n from rfl,ycu]
 have e1:m*2 ^ k % 2 ^ 32=2 ^ k*(m % 2 ^ n):=by
  rw [show (2:Nat) ^ 32=2 ^ n*2 ^ k from hp.symm,Nat.mul_mod_mul_right]
  exact ybm ..
 have hd:m / 2 ^ n < 2 ^ k:=by
  rw [Nat.div_lt_iff_lt_mul (Nat.two_pow_pos n),ybm,hp]
  exact hx
 rw [e1,show Nat.lor (2 ^ k*(m % 2 ^ n)) (m / 2 ^ n)=2 ^ k*(m % 2 ^ n)|||m / 2 ^ n from rfl, ←yct hd]
 have e2:dbl m=2 ^ n*(m*2 ^ k)+m:=by
  unfold dbl
  rw [Nat.mul_left_comm,hp,show Nat.mul m 4294967297=m*4294967297 from rfl]
  omega
 rw [e2,Nat.mul_add_div (Nat.two_pow_pos n)]
 unfold lo
 rw [show Nat.mod (m*2 ^ k+m / 2 ^ n) 4294967296=(m*2 ^ k+m / 2 ^ n) % 4294967296 from rfl,Nat.add_mod,show m*2 ^ k % 4294967296=2 ^ k*(m % 2 ^ n) from e1,yah (a:=m / 2 ^ n) (b:=4294967296) (by rw [←hp];exact Nat.lt_of_lt_of_le hd (Nat.le_mul_of_pos_left _ (Nat.two_pow_pos n)))]
 refine (yah ?_).symm
 have hm:m % 2 ^ n < 2 ^ n:=yav _ (Nat.two_pow_pos n)
 calc 2 ^ k*(m % 2 ^ n)+m / 2 ^ n < 2 ^ k*(m % 2 ^ n)+2 ^ k:=by omega
  _=2 ^ k*(m % 2 ^ n+1):=by rw [Nat.mul_add,Nat.mul_one]
  _≤2 ^ k*2 ^ n:=Nat.mul_le_mul_left _ hm
  _=4294967296:=by rw [ybm,hp]
theorem Zi4 (x y:Nat):lo (Nat.xor x y)=Nat.xor (lo x) (lo y):=Nat.xor_mod_two_pow (n:=32)
theorem ZEJ (x:UInt32) (n:Nat):lo (yx x.toNat n)=yx x.toNat n:=by
 rw [←Zus]
 exact ZaC (ZIb _)
theorem ZI4 (x:UInt32) {a b:UInt32} (ha:a.toNat=lo (yx (dbl x.toNat) 7)) (hb:b.toNat=lo (yx (dbl x.toNat) 18)):((a^^^b)^^^Zcu x 3).toNat=lo (s0 x.toNat):=by
 unfold s0
 rw [ZkP,ZkP,Zus,ha,hb,Zi4,Zi4,ZEJ]
theorem ZI5 (x:UInt32) {a b:UInt32} (ha:a.toNat=lo (yx (dbl x.toNat) 17)) (hb:b.toNat=lo (yx (dbl x.toNat) 19)):((a^^^b)^^^Zcu x 10).toNat=lo (s1 x.toNat):=by
 unfold s1
 rw [ZkP,ZkP,Zus,ha,hb,Zi4,Zi4,ZEJ]
theorem ZI6 (x:UInt32) {a b c:UInt32} (ha:a.toNat=lo (yx (dbl x.toNat) 2)) (hb:b.toNat=lo (yx (dbl x.toNat) 13)) (hc:c.toNat=lo (yx (dbl x.toNat) 22)):((a^^^b)^^^c).toNat=lo (S0 x.toNat):=by
 unfold S0
 rw [ZkP,ZkP,ha,hb,hc,Zi4,Zi4]
theorem ZI7 (x:UInt32) {a b c:UInt32} (ha:a.toNat=lo (yx (dbl x.toNat) 6)) (hb:b.toNat=lo (yx (dbl x.toNat) 11)) (hc:c.toNat=lo (yx (dbl x.toNat) 25)):((a^^^b)^^^c).toNat=lo (S1 x.toNat):=by
 unfold S1
 rw [ZkP,ZkP,ha,hb,hc,Zi4,Zi4]
theorem ZI8 (e f g:UInt32):(g^^^(e&&&(f^^^g))).toNat=ch e.toNat f.toNat g.toNat:=by
 unfold ch
 rw [ZkP,ZEI,ZkP]
theorem ZI9 (a b c:UInt32):((a&&&b)|||(c&&&(a|||b))).toNat=mj a.toNat b.toNat c.toNat:=by
 unfold mj
 rw [Zv0,ZEI,ZEI,Zv0]
theorem ZJa (a b c d:Nat):lo (lo (lo (a+lo b)+c)+lo d)=lo (a+b+c+d):=by
 show (((a+b % 4294967296) % 4294967296+c) % 4294967296+d % 4294967296) % 4294967296=(a+b+c+d) % 4294967296
 omega
theorem ZJb (a b c d e:Nat):lo (lo (lo (lo (a+lo b)+c)+d)+e)=lo (ym (ym (ym (ym a b) c) d) e):=by
 show ((((a+b % 4294967296) % 4294967296+c) % 4294967296+d) % 4294967296+e) % 4294967296=(a+b+c+d+e) % 4294967296
 omega
theorem ZJc (t s m:Nat):lo (lo (lo t+lo s)+m)=lo (ym (ym t s) m):=by
 show ((t % 4294967296+s % 4294967296) % 4294967296+m) % 4294967296=(t+s+m) % 4294967296
 omega
theorem ZJd (d t:Nat):lo (d+lo t)=lo (ym d t):=by
 show (d+t % 4294967296) % 4294967296=(d+t) % 4294967296
 omega
def pw (n:Nat) (l:List Nat):Nat:=l.foldl (fun n x=>n*4294967296+x) n
theorem Zz3:∀(l:List Nat) (n:Nat),(∀x,x∈l→x < 4294967296)→pw n l / 2 ^ (32*l.length)=n
 |[],n,_=>by simp [pw]
 |x::r,n,h=>by
  have ih:=Zz3 r (n*4294967296+x) (fun y hy=>h y (yaq _ hy))
  have hx:=h x (yam ..)
  rw [show pw n (x::r)=pw (n*4294967296+x) r from rfl,yz,show 32*(r.length+1)=32*r.length+32 by omega,Nat.pow_add, ←Nat.div_div_eq_div_mul,ih]
  omega
theorem ZmD:∀(l:List Nat) (n:Nat),pw n l=n*2 ^ (32*l.length)+pw 0 l
 |[],n=>by simp [pw]
 |x::r,n=>by
  rw [show pw n (x::r)=pw (n*4294967296+x) r from rfl,show pw 0 (x::r)=pw (0*4294967296+x) r from rfl,ZmD r (n*4294967296+x),ZmD r (0*4294967296+x),yz,show 32*(r.length+1)=32+32*r.length by omega,Nat.pow_add,Nat.zero_mul,
   yax,yan, ←Nat.mul_assoc,ybx]
theorem ZG2:∀(l:List Nat),(∀x,x∈l→x < 4294967296)→pw 0 l < 2 ^ (32*l.length)
 |[],_=>by simp [pw]
 |x::r,h=>by
  have ih:=ZG2 r (fun y hy=>h y (yaq _ hy))
  have hx:=h x (yam ..)
  rw [show pw 0 (x::r)=pw (0*4294967296+x) r from rfl,ZmD,yz,show 32*(r.length+1)=32+32*r.length by omega,Nat.pow_add,Nat.zero_mul,yax]
  have:(x+1)*2 ^ (32*r.length)≤2 ^ 32*2 ^ (32*r.length):=Nat.mul_le_mul_right _ (by omega)
  rw [yan,Nat.one_mul] at this
  omega
theorem ZG3 {n x s:Nat} {r:List Nat} (h:∀y,y∈r→y < 4294967296) (hs:s=32*r.length):yx (pw n (x::r)) s=n*4294967296+x:=by
 subst hs
 rw [show yx (pw n (x::r)) (32*r.length)=pw n (x::r) >>> (32*r.length) from rfl,ycu]
 exact Zz3 r (n*4294967296+x) h
theorem ZG4 {n x s:Nat} {r:List Nat} (hx:x < 4294967296) (h:∀y,y∈r→y < 4294967296) (hs:s=32*r.length):lo (yx (pw n (x::r)) s)=x:=by
 rw [ZG3 h hs]
 show (n*4294967296+x) % 4294967296=x
 omega
theorem Zz4 (n:Nat) (l r:List Nat):pw n (l++r)=pw (pw n l) r:=List.foldl_append ..
theorem ZBf (n x:Nat) (r:List Nat):pw n (x::r)=pw (n*4294967296+x) r:=rfl
theorem Ze9 {v l r:List Nat} {x s:Nat} (e:v=l++x::r) (h:∀y,y∈v→y < 4294967296) (hs:s=32*r.length):lo (yx (pw 0 v) s)=x:=by
 rw [e] at h ⊢
 rw [Zz4]
 exact ZG4 (h x (by simp)) (fun y hy=>h y (by simp [hy])) hs
def wd (ws:List Nat) (n:Nat):Nat:=if h:n < 16 then lo (ws.getD n 0) else lo (wd ws (n - 16)+s0 (wd ws (n - 15))+wd ws (n - 7)+s1 (wd ws (n - 2)))
termination_by n
decreasing_by all_goals omega
theorem ZJe (ws:List Nat) (n:Nat):wd ws n < 4294967296:=by
 rw [wd]
 split <;> exact ZG0 _
theorem Zv1 (ws:List Nat) (n:Nat):wd ws (n+16)=lo (wd ws n+s0 (wd ws (n+1))+wd ws (n+9)+s1 (wd ws (n+14))):=by
 rw [wd,dif_neg (by omega)]
 simp only [Nat.add_sub_cancel,show n+16 - 15=n+1 by omega,show n+16 - 7=n+9 by omega,show n+16 - 2=n+14 by omega]
def win (ws:List Nat) (i:Nat):List Nat:=[wd ws i,wd ws (i+1),wd ws (i+2),wd ws (i+3),wd ws (i+4),wd ws (i+5),wd ws (i+6),wd ws (i+7),wd ws (i+8),wd ws (i+9),wd ws (i+10),wd ws (i+11),wd ws (i+12),wd ws (i+13),wd ws (i+14),wd ws (i+15)]
theorem Zz5 {ws:List Nat} {i:Nat} {l:List Nat} (h:∀x,x∈l→∃j,x=wd ws j):∀x,x∈l→x < 4294967296:=fun x hx=>by
 obtain ⟨j,rfl⟩:=h x hx
 exact ZJe _ _
theorem ZBg (ws:List Nat) (i:Nat):yx (pw 0 (win ws i)) 480=wd ws i:=by
 have h:=ZG3 (n:=0) (x:=wd ws i) (s:=480) (r:=(win ws i).tail) (Zz5 (ws:=ws) (i:=i) (fun x hx=>by
  simp only [win,List.tail_cons,ybf,ycg,or_false] at hx
  rcases hx with h|h|h|h|h|h|h|h|h|h|h|h|h|h|h <;> exact ⟨_,h⟩)) rfl
 rw [Nat.zero_mul,yax] at h
 exact h
theorem ZIc (ws:List Nat) (i:Nat):kw (pw 0 (win ws i))=wd ws (i+16):=by
 have key:∀(l r:List Nat) (x s:Nat),win ws i=l++x::r→s=32*r.length→lo (yx (pw 0 (win ws i)) s)=x:=by
  intro l r x s e hs
  have hall:∀y,y∈win ws i→y < 4294967296:=Zz5 (i:=i) fun x hx=>by
   simp only [win,ybf,ycg,or_false] at hx
   rcases hx with h|h|h|h|h|h|h|h|h|h|h|h|h|h|h|h <;> exact ⟨_,h⟩
  rw [e] at hall ⊢
  rw [Zz4]
  exact ZG4 (hall x (by simp)) (fun y hy=>hall y (by simp [hy])) hs
 unfold kw
 rw [ZBg,key [_] _ (wd ws (i+1)) 448 rfl rfl,key [_,_,_,_,_,_,_,_,_] _ (wd ws (i+9)) 192 rfl rfl,key [_,_,_,_,_,_,_,_,_,_,_,_,_,_] _ (wd ws (i+14)) 32 rfl rfl,Zv1]
 rfl
theorem ZGD (a b m:Nat) (h:b < 2 ^ m):Nat.mod (a*2 ^ m+b) (Nat.pow 2 m)=b:=by
 show (a*2 ^ m+b) % 2 ^ m=b
 rw [ybm,Nat.mul_add_mod]
 exact yah h
theorem ZId (ws:List Nat) (i:Nat):kn (pw 0 (win ws i))=pw 0 (win ws (i+1)):=by
 have e:ym (Nat.mul (pw 0 (win ws i)) 4294967296) (kw (pw 0 (win ws i)))=pw (wd ws i) (win ws (i+1)):=by
  rw [ZIc]
  show pw 0 (win ws i)*4294967296+wd ws (i+16)=pw (wd ws i) (win ws (i+1))
  rw [show wd ws i=0*4294967296+wd ws i by omega]
  rfl
 unfold kn
 rw [e,ZmD]
 have hl:(win ws (i+1)).length=16:=rfl
 have hlt:=ZG2 (win ws (i+1)) (Zz5 (i:=i+1) fun x hx=>by
  simp only [win,ybf,ycg,or_false] at hx
  rcases hx with h|h|h|h|h|h|h|h|h|h|h|h|h|h|h|h <;> exact ⟨_,h⟩)
 rw [show 512=32*(win ws (i+1)).length by rw [hl]]
 exact ZGD _ _ _ hlt
def rnd (v:List Nat) (k w:Nat):List Nat:=match v with
 |[a,b,c,d,e,f,g,h]=>[lo (ym (ym (ym (ym (ym (ym h (S1 e)) (ch e f g)) k) w) (S0 a)) (mj a b c)),a,b,c,lo (ym d (ym (ym (ym (ym h (S1 e)) (ch e f g)) k) w)),e,f,g]
 |_=>[]
def rs (ws v:List Nat):Nat→List Nat
 |0=>v
 |i+1=>rnd (rs ws v i) (ks.getD i 0) (wd ws i)
theorem ZGE {v:List Nat} (h:v.length=8) (k w:Nat):(rnd v k w).length=8:=by
 match v,h with
 |[a,b,c,d,e,f,g,h],_=>rfl
theorem Zv2 {ws v:List Nat} (h:v.length=8):∀i,(rs ws v i).length=8
 |0=>h
 |i+1=>ZGE (Zv2 h i) _ _
noncomputable def ZEK (f:Nat→Nat→Nat→Nat→Nat→Nat→Nat→Nat→Nat) (v:List Nat):Nat:=match v with
 |[a,b,c,d,e,f',g,h]=>f a b c d e f' g h
 |_=>0
theorem Zj9 {F:Nat→Nat→Nat→Nat→Nat→Nat→Nat→Nat→Nat} {a b c d e f g h:Nat}:ZEK F [a,b,c,d,e,f,g,h]=F a b c d e f g h:=rfl
theorem ZEL (k:Nat) (l:List Nat) (K:Nat→Nat→Nat→Nat→Nat→Nat→Nat→Nat→Nat):kgo (k::l) K=kst k (kgo l K):=rfl
theorem Zrt (a b c d e f g h k w:Nat):rnd [a,b,c,d,e,f,g,h] k w=[lo (ym (ym (ym (ym (ym (ym h (S1 e)) (ch e f g)) k) w) (S0 a)) (mj a b c)),a,b,c,lo (ym d (ym (ym (ym (ym h (S1 e)) (ch e f g)) k) w)),e,f,g]:=rfl
theorem ZIe (k:Nat) (ih:Nat→Nat→Nat→Nat→Nat→Nat→Nat→Nat→Nat→Nat) (W a b c d e f g h:Nat):kst k ih W a b c d e f g h=
 ih (kn W) (lo (ym (ym (ym (ym (ym (ym h (S1 e)) (ch e f g)) k) (yx W 480)) (S0 a)) (mj a b c))) a b c (lo (ym d (ym (ym (ym (ym h (S1 e)) (ch e f g)) k) (yx W 480)))) e f g:=by
 unfold kst
 rw [Xp,Xp,Xp,Xp]
theorem ZEM {ws v:List Nat} {K:Nat→Nat→Nat→Nat→Nat→Nat→Nat→Nat→Nat} {k w:Nat} {l:List Nat} (hv:v.length=8) {W:Nat} (hW:yx W 480=w):ZEK (kgo (k::l) K W) v=ZEK (kgo l K (kn W)) (rnd v k w):=by
 match v,hv with
 |[a,b,c,d,e,f,g,h],_=>
  rw [ZEL,Zj9,ZIe,hW,Zrt,Zj9]
theorem ZBh {ws v:List Nat} {K:Nat→Nat→Nat→Nat→Nat→Nat→Nat→Nat→Nat} (hv:v.length=8):∀(m i:Nat),i+m=64→ZEK (kgo (ks.drop i) K (pw 0 (win ws i))) (rs ws v i)=ZEK K (rs ws v 64)
 |0,i,h=>by
  have e:i=64:=by omega
  subst e
  rw [show ks.drop 64=[] from rfl]
  generalize pw 0 (win ws 64)=W
  rfl
 |m+1,i,h=>by
  have hi:i < ks.length:=by show i < 64;omega
  rw [List.drop_eq_getElem_cons hi,ZEM (ws:=ws) (Zv2 hv i) (ZBg ws i),ZId]
  have:=ZBh (ws:=ws) (K:=K) hv m (i+1) (by omega)
  rw [show rs ws v (i+1)=rnd (rs ws v i) (ks.getD i 0) (wd ws i) from rfl,show ks.getD i 0=ks[i] by rw [ycp,yv hi];rfl] at this
  exact this
def Zg8 (v ws:List Nat):List Nat:=List.zipWith (fun x y=>lo (x+y)) (rs ws v 64) v
theorem ZdO {v ws:List Nat} (h:v.length=8):(Zg8 v ws).length=8:=by
 rw [Zg8,List.length_zipWith,Zv2 h,h]
 rfl
theorem ZBi {v ws:List Nat}:∀x,x∈Zg8 v ws→x < 4294967296:=by
 intro x hx
 unfold Zg8 at hx
 rw [List.mem_iff_getElem] at hx
 obtain ⟨i,hi,rfl⟩:=hx
 rw [List.getElem_zipWith]
 exact ZG0 _
theorem ZGF {v ws:List Nat} (hv:v.length=8) (hlt:∀x,x∈v→x < 4294967296) (hw:ws.length=16) (hwl:∀x,x∈ws→x < 4294967296):ZGC (pw 0 v) (pw 0 ws)=pw 0 (Zg8 v ws):=by
 have e0:ws=win ws 0:=by
  match ws,hw with
  |[a0,a1,a2,a3,a4,a5,a6,a7,a8,a9,a10,a11,a12,a13,a14,a15],_=>
   simp only [ybf,ycg,or_false,forall_eq_or_imp,forall_eq] at hwl
   obtain ⟨h0,h1,h2,h3,h4,h5,h6,h7,h8,h9,h10,h11,h12,h13,h14,h15⟩:=hwl
   have hs:∀n,n < 16→wd [a0,a1,a2,a3,a4,a5,a6,a7,a8,a9,a10,a11,a12,a13,a14,a15] n=lo ([a0,a1,a2,a3,a4,a5,a6,a7,a8,a9,a10,a11,a12,a13,a14,a15].getD n 0):=fun n hn=>by rw [wd,dif_pos hn]
   unfold win
   rw [hs 0 (by omega),hs (0+1) (by omega),hs (0+2) (by omega),hs (0+3) (by omega),hs (0+4) (by omega),hs (0+5) (by omega),hs (0+6) (by omega),hs (0+7) (by omega),hs (0+8) (by omega),hs (0+9) (by omega),hs (0+10) (by omega),hs (0+11) (by omega),hs (0+12) (by omega),hs (0+13) (by omega),hs (0+14) (by omega),hs (0+15) (by omega)]
   show _=[lo a0,lo a1,lo a2,lo a3,lo a4,lo a5,lo a6,lo a7,lo a8,lo a9,lo a10,lo a11,lo a12,lo a13,lo a14,lo a15]
   rw [ZaC h0,ZaC h1,ZaC h2,ZaC h3,ZaC h4,ZaC h5,ZaC h6,ZaC h7,ZaC h8,ZaC h9,ZaC h10,ZaC h11,ZaC h12,ZaC h13,ZaC h14,ZaC h15]
 match v,hv with
 |[a,b,c,d,e,f,g,h],hv=>
  have ea:w32 (pw 0 [a,b,c,d,e,f,g,h]) 224=a:=Ze9 (l:=[]) (r:=[b,c,d,e,f,g,h]) rfl hlt rfl
  have eb:w32 (pw 0 [a,b,c,d,e,f,g,h]) 192=b:=Ze9 (l:=[a]) (r:=[c,d,e,f,g,h]) rfl hlt rfl
  have ec:w32 (pw 0 [a,b,c,d,e,f,g,h]) 160=c:=Ze9 (l:=[a,b]) (r:=[d,e,f,g,h]) rfl hlt rfl
  have ed:w32 (pw 0 [a,b,c,d,e,f,g,h]) 128=d:=Ze9 (l:=[a,b,c]) (r:=[e,f,g,h]) rfl hlt rfl
  have ee:w32 (pw 0 [a,b,c,d,e,f,g,h]) 96=e:=Ze9 (l:=[a,b,c,d]) (r:=[f,g,h]) rfl hlt rfl
  have ef:w32 (pw 0 [a,b,c,d,e,f,g,h]) 64=f:=Ze9 (l:=[a,b,c,d,e]) (r:=[g,h]) rfl hlt rfl
  have eg:w32 (pw 0 [a,b,c,d,e,f,g,h]) 32=g:=Ze9 (l:=[a,b,c,d,e,f]) (r:=[h]) rfl hlt rfl
  have eh:w32 (pw 0 [a,b,c,d,e,f,g,h]) 0=h:=Ze9 (l:=[a,b,c,d,e,f,g]) (r:=[]) rfl hlt rfl
  unfold ZGC
  rw [ea,eb,ec,ed,ee,ef,eg,eh,Xp,Xp,Xp,Xp,Xp,Xp,Xp,Xp]
  have hr:=ZBh (ws:=ws) (v:=[a,b,c,d,e,f,g,h]) (K:=fun a' b' c' d' e' f' g' h'=>cat (cat (cat (cat (cat (cat (cat (cat 0 (ym a' a)) (ym b' b)) (ym c' c)) (ym d' d)) (ym e' e)) (ym f' f)) (ym g' g)) (ym h' h)) rfl 64 0 rfl
  rw [←e0,show ks.drop 0=ks from rfl,show rs ws [a,b,c,d,e,f,g,h] 0=[a,b,c,d,e,f,g,h] from rfl,Zj9] at hr
  rw [hr]
  unfold Zg8
  generalize rs ws [a,b,c,d,e,f,g,h] 64=q,Zv2 (ws:=ws) hv 64=hq
  match q,hq with
  |[a',b',c',d',e',f',g',h'],_=>
   rw [Zj9]
   simp only [List.zipWith_cons_cons,List.zipWith_nil_right,ZBf,cat]
   rfl
theorem ZpY (x:Nat) (l:List Nat) (n:Nat):pk (x::l) n=pk l (n*256+x):=by
 show Qd (ym (Nat.mul n 256) x) (pk l)=_
 rw [Xp]
 rfl
def ZX:List Nat→List Nat
 |a::b::c::d::r=>(((a*256+b)*256+c)*256+d)::ZX r
 |_=>[]
theorem Zya:∀(m:Nat) (l:List Nat) (n:Nat),l.length=4*m→pk l n=pw n (ZX l)
 |0,[],n,_=>rfl
 |0,_::_,_,h=>by simp at h
 |m+1,[],_,h=>by simp at h
 |m+1,[_],_,h=>by simp at h;omega
 |m+1,[_,_],_,h=>by simp at h;omega
 |m+1,[_,_,_],_,h=>by simp at h;omega
 |m+1,a::b::c::d::r,n,h=>by
  rw [ZpY,ZpY,ZpY,ZpY,ZX]
  rw [Zya m r _ (by simp at h;omega),ZBf]
  have e:(((n*256+a)*256+b)*256+c)*256+d=n*4294967296+(((a*256+b)*256+c)*256+d):=by omega
  rw [e]
theorem ZoM:∀(m:Nat) (l:List Nat),l.length=4*m→(ZX l).length=m
 |0,[],_=>rfl
 |0,_::_,h=>by simp at h
 |m+1,[],h=>by simp at h
 |m+1,[_],h=>by simp at h;omega
 |m+1,[_,_],h=>by simp at h;omega
 |m+1,[_,_,_],h=>by simp at h;omega
 |m+1,a::b::c::d::r,h=>by
  rw [ZX,yz,ZoM m r (by simp at h;omega)]
theorem Zru:∀(m:Nat) (l:List Nat),l.length=4*m→(∀x,x∈l→x < 256)→∀x,x∈ZX l→x < 4294967296
 |0,[],_,_,x,hx=>by simp [ZX] at hx
 |0,_::_,h,_,_,_=>by simp at h
 |m+1,[],h,_,_,_=>by simp at h
 |m+1,[_],h,_,_,_=>by simp at h;omega
 |m+1,[_,_],h,_,_,_=>by simp at h;omega
 |m+1,[_,_,_],h,_,_,_=>by simp at h;omega
 |m+1,a::b::c::d::r,h,hl,x,hx=>by
  rw [ZX] at hx
  have h1:=hl a (by simp)
  have h2:=hl b (by simp)
  have h3:=hl c (by simp)
  have h4:=hl d (by simp)
  rcases ybf.1 hx with rfl|hx
  ·omega
  ·exact Zru m r (by simp at h;omega) (fun y hy=>hl y (by simp [hy])) x hx
theorem Zi5:∀(i:Nat) (l:List Nat) (a b c d:Nat),l[4*i]? =some a→l[4*i+1]? =some b→l[4*i+2]? =some c→l[4*i+3]? =some d→(ZX l)[i]? =some (((a*256+b)*256+c)*256+d)
 |0,[],_,_,_,_,h,_,_,_=>by simp at h
 |0,[_],_,_,_,_,_,h,_,_=>by simp at h
 |0,[_,_],_,_,_,_,_,_,h,_=>by simp at h
 |0,[_,_,_],_,_,_,_,_,_,_,h=>by simp at h
 |0,a::b::c::d::r,_,_,_,_,h1,h2,h3,h4=>by
  simp at h1 h2 h3 h4
  subst h1 h2 h3 h4
  rfl
 |i+1,[],_,_,_,_,h,_,_,_=>by simp at h
 |i+1,[_],_,_,_,_,h,_,_,_=>by simp [show 4*(i+1)=4*i+3+1 by omega] at h
 |i+1,[_,_],_,_,_,_,h,_,_,_=>by simp [show 4*(i+1)=4*i+2+1+1 by omega] at h
 |i+1,[_,_,_],_,_,_,_,h,_,_,_=>by simp [show 4*(i+1)=4*i+1+1+1+1 by omega] at h
 |i+1,a::b::c::d::r,_,_,_,_,h1,h2,h3,h4=>by
  rw [ZX,yat]
  exact Zi5 i r _ _ _ _ (by simpa [show 4*(i+1)=4*i+1+1+1+1 by omega] using h1) (by simpa [show 4*(i+1)+1=4*i+1+1+1+1+1 by omega] using h2)
   (by simpa [show 4*(i+1)+2=4*i+2+1+1+1+1 by omega] using h3) (by simpa [show 4*(i+1)+3=4*i+3+1+1+1+1 by omega] using h4)
def ZdP:Nat→List Nat→List Nat→List Nat
 |0,_,v=>v
 |n+1,l,v=>ZdP n (l.drop 64) (Zg8 v (ZX (l.take 64)))
theorem ZBj:∀(n:Nat) (l v:List Nat),l.length=64*n→(∀x,x∈l→x < 256)→v.length=8→(∀x,x∈v→x < 4294967296)→ZIa n l (pw 0 v)=pw 0 (ZdP n l v)
 |0,l,v,_,_,_,_=>rfl
 |n+1,l,v,h1,h2,h3,h4=>by
  show Qd (ZGC (pw 0 v) (pk (l.take 64) 0)) (ZIa n (l.drop 64))=_
  have hl:(l.take 64).length=4*16:=by rw [List.length_take];omega
  rw [Xp,Zya 16 _ 0 hl,ZGF h3 h4 (ZoM 16 _ hl) (Zru 16 _ hl fun x hx=>h2 x (List.mem_of_mem_take hx))]
  exact ZBj n (l.drop 64) _ (by rw [ybn];omega) (fun x hx=>h2 x (List.mem_of_mem_drop hx)) (ZdO h3) ZBi
theorem Zyb:∀(n:Nat) (l v:List Nat),v.length=8→(ZdP n l v).length=8
 |0,_,_,h=>h
 |n+1,l,v,h=>Zyb n _ _ (ZdO h)
theorem ZBk:∀(n:Nat) (l v:List Nat),(∀x,x∈v→x < 4294967296)→∀x,x∈ZdP n l v→x < 4294967296
 |0,_,_,h=>h
 |n+1,l,v,h=>ZBk n _ _ ZBi
theorem Zrv:∀(n m:Nat) (l r v:List Nat),l.length=64*n→ZdP (n+m) (l++r) v=ZdP m r (ZdP n l v)
 |0,m,l,r,v,h=>by
  have:l=[]:=List.length_eq_zero_iff.1 (by omega)
  subst this
  rw [yax]
  rfl
 |n+1,m,l,r,v,h=>by
  rw [show n+1+m=(n+m)+1 by omega,ZdP,List.drop_append_of_le_length (by omega),List.take_append_of_le_length (by omega),Zrv n m _ r _ (by rw [ybn];omega)]
  rfl
theorem Zka:∀(c:Nat) (l v:List Nat),ZdP (c+1) l v=Zg8 (ZdP c l v) (ZX ((l.drop (64*c)).take 64))
 |0,l,v=>by rw [Nat.mul_zero,List.drop_zero];rfl
 |c+1,l,v=>by
  rw [show ZdP (c+1+1) l v=ZdP (c+1) (l.drop 64) (Zg8 v (ZX (l.take 64))) from rfl,Zka c,List.drop_drop,show 64+64*c=64*(c+1) by omega]
  rfl
theorem Zyc (ws:List Nat) {n x:Nat} (hn:n < 16) (h:ws[n]? =some x) (hx:x < 4294967296):wd ws n=x:=by
 rw [wd,dif_pos hn,ycp,h]
 exact ZaC hx
def ZEN (v:List Nat) (k:Nat):UInt8:=yas (v.getD (k / 4) 0 / 2 ^ (24 - 8*(k % 4)))
theorem ZGG {v:List Nat} (hv:v.length=8) (hlt:∀x,x∈v→x < 4294967296):Zat (pw 0 v) Zz2=(yo 32).map (ZEN v):=by
 have hgo:∀(H:Nat) (l:List Nat),Zat H l=l.map fun s=>yas (H / 2 ^ s % 256):=by
  intro H l
  induction l with
  |nil=>rfl
  |cons s r ih=>
   show Qd (Nat.mod (yx H s) 256) (fun x=>yas x::Zat H r)=_
   rw [Xp,ih,yy,show yx H s=H >>> s from rfl,ycu]
   rfl
 have hb:∀(l r:List Nat) (x j s:Nat),v=l++x::r→j≤24→s=32*r.length+j→yas (pw 0 v / 2 ^ s % 256)=yas (x / 2 ^ j):=by
  intro l r x j s e hj hs
  have hall:=hlt
  rw [e] at hall
  have h1:pw 0 v / 2 ^ (32*r.length)=pw 0 l*4294967296+x:=by
   rw [e,Zz4]
   exact Zz3 r _ (fun y hy=>hall y (by simp [hy]))
  rw [hs,Nat.pow_add, ←Nat.div_div_eq_div_mul,h1]
  have h2:pw 0 l*4294967296+x=2 ^ j*(pw 0 l*2 ^ (24 - j)*256)+x:=by
   rw [show (4294967296:Nat)=2 ^ j*2 ^ (24 - j)*256 by rw [←Nat.pow_add,show j+(24 - j)=24 by omega]]
   congr 1
   ac_rfl
  rw [h2,Nat.mul_add_div (Nat.two_pow_pos j),ybm (pw 0 l*2 ^ (24 - j)) 256,Nat.mul_add_mod]
  exact UInt8.toNat_inj.1 (by simp)
 match v,hv with
 |[a,b,c,d,e,f,g,h],_=>
  rw [hgo]
  simp only [Zz2,yy,List.map_nil]
  rw [hb [] [b,c,d,e,f,g,h] a 24 248 rfl (by omega) rfl,hb [] [b,c,d,e,f,g,h] a 16 240 rfl (by omega) rfl,hb [] [b,c,d,e,f,g,h] a 8 232 rfl (by omega) rfl,hb [] [b,c,d,e,f,g,h] a 0 224 rfl (by omega) rfl,
   hb [a] [c,d,e,f,g,h] b 24 216 rfl (by omega) rfl,hb [a] [c,d,e,f,g,h] b 16 208 rfl (by omega) rfl,hb [a] [c,d,e,f,g,h] b 8 200 rfl (by omega) rfl,hb [a] [c,d,e,f,g,h] b 0 192 rfl (by omega) rfl,
   hb [a,b] [d,e,f,g,h] c 24 184 rfl (by omega) rfl,hb [a,b] [d,e,f,g,h] c 16 176 rfl (by omega) rfl,hb [a,b] [d,e,f,g,h] c 8 168 rfl (by omega) rfl,hb [a,b] [d,e,f,g,h] c 0 160 rfl (by omega) rfl,
   hb [a,b,c] [e,f,g,h] d 24 152 rfl (by omega) rfl,hb [a,b,c] [e,f,g,h] d 16 144 rfl (by omega) rfl,hb [a,b,c] [e,f,g,h] d 8 136 rfl (by omega) rfl,hb [a,b,c] [e,f,g,h] d 0 128 rfl (by omega) rfl,
   hb [a,b,c,d] [f,g,h] e 24 120 rfl (by omega) rfl,hb [a,b,c,d] [f,g,h] e 16 112 rfl (by omega) rfl,hb [a,b,c,d] [f,g,h] e 8 104 rfl (by omega) rfl,hb [a,b,c,d] [f,g,h] e 0 96 rfl (by omega) rfl,
   hb [a,b,c,d,e] [g,h] f 24 88 rfl (by omega) rfl,hb [a,b,c,d,e] [g,h] f 16 80 rfl (by omega) rfl,hb [a,b,c,d,e] [g,h] f 8 72 rfl (by omega) rfl,hb [a,b,c,d,e] [g,h] f 0 64 rfl (by omega) rfl,
   hb [a,b,c,d,e,f] [h] g 24 56 rfl (by omega) rfl,hb [a,b,c,d,e,f] [h] g 16 48 rfl (by omega) rfl,hb [a,b,c,d,e,f] [h] g 8 40 rfl (by omega) rfl,hb [a,b,c,d,e,f] [h] g 0 32 rfl (by omega) rfl,
   hb [a,b,c,d,e,f,g] [] h 24 24 rfl (by omega) rfl,hb [a,b,c,d,e,f,g] [] h 16 16 rfl (by omega) rfl,hb [a,b,c,d,e,f,g] [] h 8 8 rfl (by omega) rfl,hb [a,b,c,d,e,f,g] [] h 0 0 rfl (by omega) rfl]
  rfl
def ZdQ (l:List UInt8):List Nat:=l.map yac++(128::(yp (zs l.length) 0++be8 (8*l.length)))
def ZaX:List Nat:=[1779033703,3144134277,1013904242,2773480762,1359893119,2600822924,528734635,1541459225]
theorem Zrw (l:List UInt8):(ZdQ l).length=64*((l.length+72) / 64):=by
 unfold ZdQ
 simp only [yl,yr,yz,yci,be8,List.length_nil,zs]
 omega
theorem ZCH (l:List UInt8):∀x,x∈ZdQ l→x < 256:=by
 intro x hx
 unfold ZdQ at hx
 simp only [ych,List.mem_map,ybf,List.mem_replicate,be8,ycg,or_false] at hx
 rcases hx with ⟨y,_,rfl⟩|rfl|⟨_,rfl⟩|h
 ·exact y.toNat_lt
 ·omega
 ·omega
 ·rcases h with h|h|h|h|h|h|h|h <;> rw [h] <;> exact yav _ (by omega)
theorem Zz6 (l:List UInt8):sha l=(yo 32).map (ZEN (ZdP ((l.length+72) / 64) (ZdQ l) ZaX)):=by
 unfold sha
 rw [Xp,Xp,show H0=pw 0 ZaX from rfl,show l.map yac++(128::(yp (zs l.length) 0++be8 (8*l.length)))=ZdQ l from rfl,
  show Nat.div (ym l.length 72) 64=(l.length+72) / 64 from rfl]
 have hf:∀x,x∈ZaX→x < 4294967296:=by decide
 rw [ZBj _ _ _ (Zrw l) (ZCH l) rfl hf]
 exact ZGG (Zyb _ _ _ rfl) (ZBk _ _ _ hf)
theorem ZJE (l:List UInt8):(sha l).length=32:=by rw [Zz6];simp
end Go.Sha
end
section
set_option maxRecDepth 4000
namespace Go.Ev
theorem ZBl {I X:Type} {step:I→Option (I⊕X)} {st:Nat→I} {x:X} (n:Nat) (hs:∀k,k < n→step (st k)=some (.inl (st (k+1)))) (he:step (st n)=some (.inr x)):∀(d k f:Nat),k+d=n→d < f→Zc step f (st k)=some x
 |0,k,f+1,h,_=>by
  have e:k=n:=by omega
  subst e
  unfold Zc
  rw [he,yb]
 |d+1,k,f+1,h,hf=>by
  unfold Zc
  rw [hs k (by omega),yb]
  exact ZBl n hs he d (k+1) f (by omega) (by omega)
theorem Z2 {I X:Type} {step:I→Option (I⊕X)} (n:Nat) (st:Nat→I) {x:X} (hs:∀k,k < n→step (st k)=some (.inl (st (k+1)))) (he:step (st n)=some (.inr x)) (hn:n < 18446744073709551616):
 Zc step fuel (st 0)=some x:=ZBl n hs he n 0 fuel (by omega) (by rw [Zc0];exact hn)
theorem Zyd {I X:Type} {step:I→Option (I⊕X)} {Post:X→Prop} (n:Nat) (S:Nat→I→Prop) (hs:∀k s,k < n→S k s→(∃t,step s=some (.inl t)∧S (k+1) t)∨∃x,step s=some (.inr x)∧Post x)
 (he:∀s,S n s→∃x,step s=some (.inr x)∧Post x):∀(d k f:Nat) (s:I),k+d=n→d < f→S k s→∃x,Zc step f s=some x∧Post x
 |0,k,f+1,s,h,_,hS=>by
  have e:k=n:=by omega
  subst e
  obtain ⟨x,h1,h2⟩:=he s hS
  unfold Zc
  rw [h1,yb]
  exact ⟨x,rfl,h2⟩
 |d+1,k,f+1,s,h,hf,hS=>by
  unfold Zc
  rcases hs k s (by omega) hS with ⟨t,h1,h2⟩|⟨x,h1,h2⟩
  ·rw [h1,yb]
   exact Zyd n S hs he d (k+1) f t (by omega) (by omega) h2
  ·rw [h1,yb]
   exact ⟨x,rfl,h2⟩
theorem Yx {I X:Type} {step:I→Option (I⊕X)} (n:Nat) (S:Nat→I→Prop) (Post:X→Prop) {i:I} (h0:S 0 i) (hn:n < 18446744073709551616)
 (hs:∀k s,k < n→S k s→(∃t,step s=some (.inl t)∧S (k+1) t)∨∃x,step s=some (.inr x)∧Post x)
 (he:∀s,S n s→∃x,step s=some (.inr x)∧Post x):∃x,Zc step fuel i=some x∧Post x:=Zyd n S hs he n 0 fuel i (by omega) (by rw [Zc0];exact hn) h0
theorem Xj {a b:Nat} (h:a < b):decide ((a:Int) < (b:Int))=true:=decide_eq_true (by omega)
theorem Yy {a:Nat}:decide ((a:Int) < (a:Int))=false:=decide_eq_false (by omega)
theorem ZC {k:Nat} (h:k < 9223372036854775807):wi ((k:Int)+1)=((k+1:Nat):Int):=by
 rw [Zx (by omega) (by omega)]
 omega
theorem ZD {α:Type} {l:List α} {k:Nat} {y:α} (h:l[k]? =some y):idx l (k:Int)=some y:=Ze8 (by omega) (by simpa using h)
theorem Zut {α:Type} {ls:List (List α)} {k:Nat} {e:List α} (h:ls[k]? =some e):(ls.take (k+1)).flatten=(ls.take k).flatten++e:=by
 rw [List.take_add_one,h]
 simp
theorem ZBm {α:Type} (ls:List (List α)) (k:Nat):(ls.take k).flatten.length≤ls.flatten.length:=by
 have h:=congrArg (fun l=>(List.flatten l).length) (ybc k ls)
 simp only [List.flatten_append,yl] at h
 omega
theorem Zbk {α:Type} {l:List α} {k:Nat} {e:α} (h:l[k]? =some e):l.take (k+1)=l.take k++[e]:=by
 rw [List.take_add_one,h]
 rfl
theorem Zs {α:Type} {l:List α} {k:Nat} (h:k < l.length):∃e,l[k]? =some e∧e∈l:=⟨l[k],yv h,List.getElem_mem h⟩
end Go.Ev
end
section
set_option maxRecDepth 4000
namespace Go.Proofs.YtjbbdlffilcaaaaGreat
open Go Go.Ev Go.Sha
theorem Zbl (x:UInt32) (n k:Nat) (h:n+k=32) (hn:0 < n) {z:Int} (hz:z=(n:Int)):∃o,ZA fuel x z=some o∧o.toNat=lo (yx (dbl x.toNat) n):=by
 subst hz
 unfold ZA
 rw [Zx (z:=32 - (n:Int)) (by omega) (by omega),if_pos (decide_eq_true (by omega)),if_pos (decide_eq_true (by omega))]
 refine ⟨_,rfl, ?_⟩
 have e1:min ((n:Int)).toNat 32=n:=by omega
 have e2:min (32 - (n:Int)).toNat 32=k:=by omega
 rw [e1,e2,UInt32.or_comm]
 exact ZG1 x h hn
theorem ZIf (a b c d:UInt8):((((Qy (ybe a.toNat) 24)|||(Qy (ybe b.toNat) 16))|||(Qy (ybe c.toNat) 8))|||(ybe d.toNat)).toNat=((a.toNat*256+b.toNat)*256+c.toNat)*256+d.toNat:=by
 have h1:=a.toNat_lt
 have h2:=b.toNat_lt
 have h3:=c.toNat_lt
 have h4:=d.toNat_lt
 have hs:∀(x:UInt8) (n:Nat),n≤24→(Qy (ybe x.toNat) n).toNat=x.toNat*2 ^ n:=by
  intro x n hn
  have hx:=x.toNat_lt
  unfold Qy
  rw [ycf,ycf,yah (a:=x.toNat) (by omega)]
  refine yah ?_
  calc x.toNat*2 ^ n < 2 ^ 8*2 ^ n:=Nat.mul_lt_mul_of_pos_right hx (Nat.two_pow_pos n)
   _=2 ^ (8+n):=(Nat.pow_add ..).symm
   _≤2 ^ 32:=Nat.pow_le_pow_right (by omega) (by omega)
 rw [Zv0,Zv0,Zv0,hs _ _ (by omega),hs _ _ (by omega),hs _ _ (by omega),ycf,yah (a:=d.toNat) (by omega)]
 have k1:Nat.lor (a.toNat*2 ^ 24) (b.toNat*2 ^ 16)=2 ^ 16*(a.toNat*256+b.toNat):=by
  rw [ybm a.toNat,show Nat.lor (2 ^ 24*a.toNat) (b.toNat*2 ^ 16)=2 ^ 24*a.toNat|||b.toNat*2 ^ 16 from rfl, ←yct (by omega)]
  omega
 have k2:Nat.lor (2 ^ 16*(a.toNat*256+b.toNat)) (c.toNat*2 ^ 8)=2 ^ 8*((a.toNat*256+b.toNat)*256+c.toNat):=by
  rw [show Nat.lor (2 ^ 16*(a.toNat*256+b.toNat)) (c.toNat*2 ^ 8)=2 ^ 16*(a.toNat*256+b.toNat)|||c.toNat*2 ^ 8 from rfl, ←yct (by omega)]
  omega
 rw [k1,k2,show Nat.lor (2 ^ 8*((a.toNat*256+b.toNat)*256+c.toNat)) d.toNat=2 ^ 8*((a.toNat*256+b.toNat)*256+c.toNat)|||d.toNat from rfl, ←yct (by omega)]
 omega
theorem ZJf (e f g:UInt32):((e&&&f)^^^((4294967295^^^e)&&&g)).toNat=ch e.toNat f.toNat g.toNat:=by
 rw [←ZI8]
 congr 1
 apply UInt32.toBitVec_inj.1
 apply BitVec.eq_of_getLsbD_eq
 intro i hi
 have h1:(4294967295:UInt32).toBitVec.getLsbD i=true:=by
  rw [show (4294967295:UInt32).toBitVec=BitVec.allOnes 32 from rfl,BitVec.getLsbD_allOnes]
  exact decide_eq_true hi
 simp only [UInt32.toBitVec_xor,UInt32.toBitVec_and,BitVec.getLsbD_xor,BitVec.getLsbD_and,h1]
 cases e.toBitVec.getLsbD i <;> cases f.toBitVec.getLsbD i <;> cases g.toBitVec.getLsbD i <;> rfl
theorem ZJg (a b c:UInt32):(((a&&&b)^^^(a&&&c))^^^(b&&&c)).toNat=mj a.toNat b.toNat c.toNat:=by
 rw [←ZI9]
 congr 1
 apply UInt32.toBitVec_inj.1
 apply BitVec.eq_of_getLsbD_eq
 intro i hi
 simp only [UInt32.toBitVec_xor,UInt32.toBitVec_and,UInt32.toBitVec_or,BitVec.getLsbD_xor,BitVec.getLsbD_and,BitVec.getLsbD_or]
 cases a.toBitVec.getLsbD i <;> cases b.toBitVec.getLsbD i <;> cases c.toBitVec.getLsbD i <;> rfl
theorem ZEO {l:List UInt8} (h:l.length=64):∃o,Wq fuel l=some o∧o.length=64∧∀(i:Nat) x,o[i]? =some x→x.toNat=wd (ZX (l.map yac)) i:=by
 unfold Wq
 have hset:∀(w:List UInt32) (y:UInt32),y.toNat=wd (ZX (l.map yac)) w.length→(∀(j:Nat) x,w[j]? =some x→x.toNat=wd (ZX (l.map yac)) j)→∀(j:Nat) x,(w++[y])[j]? =some x→x.toNat=wd (ZX (l.map yac)) j:=by
  intro w y hy hw j x hx
  by_cases hj:j < w.length
  ·rw [yae hj] at hx
   exact hw j x hx
  ·rw [yaj (by omega)] at hx
   have:j=w.length:=by
    have:=(yj.1 hx).1
    simp at this
    omega
   subst this
   rw [Nat.sub_self] at hx
   cases hx
   exact hy
 obtain ⟨w0,g1,g2,g3⟩:=Yx (step:=YV fuel) 16 (fun k s=>∃w,s=(l,(k:Int),w)∧w.length=k∧∀(j:Nat) x,w[j]? =some x→x.toNat=wd (ZX (l.map yac)) j) (fun w=>w.length=16∧∀(j:Nat) x,w[j]? =some x→x.toNat=wd (ZX (l.map yac)) j) (i:=(l,(0:Int),([]:List UInt32))) ⟨_,rfl,rfl,fun j x hx=>by simp at hx⟩ (by omega) (by
  rintro k _ hk ⟨w,rfl,hw,hv⟩
  left
  obtain ⟨x0,q0,_⟩:=Zs (l:=l) (k:=4*k) (by omega)
  obtain ⟨x1,q1,_⟩:=Zs (l:=l) (k:=4*k+1) (by omega)
  obtain ⟨x2,q2,_⟩:=Zs (l:=l) (k:=4*k+2) (by omega)
  obtain ⟨x3,q3,_⟩:=Zs (l:=l) (k:=4*k+3) (by omega)
  unfold YV
  dsimp only
  rw [Zx (z:=4*(k:Int)) (by omega) (by omega),Zx (z:=4*(k:Int)+1) (by omega) (by omega),Zx (z:=4*(k:Int)+2) (by omega) (by omega),Zx (z:=4*(k:Int)+3) (by omega) (by omega)]
  rw [if_pos (decide_eq_true (by omega)),show 4*(k:Int)=((4*k:Nat):Int) by omega,show ((4*k:Nat):Int)+1=((4*k+1:Nat):Int) by omega,show ((4*k:Nat):Int)+2=((4*k+2:Nat):Int) by omega,show ((4*k:Nat):Int)+3=((4*k+3:Nat):Int) by omega,
   ZD q0,yb,ZD q1,yb,ZD q2,yb,ZD q3,yb,if_pos (Yg (by omega) (by omega)),ZC (by omega)]
  refine ⟨_,rfl,_,rfl,by rw [yl,List.length_singleton];omega,hset w _ ?_ hv⟩
  have mg:∀(k:Nat) (x:UInt8),l[k]? =some x→(l.map yac)[k]? =some x.toNat:=fun k x hx=>by rw [yaa,hx];rfl
  have hwg:=Zi5 k (l.map yac) _ _ _ _ (mg _ _ q0) (mg _ _ q1) (mg _ _ q2) (mg _ _ q3)
  rw [ZIf,hw]
  have b0:=x0.toNat_lt
  have b1:=x1.toNat_lt
  have b2:=x2.toNat_lt
  have b3:=x3.toNat_lt
  exact (Zyc _ (by omega) hwg (by omega)).symm) (by
  rintro _ ⟨w,rfl,hw,hv⟩
  unfold YV
  dsimp only
  rw [if_neg (by rw [decide_eq_true_iff];omega)]
  exact ⟨_,rfl,hw,hv⟩)
 rw [g1,yb]
 obtain ⟨w1,k1,k2,k3⟩:=Yx (step:=YW fuel) 48 (fun k s=>∃w,s=(((16+k:Nat):Int),w)∧w.length=16+k∧∀(j:Nat) x,w[j]? =some x→x.toNat=wd (ZX (l.map yac)) j) (fun w=>w.length=64∧∀(j:Nat) x,w[j]? =some x→x.toNat=wd (ZX (l.map yac)) j) (i:=((16:Int),w0)) ⟨_,rfl,g2,g3⟩ (by omega) (by
  rintro k _ hk ⟨w,rfl,hw,hv⟩
  left
  obtain ⟨e1,he1,_⟩:=Zs (l:=w) (k:=k+1) (by omega)
  obtain ⟨e2,he2,_⟩:=Zs (l:=w) (k:=k+14) (by omega)
  obtain ⟨e3,he3,_⟩:=Zs (l:=w) (k:=k) (by omega)
  obtain ⟨e4,he4,_⟩:=Zs (l:=w) (k:=k+9) (by omega)
  obtain ⟨o1,ho1,p1⟩:=Zbl e1 7 25 rfl (by omega) (z:=7) rfl
  obtain ⟨o2,ho2,p2⟩:=Zbl e1 18 14 rfl (by omega) (z:=18) rfl
  obtain ⟨o3,ho3,p3⟩:=Zbl e2 17 15 rfl (by omega) (z:=17) rfl
  obtain ⟨o4,ho4,p4⟩:=Zbl e2 19 13 rfl (by omega) (z:=19) rfl
  unfold YW
  dsimp only
  rw [if_pos (decide_eq_true (by omega)),Zx (z:=((16+k:Nat):Int) - 15) (by omega) (by omega),Zx (z:=((16+k:Nat):Int) - 2) (by omega) (by omega),Zx (z:=((16+k:Nat):Int) - 16) (by omega) (by omega),Zx (z:=((16+k:Nat):Int) - 7) (by omega) (by omega)]
  rw [show ((16+k:Nat):Int) - 15=((k+1:Nat):Int) by omega,show ((16+k:Nat):Int) - 2=((k+14:Nat):Int) by omega,show ((16+k:Nat):Int) - 16=(k:Int) by omega,show ((16+k:Nat):Int) - 7=((k+9:Nat):Int) by omega]
  rw [ZD he1,yb,ZD he2,yb,ho1,yb,ho2,yb,ho3,yb,ho4,yb,ZD he3,yb,ZD he4,yb,
   if_pos (Yg (by omega) (by omega)),ZC (by omega)]
  refine ⟨_,rfl,_,rfl,by rw [yl,List.length_singleton];omega,hset w _ ?_ hv⟩
  have hn:=Zv1 (ZX (l.map yac)) k
  rw [←hv _ _ he1, ←hv _ _ he2, ←hv _ _ he3, ←hv _ _ he4] at hn
  rw [hw,Nat.add_comm 16 k,hn,V4,V4,V4,ZI4 e1 p1 p2,ZI5 e2 p3 p4]
  exact ZJa ..) (by
  rintro _ ⟨w,rfl,hw,hv⟩
  unfold YW
  dsimp only
  rw [if_neg (by rw [decide_eq_true_iff];omega)]
  exact ⟨_,rfl,hw,hv⟩)
 rw [k1,yb]
 exact ⟨_,rfl,k2,k3⟩
theorem ZEP {st:List UInt32} {l:List UInt8} (hs:st.length=8) (h:l.length=64):∃o,Wr fuel st l=some o∧o.map yad=Zg8 (st.map yad) (ZX (l.map yac)):=by
 unfold Wr
 obtain ⟨w,hw,hwl,hwv⟩:=ZEO h
 obtain ⟨k,hk,hkv⟩:∃k,Qp fuel=some k∧k.map yad=ks:=⟨_,rfl,rfl⟩
 have hkl:k.length=64:=by rw [←yr (f:=yad),hkv];rfl
 generalize hws:ZX (l.map yac)=ws at hwv
 rw [hw,yb,hk,yb,if_pos (Yg (by omega) (by omega))]
 obtain ⟨x,g1,u,v,rfl,g2,g3⟩:=Yx (step:=YX fuel) 64 (fun i s=>∃u v,s=(st,w,k,(i:Int),u,v)∧v.length=8∧v.map yad=rs ws (st.map yad) i) (fun x=>∃u v,x=(st,u,v)∧v.length=8∧v.map yad=rs ws (st.map yad) 64) (i:=(st,w,k,(0:Int),([()]:List Unit),st)) ⟨_,_,rfl,hs,rfl⟩ (by omega) (by
  rintro i _ hi ⟨u,v,rfl,he,hv⟩
  left
  match v,he,hv with
  |[x0,x1,x2,x3,x4,x5,x6,x7],_,hv=>
   obtain ⟨e1,he1,_⟩:=Zs (l:=k) (k:=i) (by omega)
   obtain ⟨e2,he2,_⟩:=Zs (l:=w) (k:=i) (by omega)
   obtain ⟨o1,ho1,p1⟩:=Zbl x4 6 26 rfl (by omega) (z:=6) rfl
   obtain ⟨o2,ho2,p2⟩:=Zbl x4 11 21 rfl (by omega) (z:=11) rfl
   obtain ⟨o3,ho3,p3⟩:=Zbl x4 25 7 rfl (by omega) (z:=25) rfl
   obtain ⟨o4,ho4,p4⟩:=Zbl x0 2 30 rfl (by omega) (z:=2) rfl
   obtain ⟨o5,ho5,p5⟩:=Zbl x0 13 19 rfl (by omega) (z:=13) rfl
   obtain ⟨o6,ho6,p6⟩:=Zbl x0 22 10 rfl (by omega) (z:=22) rfl
   have hb:∀n:Nat,n < 8→inB (n:Int) ([x0,x1,x2,x3,x4,x5,x6,x7]:List UInt32).length=true:=fun n hn=>YF (by omega) (by simp;omega)
   have b0:=hb 0 (by omega)
   have b1:=hb 1 (by omega)
   have b2:=hb 2 (by omega)
   have b3:=hb 3 (by omega)
   have b4:=hb 4 (by omega)
   have b5:=hb 5 (by omega)
   have b6:=hb 6 (by omega)
   have b7:=hb 7 (by omega)
   unfold YX
   dsimp only
   generalize ZA fuel=R at ho1 ho2 ho3 ho4 ho5 ho6 ⊢
   rw [if_pos (decide_eq_true (by omega))]
   have c0:inB 0 ([x0,x1,x2,x3,x4,x5,x6,x7]:List UInt32).length=true:=b0
   have c1:inB 1 ([x0,x1,x2,x3,x4,x5,x6,x7]:List UInt32).length=true:=b1
   have c2:inB 2 ([x0,x1,x2,x3,x4,x5,x6,x7]:List UInt32).length=true:=b2
   have c3:inB 3 ([x0,x1,x2,x3,x4,x5,x6,x7]:List UInt32).length=true:=b3
   have c4:inB 4 ([x0,x1,x2,x3,x4,x5,x6,x7]:List UInt32).length=true:=b4
   have c5:inB 5 ([x0,x1,x2,x3,x4,x5,x6,x7]:List UInt32).length=true:=b5
   have c6:inB 6 ([x0,x1,x2,x3,x4,x5,x6,x7]:List UInt32).length=true:=b6
   have c7:inB 7 ([x0,x1,x2,x3,x4,x5,x6,x7]:List UInt32).length=true:=b7
   simp only [c0,c1,c2,c3,c4,c5,c6,c7,if_true,ybt,yat,yb,ho1,ho2,ho3,ho4,ho5,ho6,ZD he1,ZD he2]
   rw [ZC (by omega)]
   refine ⟨_,rfl,_,_,rfl,rfl, ?_⟩
   rw [show rs ws (st.map yad) (i+1)=rnd (rs ws (st.map yad) i) (ks.getD i 0) (wd ws i) from rfl, ←hv]
   have hk1:ks.getD i 0=e1.toNat:=by
    rw [←hkv,ycp,yaa,he1]
    rfl
   rw [hk1, ←hwv i e2 he2]
   simp only [yy,List.map_nil]
   rw [Zrt]
   have kt:((x7+((o1^^^o2)^^^o3))+((x4&&&x5)^^^((4294967295^^^x4)&&&x6))+e1+e2).toNat=lo (ym (ym (ym (ym x7.toNat (S1 x4.toNat)) (ch x4.toNat x5.toNat x6.toNat)) e1.toNat) e2.toNat):=by
    rw [V4,V4,V4,V4,ZI7 x4 p1 p2 p3,ZJf]
    exact ZJb ..
   have ka:((x7+((o1^^^o2)^^^o3))+((x4&&&x5)^^^((4294967295^^^x4)&&&x6))+e1+e2+((o4^^^o5)^^^o6)+(((x0&&&x1)^^^(x0&&&x2))^^^(x1&&&x2))).toNat=lo (ym (ym (ym (ym (ym (ym x7.toNat (S1 x4.toNat)) (ch x4.toNat x5.toNat x6.toNat)) e1.toNat) e2.toNat) (S0 x0.toNat)) (mj x0.toNat x1.toNat x2.toNat)):=by
    rw [V4,V4,kt,ZI6 x0 p4 p5 p6,ZJg]
    exact ZJc ..
   have ke:(x3+(((x7+((o1^^^o2)^^^o3))+((x4&&&x5)^^^((4294967295^^^x4)&&&x6)))+e1+e2)).toNat=lo (ym x3.toNat (ym (ym (ym (ym x7.toNat (S1 x4.toNat)) (ch x4.toNat x5.toNat x6.toNat)) e1.toNat) e2.toNat)):=by
    rw [V4,kt]
    exact ZJd ..
   rw [ka,ke]) (by
  rintro _ ⟨u,v,rfl,he,hv⟩
  unfold YX
  dsimp only
  rw [if_neg (by rw [decide_eq_true_iff];omega)]
  exact ⟨_,rfl,_,_,rfl,he,hv⟩)
 rw [g1,yb]
 have hml:(Zg8 (st.map yad) ws).length=8:=ZdO (by rw [yr];exact hs)
 obtain ⟨x,q1,q2⟩:=Yx (step:=YY fuel) 8 (fun i s=>∃e,s=(st,(i:Int),u,e)∧e.length=8∧∀(j:Nat) x,e[j]? =some x→if j < i then (Zg8 (st.map yad) ws)[j]? =some x.toNat else (rs ws (st.map yad) 64)[j]? =some x.toNat) (fun x=>x.2.map yad=Zg8 (st.map yad) ws) (i:=(st,(0:Int),u,v)) ⟨_,rfl,g2,fun j x hx=>by
  rw [if_neg (by omega), ←g3,yaa,hx]
  rfl⟩ (by omega) (by
  rintro i _ hi ⟨e,rfl,he,hv⟩
  left
  obtain ⟨e1,he1,_⟩:=Zs (l:=e) (k:=i) (by omega)
  obtain ⟨e2,he2,_⟩:=Zs (l:=st) (k:=i) (by omega)
  unfold YY
  dsimp only
  rw [if_pos (decide_eq_true (by omega)),if_pos (YF (by omega) (by omega)),yca,he1,yb,ZD he2,yb,if_pos (YF (by omega) (by omega)),yb,ZC (by omega)]
  refine ⟨_,rfl,_,rfl,by rw [List.length_set];exact he, ?_⟩
  intro j x hx
  by_cases hji:j=i
  ·subst hji
   rw [ycb (by omega)] at hx
   cases hx
   rw [if_pos (by omega),V4]
   have k1:=hv _ _ he1
   rw [if_neg (by omega)] at k1
   unfold Zg8
   rw [List.getElem?_zipWith,k1,yaa,he2]
   rfl
  ·rw [List.getElem?_set_ne (Ne.symm hji)] at hx
   have k1:=hv j x hx
   by_cases hj:j < i
   ·rw [if_pos hj] at k1
    rw [if_pos (by omega)]
    exact k1
   ·rw [if_neg hj] at k1
    rw [if_neg (by omega)]
    exact k1) (by
  rintro _ ⟨e,rfl,he,hv⟩
  unfold YY
  dsimp only
  rw [if_neg (by rw [decide_eq_true_iff];omega)]
  refine ⟨_,rfl, ?_⟩
  dsimp only
  apply List.ext_getElem?
  intro j
  rw [yaa]
  by_cases hj:j < 8
  ·obtain ⟨x,hx,_⟩:=Zs (l:=e) (k:=j) (by omega)
   have:=hv j x hx
   rw [if_pos hj] at this
   rw [hx,this]
   rfl
  ·rw [yak (by omega),yak (by omega)]
   rfl)
 dsimp only
 rw [q1,yb]
 exact ⟨_,rfl,q2⟩
def rb8 (n:Nat):List UInt8:=(be8 n).map yas
theorem ZIg (n:UInt64) {k:Nat} (hk:k < 8):(rb8 n.toNat)[k]? =some (w8 ((Zw n (56 - 8*k)).toNat:Int)):=by
 have h:∀m:Nat,w8 ((Zw n m).toNat:Int)=yas (n.toNat / 2 ^ m % 256):=by
  intro m
  unfold w8 Zw
  rw [ybd,yah (Nat.lt_of_le_of_lt (Nat.div_le_self _ _) (ybi n))]
  congr 1
 rw [h]
 match k,hk with
 |0,_=>rfl
 |1,_=>rfl
 |2,_=>rfl
 |3,_=>rfl
 |4,_=>rfl
 |5,_=>rfl
 |6,_=>rfl
 |7,_=>
  show some (yas (n.toNat % 256))=some (yas (n.toNat / 2 ^ 0 % 256))
  rw [Nat.pow_zero,Nat.div_one]
theorem ZIh {l:List UInt8} (h:l.length≤4294967296):X7 fuel l=some (l++([128]:List UInt8)++yp (zs l.length) 0++rb8 (8*l.length)):=by
 unfold X7
 have hlt:l.length % 64 < 64:=yav _ (by omega)
 rw [if_pos (Yg (by omega) (by omega)),if_pos (Yg (by omega) (by omega))]
 obtain ⟨x,h1,h2⟩:=Yx (step:=YJ fuel) (zs l.length) (fun j s=>s=(l,l++([128]:List UInt8)++yp j 0)) (fun x=>x=(l,l++([128]:List UInt8)++yp (zs l.length) 0)) (i:=(l,l++([128]:List UInt8))) (by simp) (by unfold zs;omega) (by
  rintro j _ hj rfl
  left
  unfold YJ
  dsimp only
  have hl:(l++([128]:List UInt8)++yp j 0).length=l.length+1+j:=by rw [yl,yl,yci];rfl
  have hm:Int.tmod ((l++([128]:List UInt8)++yp j 0).length:Int) 64=(((l.length+1+j) % 64:Nat):Int):=by rw [hl];rfl
  rw [hm]
  unfold zs at hj
  rw [if_pos (by simp;omega),if_pos (Yg (by omega) (by omega))]
  exact ⟨_,rfl,by rw [yaf,List.replicate_succ']⟩) (by
  rintro _ rfl
  unfold YJ
  dsimp only
  have hl:(l++([128]:List UInt8)++yp (zs l.length) 0).length=l.length+1+zs l.length:=by rw [yl,yl,yci];rfl
  have hm:Int.tmod ((l++([128]:List UInt8)++yp (zs l.length) 0).length:Int) 64=(((l.length+1+zs l.length) % 64:Nat):Int):=by rw [hl];rfl
  rw [hm,if_neg (by simp;unfold zs;omega)]
  exact ⟨_,rfl,rfl⟩)
 rw [h1,yb,h2]
 dsimp only
 generalize hp:l++([128]:List UInt8)++yp (zs l.length) 0=p
 have hpl:p.length≤l.length+65:=by
  rw [←hp,yl,yl,yci]
  unfold zs
  simp
  omega
 have hn:(8*w64 (l.length:Int)).toNat=8*l.length:=by
  rw [UInt64.toNat_mul]
  unfold w64
  rw [ybd]
  show 8*((((l.length:Nat):Int) % 18446744073709551616).toNat % 2 ^ 64) % 2 ^ 64=_
  omega
 generalize hN:8*w64 (l.length:Int)=N at hn
 obtain ⟨x,g1,g2⟩:=Yx (step:=YK fuel) 8 (fun k s=>s=(N,56 - 8*(k:Int),p++(rb8 N.toNat).take k)) (fun x=>x=p++rb8 N.toNat) (i:=(N,(56:Int),p)) (by simp) (by omega) (by
  rintro k _ hk rfl
  left
  unfold YK
  dsimp only
  rw [if_pos (decide_eq_true (by omega)),if_pos (decide_eq_true (by omega)),if_pos (Yg (by simp;omega) (by simp;omega)),Zx (z:=56 - 8*(k:Int) - 8) (by omega) (by omega)]
  refine ⟨_,rfl, ?_⟩
  rw [Zbk (ZIg N hk),show min (56 - 8*(k:Int)).toNat 64=56 - 8*k by omega,yaf,show 56 - 8*((k+1:Nat):Int)=56 - 8*(k:Int) - 8 by omega]) (by
  rintro _ rfl
  unfold YK
  dsimp only
  rw [if_neg (by rw [decide_eq_true_iff];omega)]
  exact ⟨_,rfl,rfl⟩)
 rw [g1,yb,g2,hn]
theorem ZIi {l:List UInt8} (h:l.length≤4294967296):XP fuel l=some (sha l):=by
 unfold XP
 obtain ⟨f,hf,hfl⟩:∃f,Vz fuel=some f∧f.map yad=ZaX:=⟨_,rfl,rfl⟩
 have hf8:f.length=8:=by rw [←yr (f:=yad),hfl];rfl
 rw [ZIh h,yb,hf,yb]
 generalize hE:l++([128]:List UInt8)++yp (zs l.length) 0++rb8 (8*l.length)=E
 have hEm:E.map yac=ZdQ l:=by
  unfold ZdQ
  rw [←hE]
  simp only [yai,List.map_replicate,yy,List.map_nil,rb8,yao,yaf,List.singleton_append]
  have:be8 (8*l.length)=(be8 (8*l.length)).map (yac ∘ yas):=by
   simp [be8]
  rw [←this]
  simp
 have hEl:E.length=64*((l.length+72) / 64):=by rw [←yr (f:=yac),hEm,Zrw]
 generalize hz:([0,0,0,0,0,0,0,0,0,0,0,0,0,0,0,0,0,0,0,0,0,0,0,0,0,0,0,0,0,0,0,0]:List UInt8)=z
 have hzl:z.length=32:=by rw [←hz];rfl
 obtain ⟨x,h1,v,rfl,g1,g2⟩:=Yx (step:=Xd fuel) ((l.length+72) / 64) (fun c s=>∃d,s=(E,d,((64*c:Nat):Int),z)∧d.length=8∧d.map yad=ZdP c (E.map yac) ZaX) (fun x=>∃v,x=(v,z)∧v.length=8∧v.map yad=ZdP ((l.length+72) / 64) (E.map yac) ZaX) (i:=(E,f,(0:Int),z)) ⟨_,rfl,hf8,hfl⟩ (by omega) (by
  rintro c _ hc ⟨d,rfl,hd,hv⟩
  left
  unfold Xd
  dsimp only
  obtain ⟨m,hm1,hm2⟩:=ZEP (st:=d) (l:=(E.take (64*c+64)).drop (64*c)) hd (by rw [ybn,List.length_take];omega)
  rw [if_pos (decide_eq_true (by omega)),Zx (z:=((64*c:Nat):Int)+64) (by omega) (by omega),if_pos (by simp only [ZdI,yg,decide_eq_true_eq];omega),show (((64*c:Nat):Int)+64).toNat=64*c+64 by omega,yca,hm1,yb]
  refine ⟨_,rfl,_,by rw [show ((64*c:Nat):Int)+64=((64*(c+1):Nat):Int) by omega], ?_, ?_⟩
  ·rw [←yr (f:=yad),hm2]
   exact ZdO (by rw [yr];exact hd)
  ·rw [hm2,Zka,hv, ←List.map_drop, ←ybs]
   congr 3
   rw [List.drop_take]
   congr 1
   omega) (by
  rintro _ ⟨d,rfl,hd,hv⟩
  unfold Xd
  dsimp only
  rw [if_neg (by rw [decide_eq_true_iff];omega)]
  exact ⟨_,rfl,_,rfl,hd,hv⟩)
 rw [h1,yb]
 dsimp only
 generalize hv2:ZdP ((l.length+72) / 64) (E.map yac) ZaX=v2 at g2
 obtain ⟨x,k1,o,rfl,k2,k3⟩:=Yx (step:=Xe fuel) 32 (fun i s=>∃o,s=(v,(i:Int),z,o)∧o.length=32∧∀(j:Nat),j < i→o[j]? =some (Go.Sha.ZEN v2 j)) (fun x=>∃o,x=(z,o)∧o.length=32∧∀(j:Nat),j < 32→o[j]? =some (Go.Sha.ZEN v2 j)) (i:=(v,(0:Int),z,z)) ⟨_,rfl,hzl,fun j hj=>by omega⟩ (by omega) (by
  rintro i _ hi ⟨o,rfl,ho,hv⟩
  left
  unfold Xe
  dsimp only
  have e1:Int.tdiv (i:Int) 4=((i / 4:Nat):Int):=rfl
  have e2:Int.tmod (i:Int) 4=((i % 4:Nat):Int):=rfl
  obtain ⟨x1,hx1,_⟩:=Zs (l:=v) (k:=i / 4) (by omega)
  obtain ⟨x2,hx2,_⟩:=Zs (l:=o) (k:=i) (by omega)
  rw [if_pos (decide_eq_true (by omega)),e1,e2,Zx (z:=((i / 4:Nat):Int)) (by omega) (by omega),Zx (z:=8*((i % 4:Nat):Int)) (by omega) (by omega),Zx (z:=24 - 8*((i % 4:Nat):Int)) (by omega) (by omega),ZD hx1,yb,if_pos (decide_eq_true (by omega)),if_pos (YF (by omega) (by omega)),yca,hx2,yb,ZC (by omega)]
  refine ⟨_,rfl,_,rfl,by rw [List.length_set];exact ho, ?_⟩
  intro j hj
  by_cases hji:j=i
  ·subst hji
   rw [ycb (by omega)]
   congr 1
   unfold Go.Sha.ZEN
   have hx:v2.getD (j / 4) 0=x1.toNat:=by
    rw [←g2,ycp,yaa,hx1]
    rfl
   rw [hx,show min (24 - 8*((j % 4:Nat):Int)).toNat 32=24 - 8*(j % 4) by omega,Zus]
   unfold w8
   have e3:∀m:Nat,(((m:Nat):Int) % 256).toNat=m % 256:=fun m=>by omega
   rw [e3,show yx x1.toNat (24 - 8*(j % 4))=x1.toNat >>> (24 - 8*(j % 4)) from rfl,ycu]
   exact UInt8.toNat_inj.1 (by simp)
  ·rw [List.getElem?_set_ne (Ne.symm hji)]
   exact hv j (by omega)) (by
  rintro _ ⟨o,rfl,ho,hv⟩
  unfold Xe
  dsimp only
  rw [if_neg (by rw [decide_eq_true_iff];omega)]
  exact ⟨_,rfl,_,rfl,ho,hv⟩)
 rw [k1,yb,Zz6, ←hEm,hv2]
 congr 1
 apply List.ext_getElem?
 intro j
 by_cases hj:j < 32
 ·rw [k3 j hj,yaa,List.getElem?_range hj]
  rfl
 ·rw [yak (by show o.length≤j;omega),yak (by simp;omega)]
noncomputable def Xu (F:Nat) (a0:List UInt8):Option (List UInt8):=if decide (a0.length≤4294967296)=true then some (sha a0) else XP F a0
noncomputable def Zki (F:Nat):Fs ya:={ VA F with M:=fun x=>Xu F x}
noncomputable def ZdR:Fs ya:=Zki fuel
theorem Zkj:ZdR.Ok:=ZlA (s:=VA fuel) Zi3 fun x=>by
 show Xu fuel x=XP fuel x
 unfold Xu
 split
 ·rename_i h
  exact (ZIi (of_decide_eq_true h)).symm
 ·rfl
theorem ZEQ {l:List UInt8} (h:l.length≤4294967296):Xu fuel l=some (sha l):=if_pos (decide_eq_true h)
end Go.Proofs.YtjbbdlffilcaaaaGreat
end
section
set_option maxRecDepth 4000
namespace Go.Proofs.YtjbbdlffilcaaaaGreat
open Go Go.Ev
noncomputable section
def Yq (F:Nat) (s:(UInt64×Int×(List UInt8)×(List UInt8))):Option ((UInt64×Int×(List UInt8)×(List UInt8))⊕((List UInt8)×(List UInt8))):=
 if (decide (s.2.1 ≥ 0))=true then
  if (decide (0≤s.2.1))=true then
   let y79:UInt8:=w8 ((Zw s.1 (min s.2.1.toNat 64)).toNat:Int)
   if (apB s.2.2.2.length 1 1)=true then
    some (.inl (s.1,wi (s.2.1 - 8),s.2.2.1,s.2.2.2++([y79]:List UInt8)))
   else
   none
  else
  none
 else
 some (.inr (s.2.2.1,s.2.2.2))
def QA:Lp:=⟨[(0,.v .u64),(3,.own 1 .u8),(4,.v (.int .i64))],[.log .u8 5,.log .u8 5],[.u64,(.int .i64),(.sl .u8),(.sl .u8)],[⟨.exit 0,[(3,.own 1 .u8)],[.log .u8 5,.log .u8 5],[(.sl .u8),(.sl .u8)]⟩],Zc (Yq fuel) fuel⟩
theorem ZdS:QA.Ok ya (Zo ya 168) (Zn ya 168 0):=Zl (fi:={ hi:={ own:=[2,3,9,15,16]},lp:=[]}) (specs:={ l:=[]}) (okS trivial) trivial (by kernel_rfl) (fun v=>by kernel_rfl)
def XT (F:Nat) (a0:UInt64):Option ((List UInt8)):=
 (Zc (Yq F) F (a0,(56:Int),([]:List UInt8),([]:List UInt8))).bind fun o80=>
 some o80.2
def Zgj (F:Nat):Fs ya:=⟨168,[.v .u64],[],[.u64],[⟨.ret,[(0,.own 0 .u8)],[.log .u8 5],[(.sl .u8)]⟩],fun x=>XT F x⟩
def Q2:Fs ya:=Zgj fuel
theorem Zgk:Q2.Ok:=Zh (fi:={ hi:={ own:=[2,3,9,15,16]},lp:=[(0,QA)]}) (specs:={ l:=[]}) (okS trivial) ⟨ZdS,trivial⟩ (by decide+kernel) (fun x=>by kernel_rfl)
def YL (F:Nat) (s:((List (List UInt8))×Int×(List UInt8)×(List UInt8))):Option (((List (List UInt8))×Int×(List UInt8)×(List UInt8))⊕((List UInt8)×(List UInt8))):=
 if (decide (s.2.1 < (s.1.length:Int)))=true then
  (idx s.1 s.2.1).bind fun e82=>
  (WP F (w64 (e82.length:Int))).bind fun o83=>
  if (apB s.2.2.2.length o83.length 1)=true then
   (idx s.1 s.2.1).bind fun e84=>
   if (apB ((s.2.2.2++o83).length) e84.length 1)=true then
    some (.inl (s.1,wi (s.2.1+1),s.2.2.1,(s.2.2.2++o83)++e84))
   else
   none
  else
  none
 else
 some (.inr (s.2.2.1,s.2.2.2))
def Zcy:Lp:=⟨[(1,.v (.sl (.sl .u8))),(4,.ref 0 []),(5,.own 1 .u8),(6,.v (.int .i64))],[.var (.v (.arr 32 .u8)) true,.log .u8 5],[(.sl (.sl .u8)),(.int .i64),(.arr 32 .u8),(.sl .u8)],[⟨.exit 0,[(4,.ref 0 []),(5,.own 1 .u8)],[.var (.v (.arr 32 .u8)) true,.log .u8 5],[(.arr 32 .u8),(.sl .u8)]⟩],Zc (YL fuel) fuel⟩
theorem Zg9:Zcy.Ok ya (Zo ya 165) (Zn ya 165 0):=Zl (fi:={ hi:={ own:=[5,11,14,28,30,31,36],still:=[10,26,37]},lp:=[]}) (specs:={ l:=[Zcw]}) (okS ⟨ZiZ,trivial⟩) trivial (by kernel_rfl) (fun v=>by kernel_rfl)
def Vg (F:Nat) (a0:ByteArray) (a1:(List (List UInt8))):Option ((List UInt8)):=
 (XT F (w64 (a0.size:Int))).bind fun o81=>
 if (decide (a0.size≤maxLen))=true then
  if (apB o81.length a0.data.toList.length 1)=true then
   (Zc (YL F) F (a1,(0:Int),([0,0,0,0,0,0,0,0,0,0,0,0,0,0,0,0,0,0,0,0,0,0,0,0,0,0,0,0,0,0,0,0]:List UInt8),o81++a0.data.toList)).bind fun o85=>
   (Xu F o85.2).bind fun o86=>
   some o86
  else
  none
 else
 none
def Zkk (F:Nat):Fs ya:=⟨165,[.v .str,.v (.sl (.sl .u8))],[],[.str,(.sl (.sl .u8))],[⟨.ret,[(0,.v (.arr 32 .u8))],[],[(.arr 32 .u8)]⟩],fun x=>Vg F x.1 x.2⟩
def ZdT:Fs ya:=Zkk fuel
theorem Zkl:ZdT.Ok:=Zh (fi:={ hi:={ own:=[5,11,14,28,30,31,36],still:=[10,26,37]},lp:=[(0,Zcy)]}) (specs:={ l:=[Q2,ZdR]}) (okS ⟨Zgk,Zkj,trivial⟩) ⟨Zg9,trivial⟩ (by decide+kernel) (fun x=>by kernel_rfl)
def Yr (F:Nat) (s:(Int×(List UInt8)×(List UInt8))):Option ((Int×(List UInt8)×(List UInt8))⊕((List UInt8)×(List UInt8))):=
 if (decide (s.1 < 32))=true then
  if (inB s.1 32)=true then
   (s.2.1[s.1.toNat]?).bind fun e87=>
   if (apB s.2.2.length 1 1)=true then
    some (.inl (wi (s.1+1),s.2.1,s.2.2++([e87]:List UInt8)))
   else
   none
  else
  none
 else
 some (.inr (s.2.1,s.2.2))
def QB:Lp:=⟨[(3,.ref 0 []),(5,.own 1 .u8),(6,.v (.int .i64))],[.var (.v (.arr 32 .u8)) true,.log .u8 5],[(.int .i64),(.arr 32 .u8),(.sl .u8)],[⟨.exit 0,[(5,.own 1 .u8)],[.var (.v (.arr 32 .u8)) true,.log .u8 5],[(.arr 32 .u8),(.sl .u8)]⟩],Zc (Yr fuel) fuel⟩
theorem ZdU:QB.Ok ya (Zo ya 178) (Zn ya 178 0):=Zl (fi:={ hi:={ own:=[5,7,9,14,19],still:=[4]},lp:=[]}) (specs:={ l:=[]}) (okS trivial) trivial (by kernel_rfl) (fun v=>by kernel_rfl)
def XU (F:Nat) (a0:(List UInt8)) (a1:(List UInt8)):Option ((List UInt8)):=
 if (apB 0 a0.length 1)=true then
  (Zc (Yr F) F ((0:Int),a1,a0)).bind fun o88=>
  some o88.2
 else
 none
def Zgl (F:Nat):Fs ya:=⟨178,[.v (.sl .u8),.v (.arr 32 .u8)],[],[(.sl .u8),(.arr 32 .u8)],[⟨.ret,[(0,.v (.sl .u8))],[],[(.sl .u8)]⟩],fun x=>XU F x.1 x.2⟩
def Q3:Fs ya:=Zgl fuel
theorem Zgm:Q3.Ok:=Zh (fi:={ hi:={ own:=[5,7,9,14,19],still:=[4]},lp:=[(0,QB)]}) (specs:={ l:=[]}) (okS trivial) ⟨ZdU,trivial⟩ (by decide+kernel) (fun x=>by kernel_rfl)
def ZG5:ByteArray:=⟨#[107,105,116]⟩
def Z0 (F:Nat) (a0:(List UInt8)) (a1:UInt8):Option ((List UInt8)):=
 (XU F ([]:List UInt8) a0).bind fun o89=>
 (Vg F ZG5 ([o89,([a1]:List UInt8)]:List (List UInt8))).bind fun o90=>
 some o90
def Zi6 (F:Nat):Fs ya:=⟨107,[.v (.arr 32 .u8),.v .u8],[],[(.arr 32 .u8),.u8],[⟨.ret,[(0,.v (.arr 32 .u8))],[],[(.arr 32 .u8)]⟩],fun x=>Z0 F x.1 x.2⟩
def Zcz:Fs ya:=Zi6 fuel
theorem Zi7:Zcz.Ok:=Zh (fi:={ hi:={ still:=[5,6,10]},lp:=[]}) (specs:={ l:=[Q3,ZdT]}) (okS ⟨Zgm,Zkl,trivial⟩) trivial (by decide+kernel) (fun x=>by kernel_rfl)
abbrev WE:Ty:=(.st [.u64,.u64,.u64,.u64,.u64,(.arr 32 .u8)])
abbrev Kit:Type:=(UInt64×UInt64×UInt64×UInt64×UInt64×(List UInt8))
abbrev Kit.Cond (x:Kit):UInt64:=x.2.2.2.1
def X8 (F:Nat) (a0:(List UInt8)):Option (Kit):=
 (Z0 F a0 (1:UInt8)).bind fun o91=>
 (Yc F o91).bind fun o92=>
 (Z0 F a0 (2:UInt8)).bind fun o93=>
 (Yc F o93).bind fun o94=>
 (Z0 F a0 (3:UInt8)).bind fun o95=>
 (Yc F o95).bind fun o96=>
 (Z0 F a0 (4:UInt8)).bind fun o97=>
 (Yc F o97).bind fun o98=>
 (Z0 F a0 (5:UInt8)).bind fun o99=>
 (Yc F o99).bind fun o100=>
 (Z0 F a0 (6:UInt8)).bind fun o101=>
 some (o92,o94,o96,o98,o100,o101)
def Zkm (F:Nat):Fs ya:=⟨45,[.v (.arr 32 .u8)],[],[(.arr 32 .u8)],[⟨.ret,[(0,.v WE)],[],[WE]⟩],fun x=>X8 F x⟩
def ZdV:Fs ya:=Zkm fuel
theorem Zkn:ZdV.Ok:=Zh (fi:={ hi:={ still:=[3,4,6,7,9,10,12,13,15,16,18]},lp:=[]}) (specs:={ l:=[Zcz,Zcv]}) (okS ⟨Zi7,ZiX,trivial⟩) trivial (by decide+kernel) (fun x=>by kernel_rfl)
def YM (F:Nat) (s:(UInt64×UInt64×UInt64)):Option ((UInt64×UInt64×UInt64)⊕UInt64):=
 if (decide (s.2.1 > 0))=true then
  if ((s.2.1 % 2)==1)=true then
   some (.inl ((s.1+s.1) % 4611686018427377339,s.2.1 / 2,(s.2.2+s.1) % 4611686018427377339))
  else
  some (.inl ((s.1+s.1) % 4611686018427377339,s.2.1 / 2,s.2.2))
 else
 some (.inr s.2.2)
def Q4:Lp:=⟨[(0,.v .u64),(1,.v .u64),(5,.v .u64)],[],[.u64,.u64,.u64],[⟨.exit 0,[(5,.v .u64)],[],[.u64]⟩],Zc (YM fuel) fuel⟩
theorem ZeO:Q4.Ok ya (Zo ya 197) (Zn ya 197 0):=Zl (fi:={ hi:={ still:=[4]},lp:=[]}) (specs:={ l:=[]}) (okS trivial) trivial (by kernel_rfl) (fun v=>by kernel_rfl)
def X9 (F:Nat) (a0:UInt64) (a1:UInt64):Option (UInt64):=
 (Zc (YM F) F (a0,a1,(0:UInt64))).bind fun o102=>
 some o102
def WQ (F:Nat):Fs ya:=⟨197,[.v .u64,.v .u64],[],[.u64,.u64],[⟨.ret,[(0,.v .u64)],[],[.u64]⟩],fun x=>X9 F x.1 x.2⟩
def Zh5:Fs ya:=WQ fuel
theorem Zha:Zh5.Ok:=Zh (fi:={ hi:={ still:=[4]},lp:=[(0,Q4)]}) (specs:={ l:=[]}) (okS trivial) ⟨ZeO,trivial⟩ (by decide+kernel) (fun x=>by kernel_rfl)
end
end Go.Proofs.YtjbbdlffilcaaaaGreat
end
section
namespace Go.Ev
def Pr (r:Nat):Prop:=1 < r∧∀k,0 < k→k < r→Nat.gcd k r=1
theorem php:∀(n:Nat) (f:Nat→Nat),(∀i,i≤n→f i < n)→∃i j,i < j∧j≤n∧f i=f j
 |0,f,h=>absurd (h 0 (yi _)) (Nat.not_lt_zero _)
 |n+1,f,h=>by
  by_cases hc:∃i,i≤n∧f i=f (n+1)
  ·obtain ⟨i,h1,h2⟩:=hc
   exact ⟨i,n+1,by omega,yi _,h2⟩
  have hne:∀i,i≤n→f i≠f (n+1):=fun i hi e=>hc ⟨i,hi,e⟩
  have hv:=h (n+1) (yi _)
  obtain ⟨i,j,h1,h2,h3⟩:=php n (fun i=>if f i > f (n+1) then f i - 1 else f i) (fun i hi=>by
   have a:=h i (by omega)
   have b:=hne i hi
   show (if f i > f (n+1) then f i - 1 else f i) < n
   split <;> omega)
  refine ⟨i,j,h1,by omega, ?_⟩
  have a:=hne i (by omega)
  have b:=hne j (by omega)
  have h3:(if f i > f (n+1) then f i - 1 else f i)=(if f j > f (n+1) then f j - 1 else f j):=h3
  split at h3 <;> split at h3 <;> omega
theorem Zi8 {h a m:Nat} (ha:h ^ a % m=1 % m) (k:Nat):h ^ (a*k) % m=1 % m:=by
 rw [Nat.pow_mul,Nat.pow_mod,ha, ←Nat.pow_mod,Nat.one_pow]
theorem Zye {h a b m:Nat} (ha:h ^ a % m=1 % m) (hb:h ^ b % m=1 % m):h ^ (a % b) % m=1 % m:=by
 have e:a=b*(a / b)+a % b:=(Nat.div_add_mod a b).symm
 rw [e,Nat.pow_add,Nat.mul_mod,Zi8 hb, ←Nat.mul_mod,Nat.one_mul] at ha
 exact ha
theorem ZoN {h m:Nat} (a b:Nat) (ha:h ^ a % m=1 % m) (hb:h ^ b % m=1 % m):h ^ (Nat.gcd a b) % m=1 % m:=by
 induction a,b using Nat.gcd.induction with
 |H0 n=>rw [Nat.gcd_zero_left];exact hb
 |H1 a b h0 ih=>
  rw [Nat.gcd_rec]
  exact ih (Zye hb ha) ha
theorem ZER {h r m i j:Nat} (hr:h ^ r % m=1 % m) (hi:i < j) (hj:j < r) (e:h ^ i % m=h ^ j % m):h ^ (j - i) % m=1 % m:=by
 have h1:h ^ i*h ^ (r - i)=h ^ r:=by rw [←Nat.pow_add];congr 1;omega
 have h2:h ^ j*h ^ (r - i)=h ^ (j - i)*h ^ r:=by rw [←Nat.pow_add, ←Nat.pow_add];congr 1;omega
 have h3:h ^ j*h ^ (r - i) % m=1 % m:=by rw [Nat.mul_mod, ←e, ←Nat.mul_mod,h1,hr]
 rw [h2,Nat.mul_mod,hr, ←Nat.mul_mod,Nat.mul_one] at h3
 exact h3
theorem Zz7 {h r m i:Nat} (hm:1 < m) (hr:h ^ r % m=1 % m) (hi:i≤r):h ^ i % m≠0:=by
 intro e
 have h1:h ^ i*h ^ (r - i)=h ^ r:=by rw [←Nat.pow_add];congr 1;omega
 rw [←h1,Nat.mul_mod,e,Nat.zero_mul,Nat.zero_mod,yah hm] at hr
 omega
theorem Zz8 {h r c:Nat} (hr:Pr r) (hc:1 < c) (h1:h ^ r % c=1 % c) (h2:h % c≠1 % c):r < c:=by
 rcases ybr r c with k|k
 ·exact k
 exfalso
 obtain ⟨i,j,a,b,e⟩:=php (c - 1) (fun i=>h ^ i % c - 1) (fun i hi=>by
  have:=yav (h ^ i) (show c > 0 by omega)
  have:=Zz7 hc h1 (i:=i) (by omega)
  show h ^ i % c - 1 < c - 1
  omega)
 have q1:=Zz7 hc h1 (i:=i) (by omega)
 have q2:=Zz7 hc h1 (i:=j) (by omega)
 have e:h ^ i % c - 1=h ^ j % c - 1:=e
 have h3:=ZER h1 a (by omega) (show h ^ i % c=h ^ j % c by omega)
 have h4:=ZoN _ _ h3 h1
 rw [hr.2 (j - i) (by omega) (by omega),Nat.pow_one] at h4
 exact h2 h4
theorem ZBn {n r:Nat} (h:Nat) (hr:Pr r) (hn:1 < n) (hs:n≤r*r) (h1:h ^ r % n=1 % n) (h0:0 < h) (h2:Nat.gcd (h - 1) n=1):Pr n:=by
 refine ⟨hn,fun k k0 kn=> ?_⟩
 have dn:Nat.gcd k n ∣ n:=Nat.gcd_dvd_right k n
 have dk:Nat.gcd k n ∣ k:=Nat.gcd_dvd_left k n
 have d0:0 < Nat.gcd k n:=Nat.gcd_pos_of_pos_left _ k0
 have dl:Nat.gcd k n≤k:=Nat.le_of_dvd k0 dk
 generalize Nat.gcd k n=d at*
 by_cases d1:d=1
 ·exact d1
 exfalso
 have great:∀c,1 < c→c ∣ n→r < c:=fun c c1 cn=>by
  refine Zz8 (h:=h) hr c1 ?_ fun e=> ?_
  ·obtain ⟨q,rfl⟩:=cn
   have:=congrArg (· % c) h1
   simp only [Nat.mod_mul_right_mod] at this
   exact this
  ·have k1:c ∣ h - 1:=Nat.dvd_of_mod_eq_zero (Nat.sub_mod_eq_zero_of_mod_eq e)
   have:=Nat.dvd_gcd k1 cn
   rw [h2] at this
   have:=Nat.le_of_dvd (by omega) this
   omega
 obtain ⟨e,rfl⟩:=dn
 have e1:1 < e:=by
  rcases ybr 1 e with h|h
  ·exact h
  ·have:d*e≤d*1:=Nat.mul_le_mul_left _ h
   omega
 have a:=great d (by omega) (Nat.dvd_mul_right ..)
 have b:=great e e1 (Nat.dvd_mul_left ..)
 have:=Nat.mul_le_mul (show r+1≤d from a) (show r+1≤e from b)
 rw [yan,Nat.mul_add] at this
 omega
def ZBo (n:Nat):Nat→Bool
 |0=>true
 |k+1=>(decide (k < 1) || !(n % (k+1)==0))&&ZBo n k
theorem Zrx {n:Nat}:∀{k:Nat},ZBo n k=true→∀d,1 < d→d≤k→¬d ∣ n
 |0,_,d,h1,h2=>by omega
 |k+1,h,d,h1,h2=>by
  simp only [ZBo,yg,Bool.or_eq_true,decide_eq_true_eq,Bool.not_eq_true',beq_eq_false_iff_ne] at h
  rcases ybr d (k+1) with c|c
  ·exact Zrx h.2 d h1 (by omega)
  ·have:d=k+1:=by omega
   subst this
   rcases h.1 with h|h
   ·omega
   ·intro q
    exact h (Nat.mod_eq_zero_of_dvd q)
theorem ZES {n s:Nat} (hn:1 < n) (hs:n < (s+1)*(s+1)) (h:ZBo n s=true):Pr n:=by
 refine ⟨hn,fun k k0 kn=> ?_⟩
 have dn:Nat.gcd k n ∣ n:=Nat.gcd_dvd_right k n
 have d0:0 < Nat.gcd k n:=Nat.gcd_pos_of_pos_left _ k0
 have dl:Nat.gcd k n≤k:=Nat.le_of_dvd k0 (Nat.gcd_dvd_left k n)
 generalize Nat.gcd k n=d at*
 by_cases d1:d=1
 ·exact d1
 exfalso
 obtain ⟨e,rfl⟩:=dn
 have e1:1 < e:=by
  rcases ybr 1 e with h|h
  ·exact h
  ·have:d*e≤d*1:=Nat.mul_le_mul_left _ h
   omega
 rcases ybr s d with a|a
 ·rcases ybr s e with b|b
  ·have:=Nat.mul_le_mul (show s+1≤d from a) (show s+1≤e from b)
   omega
  ·exact Zrx h e e1 b (Nat.dvd_mul_left ..)
 ·exact Zrx h d (by omega) a (Nat.dvd_mul_right ..)
def pwm (m:Nat):Nat→Nat→Nat→Nat→Nat
 |0,_,_,o=>o
 |f+1,a,n,o=>if n=0 then o else pwm m f (a*a % m) (n / 2) (if n % 2=1 then o*a % m else o)
theorem Zv3 {m:Nat}:∀(k a n o:Nat),n < 2 ^ k→pwm m k a n o % m=o*a ^ n % m
 |0,a,n,o,h=>by
  have:n=0:=by rw [Nat.pow_zero] at h;omega
  subst this
  rw [pwm,Nat.pow_zero,Nat.mul_one]
 |k+1,a,n,o,h=>by
  rw [pwm]
  by_cases h0:n=0
  ·rw [if_pos h0,h0,Nat.pow_zero,Nat.mul_one]
  rw [if_neg h0,Zv3 k _ _ _ (by rw [Nat.pow_succ] at h;omega)]
  have e:a ^ n=(a*a) ^ (n / 2)*a ^ (n % 2):=by
   rw [←Nat.pow_two, ←Nat.pow_mul, ←Nat.pow_add]
   congr 1
   omega
  have e2:(a*a % m) ^ (n / 2) % m=(a*a) ^ (n / 2) % m:=(Nat.pow_mod ..).symm
  rw [e]
  split
  ·rename_i h1
   rw [h1,Nat.pow_one,Nat.mul_mod,e2, ←Nat.mul_mod,Nat.mul_mod,Nat.mod_mod, ←Nat.mul_mod]
   congr 1
   rw [Nat.mul_assoc,ybm a]
  ·rename_i h1
   have:n % 2=0:=by omega
   rw [this,Nat.pow_zero,Nat.mul_one,Nat.mul_mod,e2, ←Nat.mul_mod]
theorem Zry {m a n z:Nat} (k:Nat) (h:n < 2 ^ k) (e:pwm m k a n 1 % m=z):a ^ n % m=z:=by
 have:=Zv3 (m:=m) k a n 1 h
 rw [Nat.one_mul] at this
 rw [←this,e]
def pc0:Nat:=7930907
def pc1:Nat:=11864636873
def pc2:Nat:=1732236983459
def pc3:Nat:=249442125618097
def ord:Nat:=2305843009213688669
def mdl:Nat:=4611686018427377339
theorem pr0:Pr pc0:=ZES (s:=2816) (by decide) (by decide) (by decide+kernel)
theorem pr1:Pr pc1:=ZBn 409113128 pr0 (by decide) (by decide) (Zry 23 (by decide) (by decide+kernel)) (by decide) (by decide+kernel)
theorem pr2:Pr pc2:=ZBn 353522539148 pr1 (by decide) (by decide) (Zry 34 (by decide) (by decide+kernel)) (by decide) (by decide+kernel)
theorem pr3:Pr pc3:=ZBn 117107719143424 pr2 (by decide) (by decide) (Zry 41 (by decide) (by decide+kernel)) (by decide) (by decide+kernel)
theorem pr4:Pr ord:=ZBn 732368710688439132 pr3 (by decide) (by decide) (Zry 48 (by decide) (by decide+kernel)) (by decide) (by decide+kernel)
def VX (a:Nat):Prop:=0 < a∧a < mdl∧a ^ ord % mdl=1
theorem ZG6 {a:Nat} (h:a < mdl) (e:a ^ ord % mdl=1):VX a:=by
 refine ⟨?_,h,e⟩
 rcases ybw a with h0|h0
 ·subst h0
  rw [Nat.zero_pow (by decide)] at e
  cases e
 ·exact h0
theorem ZIj:VX 1:=⟨by decide,by decide,by rw [Nat.one_pow];decide⟩
theorem ZET:VX 4:=⟨by decide,by decide,Zry 61 (by decide) (by decide+kernel)⟩
theorem ZIk {a b:Nat} (ha:VX a) (hb:VX b):VX (a*b % mdl):=by
 refine ZG6 (yav _ (by decide)) ?_
 rw [←Nat.pow_mod,Nat.mul_pow,Nat.mul_mod,ha.2.2,hb.2.2]
 decide
theorem ZIl {a:Nat} (ha:VX a) (n:Nat):VX (a ^ n % mdl):=by
 refine ZG6 (yav _ (by decide)) ?_
 rw [←Nat.pow_mod, ←Nat.pow_mul,ybm]
 exact Zi8 (m:=mdl) ha.2.2 n
theorem ZGH {a:Nat} (ha:VX a) (n:Nat):a ^ (n % ord) % mdl=a ^ n % mdl:=by
 have e:n=ord*(n / ord)+n % ord:=(Nat.div_add_mod n _).symm
 have h:=Zi8 (m:=mdl) (k:=n / ord) ha.2.2
 conv=>rhs;rw [e]
 rw [Nat.pow_add,Nat.mul_mod,h, ←Nat.mul_mod,Nat.one_mul]
theorem ZIm {k:Nat} (h0:0 < k) (h1:k < ord):4 ^ k % mdl≠1:=by
 intro e
 have:=ZoN (h:=4) (m:=mdl) k _ e ZET.2.2
 rw [pr4.2 k h0 h1] at this
 revert this
 decide
end Go.Ev
end
section
set_option maxRecDepth 4000
namespace Go.Proofs.YtjbbdlffilcaaaaGreat
open Go Go.Ev
theorem ZnN {z:Nat}:(yag (z % 4611686018427377339)).toNat=z % 4611686018427377339:=by
 rw [ybd,yah]
 exact Nat.lt_trans (yav _ (by decide)) (by decide)
theorem ZEU {a b:UInt64} (ha:a.toNat < 4611686018427377339) (hb:b.toNat < 4611686018427377339):((a+b) % 4611686018427377339).toNat=(a.toNat+b.toNat) % 4611686018427377339:=by
 rw [UInt64.toNat_mod,UInt64.toNat_add,show (4611686018427377339:UInt64).toNat=4611686018427377339 from rfl,yah (a:=a.toNat+b.toNat) (by omega)]
theorem Zi9:∀(k m:Nat) (A B O:UInt64),A.toNat < 4611686018427377339→O.toNat < 4611686018427377339→B.toNat < 2 ^ k→k < m→
 Zc (YM fuel) m (A,B,O)=some (yag ((O.toNat+A.toNat*B.toNat) % 4611686018427377339))
 |k,0,_,_,_,_,_,_,h=>by omega
 |0,m+1,A,B,O,hA,hO,h,_=>by
  have h0:B.toNat=0:=by rw [Nat.pow_zero] at h;omega
  have hn:¬B > 0:=by
   intro h2
   have h3:0 < B.toNat:=ybq.1 h2
   omega
  have hs:YM fuel (A,B,O)=if decide (B > 0)=true then (if ((B % 2)==1)=true then some (.inl ((A+A) % 4611686018427377339,B / 2,(O+A) % 4611686018427377339)) else some (.inl ((A+A) % 4611686018427377339,B / 2,O))) else some (.inr O):=rfl
  unfold Zc
  rw [hs]
  rw [if_neg (by rw [decide_eq_true_iff];exact hn),yb,h0,Nat.mul_zero,Nat.add_zero,yah hO,UInt64.ofNat_toNat]
 |k+1,m+1,A,B,O,hA,hO,h,hm=>by
  have hs:YM fuel (A,B,O)=if decide (B > 0)=true then (if ((B % 2)==1)=true then some (.inl ((A+A) % 4611686018427377339,B / 2,(O+A) % 4611686018427377339)) else some (.inl ((A+A) % 4611686018427377339,B / 2,O))) else some (.inr O):=rfl
  unfold Zc
  rw [hs]
  by_cases h2:B > 0
  ·have h3:0 < B.toNat:=ybq.1 h2
   have hsh:(B / 2).toNat=B.toNat / 2:=by rw [UInt64.toNat_div];rfl
   have hlt:(B / 2).toNat < 2 ^ k:=by
    rw [hsh]
    rw [Nat.pow_succ] at h
    omega
   have hand:((B % 2)==1)=decide (B.toNat % 2=1):=by
    rw [Bool.eq_iff_iff,beq_iff_eq,decide_eq_true_iff, ←UInt64.toNat_inj,UInt64.toNat_mod]
    rfl
   have hA2:=ZEU hA hA
   have hAl:((A+A) % 4611686018427377339).toNat < 4611686018427377339:=by rw [hA2];exact yav _ (by decide)
   have hB:B.toNat=2*(B.toNat / 2)+B.toNat % 2:=by omega
   rw [if_pos (decide_eq_true h2),hand]
   by_cases h4:B.toNat % 2=1
   ·have hO2:=ZEU hO hA
    have hOl:((O+A) % 4611686018427377339).toNat < 4611686018427377339:=by rw [hO2];exact yav _ (by decide)
    rw [if_pos (decide_eq_true h4),yb]
    dsimp only
    rw [Zi9 k m _ _ _ hAl hOl hlt (by omega),hA2,hO2,hsh]
    congr 2
    rw [Nat.add_mod,Nat.mod_mod,Nat.mod_mul_mod, ←Nat.add_mod]
    congr 1
    conv=>rhs;rw [hB,h4,Nat.mul_add,Nat.mul_one, ←Nat.mul_assoc]
    rw [Nat.mul_two]
    omega
   ·rw [if_neg (by rw [decide_eq_true_iff];exact h4),yb]
    dsimp only
    rw [Zi9 k m _ _ _ hAl hO hlt (by omega),hA2,hsh]
    congr 2
    rw [Nat.add_mod,Nat.mod_mul_mod, ←Nat.add_mod]
    congr 1
    conv=>rhs;rw [hB,show B.toNat % 2=0 by omega,Nat.add_zero, ←Nat.mul_assoc]
    rw [Nat.mul_two]
  ·have h3:B.toNat=0:=by
    rcases ybw B.toNat with h5|h5
    ·exact h5
    ·exact absurd (show (0:UInt64) < B from ybq.2 h5) h2
   rw [if_neg (by rw [decide_eq_true_iff];exact h2),yb,h3,Nat.mul_zero,Nat.add_zero,yah hO,UInt64.ofNat_toNat]
noncomputable def Zu (F:Nat) (a0:UInt64) (a1:UInt64):Option UInt64:=if decide (a0.toNat < 4611686018427377339)=true then some (yag (a0.toNat*a1.toNat % 4611686018427377339)) else X9 F a0 a1
theorem ZCI (a b:UInt64):X9 fuel a b=Zu fuel a b:=by
 unfold Zu
 split
 ·rename_i h
  unfold X9
  rw [Zi9 64 fuel a b 0 (of_decide_eq_true h) (by decide) (ybi _) (by rw [Zc0];omega),yb,show (0:UInt64).toNat=0 from rfl,yax]
 ·rfl
noncomputable def Zh6 (F:Nat):Fs ya:={ WQ F with M:=fun x=>Zu F x.1 x.2}
noncomputable def ZbQ:Fs ya:=Zh6 fuel
theorem Zh7:ZbQ.Ok:=ZlA (s:=WQ fuel) Zha fun x=>(ZCI x.1 x.2).symm
end Go.Proofs.YtjbbdlffilcaaaaGreat
end
section
set_option maxRecDepth 4000
namespace Go.Proofs.YtjbbdlffilcaaaaGreat
open Go Go.Ev
noncomputable section
def YN (F:Nat) (s:(UInt64×UInt64×UInt64)):Option ((UInt64×UInt64×UInt64)⊕UInt64):=
 if (decide (s.2.1 > 0))=true then
  if ((s.2.1 % 2)==1)=true then
   (Zu F s.2.2 s.1).bind fun o103=>
   (Zu F s.1 s.1).bind fun o104=>
   some (.inl (o104,s.2.1 / 2,o103))
  else
  (Zu F s.1 s.1).bind fun o105=>
  some (.inl (o105,s.2.1 / 2,s.2.2))
 else
 some (.inr s.2.2)
def Q5:Lp:=⟨[(0,.v .u64),(1,.v .u64),(5,.v .u64)],[],[.u64,.u64,.u64],[⟨.exit 0,[(5,.v .u64)],[],[.u64]⟩],Zc (YN fuel) fuel⟩
theorem ZeP:Q5.Ok ya (Zo ya 156) (Zn ya 156 0):=Zl (fi:={ hi:={ still:=[4,11,12,14,15]},lp:=[]}) (specs:={ l:=[ZbQ]}) (okS ⟨Zh7,trivial⟩) trivial (by kernel_rfl) (fun v=>by kernel_rfl)
def Wa (F:Nat) (a0:UInt64) (a1:UInt64):Option (UInt64):=
 (Zc (YN F) F (a0,a1,(1:UInt64))).bind fun o106=>
 some o106
def WR (F:Nat):Fs ya:=⟨156,[.v .u64,.v .u64],[],[.u64,.u64],[⟨.ret,[(0,.v .u64)],[],[.u64]⟩],fun x=>Wa F x.1 x.2⟩
def Zh8:Fs ya:=WR fuel
theorem Zhb:Zh8.Ok:=Zh (fi:={ hi:={ still:=[4,11,12,14,15]},lp:=[(0,Q5)]}) (specs:={ l:=[]}) (okS trivial) ⟨ZeP,trivial⟩ (by decide+kernel) (fun x=>by kernel_rfl)
end
end Go.Proofs.YtjbbdlffilcaaaaGreat
end
section
set_option maxRecDepth 4000
namespace Go.Proofs.YtjbbdlffilcaaaaGreat
open Go Go.Ev
theorem ZnO:∀(k m:Nat) (A N O:UInt64),A.toNat < 4611686018427377339→O.toNat < 4611686018427377339→N.toNat < 2 ^ k→k < m→Zc (YN fuel) m (A,N,O)=some (yag (pwm 4611686018427377339 k A.toNat N.toNat O.toNat))
 |k,0,_,_,_,_,_,_,h=>by omega
 |0,m+1,A,N,O,hA,hO,h,_=>by
  have hn:¬N > 0:=by
   intro h2
   have h3:0 < N.toNat:=ybq.1 h2
   rw [Nat.pow_zero] at h
   omega
  have hs:YN fuel (A,N,O)=if decide (N > 0)=true then (if ((N % 2)==1)=true then (Zu fuel O A).bind fun o1=>(Zu fuel A A).bind fun o2=>some (.inl (o2,N / 2,o1)) else (Zu fuel A A).bind fun o2=>some (.inl (o2,N / 2,O))) else some (.inr O):=rfl
  unfold Zc
  rw [hs]
  rw [if_neg (by rw [decide_eq_true_iff];exact hn),yb,pwm,UInt64.ofNat_toNat]
 |k+1,m+1,A,N,O,hA,hO,h,hm=>by
  have hs:YN fuel (A,N,O)=if decide (N > 0)=true then (if ((N % 2)==1)=true then (Zu fuel O A).bind fun o1=>(Zu fuel A A).bind fun o2=>some (.inl (o2,N / 2,o1)) else (Zu fuel A A).bind fun o2=>some (.inl (o2,N / 2,O))) else some (.inr O):=rfl
  unfold Zc
  rw [hs]
  by_cases h2:N > 0
  ·have hp:0 < N.toNat→pwm 4611686018427377339 (k+1) A.toNat N.toNat O.toNat=pwm 4611686018427377339 k (A.toNat*A.toNat % 4611686018427377339) (N.toNat / 2) (if N.toNat % 2=1 then O.toNat*A.toNat % 4611686018427377339 else O.toNat):=fun h=>by
    rw [pwm,if_neg (by omega)]
   have h3:0 < N.toNat:=ybq.1 h2
   have hsh:(N / 2).toNat=N.toNat / 2:=by rw [UInt64.toNat_div];rfl
   have hlt:(N / 2).toNat < 2 ^ k:=by
    rw [hsh]
    rw [Nat.pow_succ] at h
    omega
   have hand:((N % 2)==1)=decide (N.toNat % 2=1):=by
    rw [Bool.eq_iff_iff,beq_iff_eq,decide_eq_true_iff, ←UInt64.toNat_inj,UInt64.toNat_mod]
    rfl
   have ml:∀z:Nat,z % 4611686018427377339 < 4611686018427377339:=fun z=>yav _ (by decide)
   have e1:Zu fuel A A=some (yag (A.toNat*A.toNat % 4611686018427377339)):=by
    unfold Zu
    rw [if_pos (decide_eq_true hA)]
   have e2:Zu fuel O A=some (yag (O.toNat*A.toNat % 4611686018427377339)):=by
    unfold Zu
    rw [if_pos (decide_eq_true hO)]
   rw [if_pos (decide_eq_true h2),hand,hp h3,e1,e2]
   by_cases h4:N.toNat % 2=1
   ·rw [if_pos (decide_eq_true h4),if_pos h4,yb,yb,yb]
    dsimp only
    rw [ZnO k m _ _ _ (by rw [ZnN];exact ml _) (by rw [ZnN];exact ml _) hlt (by omega),ZnN,ZnN,hsh]
   ·rw [if_neg (by rw [decide_eq_true_iff];exact h4),if_neg h4,yb,yb]
    dsimp only
    rw [ZnO k m _ _ _ (by rw [ZnN];exact ml _) hO hlt (by omega),ZnN,hsh]
  ·have h3:N.toNat=0:=by
    rcases ybw N.toNat with h5|h5
    ·exact h5
    ·exact absurd (show (0:UInt64) < N from ybq.2 h5) h2
   rw [if_neg (by rw [decide_eq_true_iff];exact h2),yb,pwm,if_pos h3,UInt64.ofNat_toNat]
noncomputable def Yl (F:Nat) (a0:UInt64) (a1:UInt64):Option UInt64:=if decide (a0.toNat < 4611686018427377339)=true then some (yag (pwm 4611686018427377339 64 a0.toNat a1.toNat 1)) else Wa F a0 a1
theorem ZCJ (a n:UInt64):Wa fuel a n=Yl fuel a n:=by
 unfold Yl
 split
 ·rename_i h
  unfold Wa
  rw [ZnO 64 fuel a n 1 (of_decide_eq_true h) (by decide) (ybi _) (by rw [Zc0];omega),yb]
  rfl
 ·rfl
noncomputable def Zh9 (F:Nat):Fs ya:={ WR F with M:=fun x=>Yl F x.1 x.2}
noncomputable def VB:Fs ya:=Zh9 fuel
theorem ZaD:VB.Ok:=ZlA (s:=WR fuel) Zhb fun x=>(ZCJ x.1 x.2).symm
end Go.Proofs.YtjbbdlffilcaaaaGreat
end
