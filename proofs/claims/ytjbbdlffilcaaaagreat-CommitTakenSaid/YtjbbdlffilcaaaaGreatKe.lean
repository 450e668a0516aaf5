/- Parts of the proof, in one file. -/
import Derived.Test.YtjbbdlffilcaaaaGreatKd
open Bool renaming and_eq_true → yg
open Go.Proofs.Tryz renaming prog → yb
open Int renaming toNat_natCast → yba
open List renaming length_append → yj, getElem?_eq_some_iff → yl, range → yo, length_map → yp, replicate → yr, getElem?_eq_getElem → yw, getElem?_map → yx, append_assoc → yz, map_cons → yab, length_cons → yad, mem_singleton → yae, map_append → yaf, getElem?_append_left → yaj, mem_cons_self → yak, mem_cons_of_mem → yal, getElem?_append_right → yam, getElem?_eq_none → yan, map_map → yap, mem_cons → yax, getElem?_cons_succ → yay, take_append_drop → ybg, append_nil → ybh, not_mem_nil → ybs, length_drop → ybt, getElem?_cons_zero → ybu, map_take → yca, map_congr_left → ycd, getElem?_set_self → ycf, mem_append → yck, length_replicate → ycl, getD_eq_getElem?_getD → ycu
open Nat renaming le_refl → yi, add → ym, shiftRight → yaa, mod_eq_of_lt → yac, mod_lt → yaq, add_mul → yas, zero_add → ybb, mul_mod → ybi, mul_comm → ybj, pow_add → ybq, eq_zero_or_pos → ybr, lt_or_ge → ybz, add_assoc → ycc, two_pow_add_eq_or_of_lt → ycx, shiftRight_eq_div_pow → ycy
open Option renaming bind_some → ya, bind_eq_some_iff → yc, map_some → yy
open Option.some renaming inj → ybp
open UInt32 renaming toNat → yai, ofNat → ybl, toNat_ofNat' → ycj
open UInt64 renaming ofNat → yv, toNat_ofNat' → yav, toNat_lt → ybo, lt_iff_toNat_lt → yby
open UInt8 renaming toNat → yah, ofNat → yaz
set_option linter.unusedVariables false
set_option linter.unusedSimpArgs false
section
namespace Go.Ev
section
variable {P:Program}
theorem Zy2 {x y:Code} {ts ts1 ts2:List Dv} {H H1 H2:List Ent} {ex:Ex} (r1:Wu P x ts H .normal ts1 H1) (r2:Wu P y ts1 H1 ex ts2 H2):Wu P (.seq x y) ts H ex ts2 H2:=by
 intro σ a ok hH hrep
 refine wp_seq (wp_mono (r1 σ a ok hH hrep) ?_)
 rintro e a' w' ⟨rfl,σ1,rfl,e1,to1,ok1,hrep1⟩
 refine wp_mono (r2 σ1 a' ok1 e1 hrep1) ?_
 rintro e a'' w'' ⟨rfl,σ2,rfl,e2,to2,ok2,hrep2⟩
 exact ⟨rfl,σ2,rfl,e2,to1.trans to2,ok2,hrep2⟩
theorem Zvu {x y:Code} {ts ts1:List Dv} {H H1:List Ent} {ex:Ex} (hne:ex≠ .normal) (r1:Wu P x ts H ex ts1 H1):Wu P (.seq x y) ts H ex ts1 H1:=by
 intro σ a ok hH hrep
 refine wp_seq (wp_mono (r1 σ a ok hH hrep) ?_)
 rintro e a' w' ⟨rfl,hq⟩
 cases ex with
 |normal=>exact absurd rfl hne
 |exit id=>exact ⟨rfl,hq⟩
 |ret=>exact ⟨rfl,hq⟩
theorem ZlF {c:Operand} {x y:Code} {ts ts1:List Dv} {H H1:List Ent} {ex:Ex} {b:Bool} (hc:Zw P ts 0 c=.p (.bool b)) (r1:Wu P (if b then x else y) ts H ex ts1 H1):Wu P (.cond c x y) ts H ex ts1 H1:=by
 intro σ a ok hH hrep
 have hv:=Zn (P:=P) hrep 0 c
 rw [hc] at hv
 cases b
 ·exact wp_cond_false (YG hv) (r1 σ a ok hH hrep)
 ·exact wp_cond_true (YG hv) (r1 σ a ok hH hrep)
def Zw6 (id:Nat):Ex→Ex
 |.exit i=>if i=id then .normal else .exit i
 |ex=>ex
theorem ZAO {id:Nat} {body:Code} {ts ts1:List Dv} {H H1:List Ent} {ex:Ex} (r1:Wu P body ts H ex ts1 H1):Wu P (.block id body) ts H (Zw6 id ex) ts1 H1:=by
 intro σ a ok hH hrep
 refine wp_block (wp_mono (r1 σ a ok hH hrep) ?_)
 rintro e a' w' ⟨rfl,hq⟩
 cases ex with
 |normal=>exact ⟨rfl,hq⟩
 |exit id'=>
  simp only [Ex.to,Exit.inBlock,Zw6]
  split
  ·exact ⟨rfl,hq⟩
  ·exact ⟨rfl,hq⟩
 |ret=>exact ⟨rfl,hq⟩
theorem ZAP {body:Code} {ts ts1:List Dv} {H H1:List Ent} {ex:Ex} (r1:Wu P body ts H ex ts1 H1):Wu P (.scope body) ts H ex ts1 H1:=by
 intro σ a ok hH hrep
 refine wp_scope_straight (wp_mono (r1 σ a ok hH hrep) ?_)
 rintro e a' w' ⟨rfl,hq⟩
 cases ex <;> exact ⟨rfl,hq⟩
theorem ZDp {ts:List Dv} {H:List Ent}:Wu P .skip ts H .normal ts H:=fun σ a ok hH hrep=>wp_skip ⟨rfl,σ,rfl,hH,To.refl σ,ok,hrep⟩
theorem ZAQ {n:Nat} {ts:List Dv} {H:List Ent}:Wu P (.label n) ts H .normal ts H:=fun σ a ok hH hrep=>wp_label ⟨rfl,σ,rfl,hH,To.refl σ,ok,hrep⟩
theorem ZDq {n:Nat} {ts:List Dv} {H:List Ent}:Wu P (.exit n) ts H (.exit n) ts H:=fun σ a ok hH hrep=>wp_exit ⟨rfl,σ,rfl,hH,To.refl σ,ok,hrep⟩
theorem ZFa {ts:List Dv} {H:List Ent}:Wu P .ret ts H .ret ts H:=fun σ a ok hH hrep=>wp_ret ⟨rfl,σ,rfl,hH,To.refl σ,ok,hrep⟩
theorem ZDr {c:Code} {ts ts1:List Dv} {H H1:List Ent} {ex:Ex} (keep:List Nat) (r:Wu P c ts H ex ts1 H1):Wu P c ts H ex (ZK keep 0 ts1) H1:=by
 intro σ a ok hH hrep
 refine wp_mono (r σ a ok hH hrep) ?_
 rintro e a' w' ⟨rfl,σ1,rfl,e1,to1,ok1,hrep1⟩
 exact ⟨rfl,σ1,rfl,e1,to1,ok1,ZaV keep hrep1⟩
def Zy3 (n0:Nat) (sl:Slots) (es:List ESh) (a:List TD) (h:List TEnt):Option (List TV):=
 if once (yo n0++[]) then (WN h (yo n0++[]) (yo n0++[])).bind fun h2=>(TD.rns (toIds (yo n0++[])) (Zja (sl.map (·.1)) 0 a)).bind fun a2=>
  (Sh.mts (lk h2) (shs sl a.length) a2).bind fun q=>(ESh.mts (lk h2) es h2).bind fun w=>some (q.2++w.2)
 else none
theorem ZAR {n0:Nat} {sl:Slots} {es:List ESh} {a:List TD} {h:List TEnt} {vs:List TV} (k:Zy3 n0 sl es a h=some vs):
 ∃a3 h3,Q6 a.length sl es vs=some (a3,h3)∧∀{c:Code} {ts:List Dv} {H:List Ent} {ex:Ex},H.length=n0→Wu P c ts H ex (TD.ers (lk h) a) (erH h)→Wu P c ts H ex (TD.ers (lk h3) a3) (erH h3):=by
 unfold Zy3 at k
 split at k
 ·rename_i ho
  obtain ⟨h2,h1,k⟩:=yc.1 k
  obtain ⟨a2,e2,k⟩:=yc.1 k
  obtain ⟨q,e3,k⟩:=yc.1 k
  obtain ⟨w,e4,k⟩:=yc.1 k
  cases k
  obtain ⟨g1,g2⟩:=ZhF e4
  have hc:∀id t,Z2 (lk h2) id t none=Z2 (lk w.1) id t none:=fun id t=>by rw [g2]
  refine ⟨q.1,w.1, ?_,fun {c ts H ex} hl r=> ?_⟩
  ·unfold Q6
   rw [mts_fills _ _ _ e3]
   have:=Zcb e4 []
   rw [ybh] at this
   rw [ya,this]
   rfl
  ·have r1:=ZDr (sl.map (·.1)) r
   rw [←Zoc] at r1
   have r2:=ZC2 [] [] r1 (by rw [hl];exact ho) (by rw [hl];exact WO (Za4 h1) h1) (by rw [hl];exact rns_er (Za4 h1) _ _ e2)
   exact Zve r2 (mts_wk hc _ _ _ e3) (ZlB hc e4)
 ·cases k
theorem ZAS {n0:Nat} {sl:Slots} {es:List ESh} {a:List TD} {h:List TEnt} {vs:List TV} (hn:h.length=n0) (k:Zy3 n0 sl es a h=some vs):
 ∃a3 h3,Q6 a.length sl es vs=some (a3,h3)∧∀(σ:Sg) (act:Act),Ok σ→σ.H=erH h→RepT σ (TD.ers (lk h) a) act→∃σ':Sg,σ'.w=σ.w∧σ'.H=erH h3∧To σ σ'∧Ok σ'∧RepT σ' (TD.ers (lk h3) a3) act:=by
 subst hn
 unfold Zy3 at k
 split at k
 ·rename_i ho
  obtain ⟨h2,h1,k⟩:=yc.1 k
  obtain ⟨a2,e2,k⟩:=yc.1 k
  obtain ⟨q,e3,k⟩:=yc.1 k
  obtain ⟨w,e4,k⟩:=yc.1 k
  cases k
  obtain ⟨g1,g2⟩:=ZhF e4
  have hc:∀id t,Z2 (lk h2) id t none=Z2 (lk w.1) id t none:=fun id t=>by rw [g2]
  refine ⟨q.1,w.1, ?_,fun σ act ok hH hrep=> ?_⟩
  ·unfold Q6
   rw [mts_fills _ _ _ e3]
   have:=Zcb e4 []
   rw [ybh] at this
   rw [ya,this]
   rfl
  ·have r1:=ZaV (sl.map (·.1)) hrep
   rw [←Zoc] at r1
   have hin:subEnts σ.H (yo σ.H.length++[]) (yo σ.H.length++[])=some (erH h2):=by
    rw [hH,ZM]
    exact WO (Za4 h1) h1
   have ho':once (yo σ.H.length++[])=true:=by rw [hH,ZM];exact ho
   have e2':Dv.rns (toIds (yo σ.H.length++[])) (TD.ers (lk h) (Zja (sl.map (·.1)) 0 a))=some (TD.ers (lk h2) a2):=by
    rw [hH,ZM]
    exact rns_er (Za4 h1) _ _ e2
   have r2:=Zyd (Zio hin) e2' r1
   have to1:=Zrf ok (To.refl σ) ho' hin
   have ok1:=Zre ok ho' hin
   obtain ⟨to2,ok2⟩:=ZnJ (σ:=Zmk σ (yo σ.H.length++[]) (erH h2)) ok1 (H':=erH w.1) (ZlB hc e4)
   exact ⟨{ Zmk σ (yo σ.H.length++[]) (erH h2) with H:=erH w.1},rfl,rfl,to1.trans to2,ok2,(mts_wk hc _ _ _ e3).repT (r2.to to2.leaf)⟩
 ·cases k
def ZIC (L:Lk):ESh→TEnt→Option TEnt
 |.rowN _ _ _ _,.rowM u np v st e pre mid post=>(ZIs L u mid).map fun y=>.rowN u np v st e (pre++[y]) post
 |_,x=>some x
def ZFb (L:Lk):List ESh→List TEnt→Option (List TEnt)
 |[],h=>some h
 |_::_,[]=>some []
 |s::r,x::h=>match ZIC L s x,ZFb L r h with
  |some y,some ys=>some (y::ys)
  |_,_=>none
theorem ZG7 {L:Lk} {s:ESh} {x y:TEnt} (h:ZIC L s x=some y):lkE (some y)=lkE (some x)∧WkE (x.er L) (y.er L):=by
 unfold ZIC at h
 split at h
 ·rename_i u np v st e pre mid post
  obtain ⟨c,h1,rfl⟩:=Zc h
  refine ⟨?_,ZBP (ZBM h1)⟩
  simp only [lkE,yj,yad,List.length_nil]
  rw [ycc,Nat.add_comm (0+1)]
 ·cases h
  exact ⟨rfl,.refl _⟩
theorem ZBY {L:Lk}:∀{es:List ESh} {h h':List TEnt},ZFb L es h=some h'→h'.length=h.length∧(∀j:Nat,lkE (h'[j]?)=lkE (h[j]?))∧WkH (h.map (TEnt.er L)) (h'.map (TEnt.er L))
 |[],h,h',k=>by cases k;exact ⟨rfl,fun _=>rfl,WkH.refl _⟩
 |_::_,[],h',k=>by cases k;exact ⟨rfl,fun _=>rfl,WkH.refl _⟩
 |s::r,x::h,h',k=>by
  simp only [ZFb] at k
  split at k
  ·rename_i y ys h1 h2
   cases k
   obtain ⟨a1,a2⟩:=ZG7 h1
   obtain ⟨b1,b2,b3⟩:=ZBY h2
   refine ⟨by simp [b1],fun j=> ?_,.cons a2 b3⟩
   cases j with
   |zero=>exact a1
   |succ j=>exact b2 j
  ·cases k
theorem ZBZ {es:List ESh} {h h':List TEnt} (k:ZFb (lk h) es h=some h'):h'.length=h.length∧lk h'=lk h∧WkH (erH h) (erH h'):=by
 obtain ⟨a,b,c⟩:=ZBY k
 have e:lk h'=lk h:=funext b
 refine ⟨a,e, ?_⟩
 unfold erH
 rw [e]
 exact c
def Zw7 (n0:Nat) (sl:Slots) (es:List ESh) (a:List TD) (h:List TEnt):Option (List TV):=(ZFb (lk h) es h).bind fun h=>Zy3 n0 sl es a h
theorem Zvv {n0:Nat} {sl:Slots} {es:List ESh} {a:List TD} {h:List TEnt} {vs:List TV} (k:Zw7 n0 sl es a h=some vs):
 ∃a3 h3,Q6 a.length sl es vs=some (a3,h3)∧∀{c:Code} {ts:List Dv} {H:List Ent} {ex:Ex},H.length=n0→Wu P c ts H ex (TD.ers (lk h) a) (erH h)→Wu P c ts H ex (TD.ers (lk h3) a3) (erH h3):=by
 obtain ⟨h1,k1,k2⟩:=yc.1 k
 obtain ⟨e1,e2,e3⟩:=ZBZ k1
 obtain ⟨a3,h3,g1,g2⟩:=ZAR (P:=P) k2
 refine ⟨a3,h3,g1,fun hl r=>g2 hl ?_⟩
 rw [e2]
 exact Zve r (WkL.refl _) e3
theorem Zvw {n0:Nat} {sl:Slots} {es:List ESh} {a:List TD} {h:List TEnt} {vs:List TV} (hn:h.length=n0) (k:Zw7 n0 sl es a h=some vs):
 ∃a3 h3,Q6 a.length sl es vs=some (a3,h3)∧∀(σ:Sg) (act:Act),Ok σ→σ.H=erH h→RepT σ (TD.ers (lk h) a) act→∃σ':Sg,σ'.w=σ.w∧σ'.H=erH h3∧To σ σ'∧Ok σ'∧RepT σ' (TD.ers (lk h3) a3) act:=by
 obtain ⟨h1,k1,k2⟩:=yc.1 k
 obtain ⟨e1,e2,e3⟩:=ZBZ k1
 obtain ⟨a3,h3,g1,g2⟩:=ZAS (by rw [e1];exact hn) k2
 refine ⟨a3,h3,g1,fun σ act ok hH hr=> ?_⟩
 obtain ⟨to,ok'⟩:=ZnJ ok (H':=erH h1) (by rw [hH];exact e3)
 obtain ⟨σ2,q1,q2,q3,q4,q5⟩:=g2 { σ with H:=erH h1} act ok' rfl (by rw [e2];exact hr.to to.leaf)
 exact ⟨σ2,q1,q2,to.trans q3,q4,q5⟩
structure Lp where
 sl:Slots
 es:List ESh
 I:List Ty
 xs:List XSh
 L:Ty.dens I→Option (XSh.sum xs)
def Lp.Is (P:Program) (n:Nat) (c:Code) (lp:Lp):Prop:=
 ∀v o,lp.L v=some o→∀s,Q6 n lp.sl lp.es (ofD lp.I v)=some s→∀e vs s',ZyO lp.xs o e vs→Q6 n e.sl e.es vs=some s'→
  Wu P c (TD.ers (lk s.2) s.1) (erH s.2) e.ex (TD.ers (lk s'.2) s'.1) (erH s'.2)
abbrev Lp.Ok (P:Program) (n:Nat) (body:Code) (lp:Lp):Prop:=lp.Is P n (.loop body)
structure FI where
 hi:HI:={}
 lp:List (Nat×Lp):=[]
 bk:List (Nat×Lp):=[]
 gh:List (Nat×GOp):=[]
 un:Nat:=0
def Code.nl:Code→Nat
 |.seq a b=>Code.nl a+Code.nl b
 |.cond _ a b=>Code.nl a+Code.nl b
 |.block _ a=>Code.nl a
 |.scope a=>Code.nl a
 |.loop a=>Code.nl a+1
 |_=>0
def Code.ns:Code→Nat
 |.seq a b=>Code.ns a+Code.ns b+1
 |.cond _ a b=>Code.ns a+Code.ns b
 |.block _ a=>Code.ns a
 |.scope a=>Code.ns a
 |.loop a=>Code.ns a
 |_=>0
theorem Za5:∀c:Code,(ZE c).length=Code.nl c
 |.seq a b=>by simp only [ZE,yj,Za5 a,Za5 b,Code.nl]
 |.cond _ a b=>by simp only [ZE,yj,Za5 a,Za5 b,Code.nl]
 |.block _ a=>by simp only [ZE,Za5 a,Code.nl]
 |.scope a=>by simp only [ZE,Za5 a,Code.nl]
 |.loop a=>by simp only [ZE,yad,Za5 a,Code.nl]
 |.skip=>rfl
 |.region _ _ _=>rfl
 |.rangeFunc _ _ _ _=>rfl
 |.exit _=>rfl
 |.ret=>rfl
 |.label _=>rfl
 |.goto _=>rfl
 |.refuse _=>rfl
def Zrm {O:Type} (step:List TD→List TEnt→Kc O→Option O):Nat→List TD→List TEnt→Kc O→Option O
 |0,_,_,_=>none
 |k+1,a,h,K=>step a h fun ex a' h'=>match ex with
  |.normal=>Zrm step k a' h' K
  |ex=>K ex a' h'
theorem Zqf {O:Type} {body:Code} {N:Nat} {step:List TD→List TEnt→Kc O→Option O}
 (hs:∀(a:List TD) (h:List TEnt) (K:Kc O) (out:O),a.length=N→step a h K=some out→∃ex a' h',K ex a' h'=some out∧a'.length=N∧Wu P body (TD.ers (lk h) a) (erH h) ex (TD.ers (lk h') a') (erH h')):
 ∀(k:Nat) (a:List TD) (h:List TEnt) (K:Kc O) (out:O),a.length=N→Zrm step k a h K=some out→∃ex a' h',K ex a' h'=some out∧a'.length=N∧Zu9 P body (TD.ers (lk h) a) (erH h) ex (TD.ers (lk h') a') (erH h')
 |0,_,_,_,_,_,k=>by cases k
 |n+1,a,h,K,out,hN,k=>by
  unfold Zrm at k
  obtain ⟨ex,a1,h1,k1,k2,k3⟩:=hs _ _ _ _ hN k
  split at k1
  ·obtain ⟨ex2,a2,h2,k4,k5,k6⟩:=Zqf hs n a1 h1 K out k2 k1
   exact ⟨ex2,a2,h2,k4,k5,Zvb [] k3 k6⟩
  ·rename_i hne
   exact ⟨_,a1,h1,k1,k2,Zva hne k3⟩
def evT {O:Type} (P:Program) (fi:FI) (specs:Sp P):Code→Nat→Nat→List TD→List TEnt→Kc O→Option O
 |.skip,_,_,a,h,K=>K .normal a h
 |.label _,_,_,a,h,K=>K .normal a h
 |.region _ ops draw,_,_,a,h,K=>if draw=true then ZIx P fi.hi specs ops a h fun a' h'=>K .normal a' h' else if ZIA ops=true then ZAE P fi.hi specs ops (ops.toList.take (ops.size - 5)) a h fun a' h' _=>ZBW P (ops.toList.drop (ops.size - 5)) a' h' fun a' h'=>K .normal a' h'
  else ZAE P fi.hi specs ops ops.toList a h fun a' h' _=>K .normal a' h'
 |.seq x y,n,m,a,h,K=>ghO (fi.gh.lookup m) a h fun a h=>match fi.bk.lookup m with
  |none=>evT P fi specs x n (m+1) a h fun ex a' h'=>match ex with
   |.normal=>evT P fi specs y (n+Code.nl x) (m+1+Code.ns x) a' h' K
   |ex=>K ex a' h'
  |some bk=>(Zw7 h.length bk.sl bk.es a h).bind fun vs=>(toD bk.I vs).bind fun v=>(bk.L v).bind fun o=>xT a.length bk.xs o fun ex a' h'=>match ex with
   |.normal=>evT P fi specs y (n+Code.nl x) (m+1+Code.ns x) a' h' K
   |ex=>K ex a' h'
 |.cond c x y,n,m,a,h,K=>((arT P a 0 c).bind TD.boolT).bind fun b=>match c with
  |.tmp t=>if b=true then evT P fi specs x n m (a.set t (Zuh true)) h K else evT P fi specs y (n+Code.nl x) (m+Code.ns x) (a.set t (Zuh false)) h K
  |_=>if b=true then evT P fi specs x n m a h K else evT P fi specs y (n+Code.nl x) (m+Code.ns x) a h K
 |.block id body,n,m,a,h,K=>evT P fi specs body n m a h fun ex a' h'=>K (Zw6 id ex) a' h'
 |.loop body,n,m,a,h,K=>match fi.lp.lookup n with
  |some lp=>(Zw7 h.length lp.sl lp.es a h).bind fun vs=>(toD lp.I vs).bind fun v=>(lp.L v).bind fun o=>xT a.length lp.xs o K
  |none=>Zrm (fun a h K=>evT P fi specs body (n+1) m a h K) fi.un a h K
 |.scope body,n,m,a,h,K=>evT P fi specs body n m a h K
 |.exit id,_,_,a,h,K=>K (.exit id) a h
 |.ret,_,_,a,h,K=>K .ret a h
 |_,_,_,_,_,_=>none
def Wx:Code→List Code
 |.seq a b=>a::(Wx a++Wx b)
 |.cond _ a b=>Wx a++Wx b
 |.block _ a=>Wx a
 |.scope a=>Wx a
 |.loop a=>Wx a
 |_=>[]
theorem Za6:∀c:Code,(Wx c).length=Code.ns c
 |.seq a b=>by simp only [Wx,yad,yj,Za6 a,Za6 b,Code.ns]
 |.cond _ a b=>by simp only [Wx,yj,Za6 a,Za6 b,Code.ns]
 |.block _ a=>by simp only [Wx,Za6 a,Code.ns]
 |.scope a=>by simp only [Wx,Za6 a,Code.ns]
 |.loop a=>by simp only [Wx,Za6 a,Code.ns]
 |.skip=>rfl
 |.region _ _ _=>rfl
 |.rangeFunc _ _ _ _=>rfl
 |.exit _=>rfl
 |.ret=>rfl
 |.label _=>rfl
 |.goto _=>rfl
 |.refuse _=>rfl
def Zjb (P:Program) (fi:FI) (N:Nat) (c:Code) (m:Nat):Prop:=∀(k:Nat) (x:Code),(Wx c)[k]? =some x→∀bk,fi.bk.lookup (m+k)=some bk→bk.Is P N x
theorem ZFc {fi:FI} {N:Nat} {x y c:Code} {m:Nat} (e:Wx c=Wx x++Wx y) (h:Zjb P fi N c m):Zjb P fi N x m:=fun k b hk=>h k b (by
 rw [e,yaj (yl.1 hk).1]
 exact hk)
theorem ZDs {fi:FI} {N:Nat} {x y c:Code} {m:Nat} (e:Wx c=Wx x++Wx y) (h:Zjb P fi N c m):Zjb P fi N y (m+Code.ns x):=fun k b hk lp hl=>h (Code.ns x+k) b (by
 rw [e,yam (by rw [Za6];omega),Za6]
 rw [show Code.ns x+k - Code.ns x=k by omega]
 exact hk) lp (by rw [←ycc];exact hl)
theorem ZFd {fi:FI} {N:Nat} {x y:Code} {m:Nat} (h:Zjb P fi N (.seq x y) m):Zjb P fi N x (m+1):=fun k b hk lp hl=>h (k+1) b (by
 rw [Wx,yay,yaj (yl.1 hk).1]
 exact hk) lp (by rw [show m+(k+1)=m+1+k by omega];exact hl)
theorem Zy4 {fi:FI} {N:Nat} {x y:Code} {m:Nat} (h:Zjb P fi N (.seq x y) m):Zjb P fi N y (m+1+Code.ns x):=fun k b hk lp hl=>h (Code.ns x+k+1) b (by
 rw [Wx,yay,yam (by rw [Za6];omega),Za6]
 rw [show Code.ns x+k - Code.ns x=k by omega]
 exact hk) lp (by rw [show m+(Code.ns x+k+1)=m+1+Code.ns x+k by omega];exact hl)
def Zmo (P:Program) (fi:FI) (N:Nat) (c:Code) (n:Nat):Prop:=∀(k:Nat) (b:Code),(ZE c)[k]? =some (.loop b)→∀lp,fi.lp.lookup (n+k)=some lp→lp.Ok P N b
theorem Zy5 {fi:FI} {N:Nat} {x y c:Code} {n:Nat} (e:ZE c=ZE x++ZE y) (h:Zmo P fi N c n):Zmo P fi N x n:=fun k b hk=>h k b (by
 rw [e,yaj (yl.1 hk).1]
 exact hk)
theorem Zvx {fi:FI} {N:Nat} {x y c:Code} {n:Nat} (e:ZE c=ZE x++ZE y) (h:Zmo P fi N c n):Zmo P fi N y (n+Code.nl x):=fun k b hk lp hl=>h (Code.nl x+k) b (by
 rw [e,yam (by rw [Za5];omega),Za5]
 rw [show Code.nl x+k - Code.nl x=k by omega]
 exact hk) lp (by rw [←ycc];exact hl)
theorem WP {O:Type} {fi:FI} {specs:Sp P} {out:O} {N:Nat} (ok:SpOk specs):∀(c:Code) (n m:Nat) (a:List TD) (h:List TEnt) (K:Kc O),a.length=N→Zmo P fi N c n→Zjb P fi N c m→evT P fi specs c n m a h K=some out→
 ∃ex a' h',K ex a' h'=some out∧a'.length=N∧Wu P c (TD.ers (lk h) a) (erH h) ex (TD.ers (lk h') a') (erH h')
 |.skip,n,m,a,h,K,hN,hl,hb0,k=>⟨_,_,_,k,hN,ZDp⟩
 |.label _,n,m,a,h,K,hN,hl,hb0,k=>⟨_,_,_,k,hN,ZAQ⟩
 |.exit _,n,m,a,h,K,hN,hl,hb0,k=>⟨_,_,_,k,hN,ZDq⟩
 |.ret,n,m,a,h,K,hN,hl,hb0,k=>⟨_,_,_,k,hN,ZFa⟩
 |.region id ops draw,n,m,a,h,K,hN,hl,hb0,k=>by
  unfold evT at k
  cases draw with
  |true=>
   rw [if_pos rfl] at k
   obtain ⟨a',h',k1,k2,k3⟩:=ZDi ok k
   exact ⟨_,_,_,k1,by rw [k2,hN],k3 id⟩
  |false=>
   rw [if_neg (by decide)] at k
   split at k
   ·obtain ⟨a',h',k1,k2,k3⟩:=ZDn ok k
    exact ⟨_,_,_,k1,by rw [k2,hN],k3 id⟩
   ·obtain ⟨a',h',hs,k1,k2,k3⟩:=ZDj ok k
    exact ⟨_,_,_,k1,by rw [k2,hN],k3 id⟩
 |.seq x y,n,m,a,h,K,hN,hl,hb0,k=>by
  have hx:=Zy5 (x:=x) (y:=y) rfl hl
  have hy:=Zvx (x:=x) (y:=y) rfl hl
  unfold evT at k
  obtain ⟨a0,h0,k,hN0,gst⟩:=ZE9 k
  rw [hN] at hN0
  suffices key:∃ex a' h',K ex a' h'=some out∧a'.length=N∧Wu P (.seq x y) (TD.ers (lk h0) a0) (erH h0) ex (TD.ers (lk h') a') (erH h') by
   obtain ⟨ex,a',h',g1,g2,g3⟩:=key
   exact ⟨ex,a',h',g1,g2,ZG5 gst g3⟩
  clear gst
  have hN:=hN0
  clear hN0
  split at k
  ·obtain ⟨ex,a1,h1,k1,k2,k3⟩:=WP ok x _ _ _ _ _ hN hx (ZFd hb0) k
   split at k1
   ·obtain ⟨ex2,a2,h2,k4,k5,k6⟩:=WP ok y _ _ _ _ _ k2 hy (Zy4 hb0) k1
    exact ⟨_,_,_,k4,k5,Zy2 k3 k6⟩
   ·rename_i hne
    exact ⟨_,_,_,k1,k2,Zvu hne k3⟩
  ·rename_i bk hbk
   obtain ⟨vs,j1,k⟩:=yc.1 k
   obtain ⟨v,j2,k⟩:=yc.1 k
   obtain ⟨o,j3,k⟩:=yc.1 k
   obtain ⟨e,vs',s,g1,g2,g3⟩:=Zrl k
   obtain ⟨a3,h3,j4,j5⟩:=Zvw rfl j1
   have hok:=hb0 0 x rfl bk (by rw [Nat.add_zero];exact hbk)
   rw [hN] at g2 j4
   have e1:=Zei _ _ _ j2
   have r:=hok v o j3 (a3,h3) (by rw [e1];exact j4) e vs' s g1 g2
   have k3:Wu P x (TD.ers (lk h0) a0) (erH h0) e.ex (TD.ers (lk s.2) s.1) (erH s.2):=by
    intro σ act okσ hH hrep
    obtain ⟨σ1,p1,p2,p3,p4,p5⟩:=j5 σ act okσ hH hrep
    rw [←p1]
    refine wp_mono (r σ1 act p4 p2 p5) ?_
    rintro e' a' w' ⟨rfl,σ2,q1,q2,q3,q4,q5⟩
    exact ⟨rfl,σ2,q1,q2,p3.trans q3,q4,q5⟩
   split at g3
   ·rename_i he
    rw [he] at k3
    obtain ⟨ex2,a2,h2,k4,k5,k6⟩:=WP ok y _ _ _ _ _ (ZlD g2) hy (Zy4 hb0) g3
    exact ⟨_,_,_,k4,k5,Zy2 k3 k6⟩
   ·rename_i hne
    exact ⟨_,_,_,g3,ZlD g2,Zvu hne k3⟩
 |.cond c x y,n,m,a,h,K,hN,hl,hb0,k=>by
  have hx:=Zy5 (x:=x) (y:=y) rfl hl
  have hy:=Zvx (x:=x) (y:=y) rfl hl
  have bx:=ZFc (x:=x) (y:=y) rfl hb0
  have bY:=ZDs (x:=x) (y:=y) rfl hb0
  unfold evT at k
  obtain ⟨b,k0,k⟩:=yc.1 k
  obtain ⟨d,k00,k01⟩:=yc.1 k0
  have hc:=Zs (L:=lk h) k00
  rw [ZhC k01] at hc
  split at k
  ·rename_i t
   cases k00
   have e:=ZyT k01
   split at k
   ·rename_i hb
    subst hb
    rw [set_same e] at k
    obtain ⟨ex,a1,h1,k1,k2,k3⟩:=WP ok x _ _ _ _ _ hN hx bx k
    exact ⟨_,_,_,k1,k2,ZlF hc k3⟩
   ·rename_i hb
    have hb:b=false:=by simpa using hb
    subst hb
    rw [set_same e] at k
    obtain ⟨ex,a1,h1,k1,k2,k3⟩:=WP ok y _ _ _ _ _ hN hy bY k
    exact ⟨_,_,_,k1,k2,ZlF hc k3⟩
  ·split at k
   ·rename_i hb
    subst hb
    obtain ⟨ex,a1,h1,k1,k2,k3⟩:=WP ok x _ _ _ _ _ hN hx bx k
    exact ⟨_,_,_,k1,k2,ZlF hc k3⟩
   ·rename_i hb
    have hb:b=false:=by simpa using hb
    subst hb
    obtain ⟨ex,a1,h1,k1,k2,k3⟩:=WP ok y _ _ _ _ _ hN hy bY k
    exact ⟨_,_,_,k1,k2,ZlF hc k3⟩
 |.block id body,n,m,a,h,K,hN,hl,hb0,k=>by
  unfold evT at k
  obtain ⟨ex,a1,h1,k1,k2,k3⟩:=WP ok body _ _ _ _ _ hN hl hb0 k
  exact ⟨_,_,_,k1,k2,ZAO k3⟩
 |.scope body,n,m,a,h,K,hN,hl,hb0,k=>by
  unfold evT at k
  obtain ⟨ex,a1,h1,k1,k2,k3⟩:=WP ok body _ _ _ _ _ hN hl hb0 k
  exact ⟨_,_,_,k1,k2,ZAP k3⟩
 |.loop body,n,m,a,h,K,hN,hl,hb0,k=>by
  unfold evT at k
  split at k
  ·rename_i lp hlp
   obtain ⟨vs,j1,k⟩:=yc.1 k
   obtain ⟨v,j2,k⟩:=yc.1 k
   obtain ⟨o,j3,k⟩:=yc.1 k
   obtain ⟨e,vs',s,g1,g2,g3⟩:=Zrl k
   obtain ⟨a3,h3,j4,j5⟩:=Zvw rfl j1
   have hok:=hl 0 body rfl lp (by rw [Nat.add_zero];exact hlp)
   rw [hN] at g2 j4
   have e1:=Zei _ _ _ j2
   have r:=hok v o j3 (a3,h3) (by rw [e1];exact j4) e vs' s g1 g2
   refine ⟨_,_,_,g3,ZlD g2, ?_⟩
   intro σ act okσ hH hrep
   obtain ⟨σ1,p1,p2,p3,p4,p5⟩:=j5 σ act okσ hH hrep
   rw [←p1]
   refine wp_mono (r σ1 act p4 p2 p5) ?_
   rintro e' a' w' ⟨rfl,σ2,q1,q2,q3,q4,q5⟩
   exact ⟨rfl,σ2,q1,q2,p3.trans q3,q4,q5⟩
  ·have hl1:Zmo P fi N body (n+1):=fun k b hk lp hl2=>hl (k+1) b (by rw [ZE,yay];exact hk) lp (by rw [show n+(k+1)=n+1+k by omega];exact hl2)
   obtain ⟨ex,a1,h1,k1,k2,k3⟩:=Zqf (fun a h K out hN k=>WP ok body _ _ _ _ K hN hl1 hb0 k) _ _ _ _ _ hN k
   exact ⟨ex,a1,h1,k1,k2,Zvc k3⟩
 |.rangeFunc _ _ _ _,_,_,_,_,_,_,_,_,k=>by cases k
 |.goto _,_,_,_,_,_,_,_,_,k=>by cases k
 |.refuse _,_,_,_,_,_,_,_,_,k=>by cases k
end
end Go.Ev
end
section
namespace Go.Ev
def Zd {I X:Type} (step:I→Option (I⊕X)):Nat→I→Option X
 |0,_=>none
 |n+1,i=>(step i).bind fun r=>match r with
  |.inl j=>Zd step n j
  |.inr x=>some x
theorem ZFe:∃n:Nat,n=18446744073709551616:=⟨_,rfl⟩
noncomputable def fuel:Nat:=Classical.choose ZFe
theorem Zej:fuel=18446744073709551616:=Classical.choose_spec ZFe
section
variable {P:Program}
def ZG8 (n0:Nat) (ex:Ex) (a:List TD) (h:List TEnt):(l:List XSh)→Option (XSh.sum l)
 |[]=>none
 |[e]=>if ex=e.ex then (Zw7 n0 e.sl e.es a h).bind fun vs=>toD e.ty vs else none
 |e::f::r=>match (if ex=e.ex then (Zw7 n0 e.sl e.es a h).bind fun vs=>toD e.ty vs else none) with
  |some x=>some (Sum.inl x:Ty.dens e.ty⊕XSh.sum (f::r))
  |none=>(ZG8 n0 ex a h (f::r)).map fun x=>(Sum.inr x:Ty.dens e.ty⊕XSh.sum (f::r))
theorem Zvy {n0:Nat} {ex:Ex} {a:List TD} {h:List TEnt}:∀{l:List XSh} {o:XSh.sum l},ZG8 n0 ex a h l=some o→∀e vs,ZyO l o e vs→ex=e.ex∧Zw7 n0 e.sl e.es a h=some vs
 |[],_,k,_,_,_=>by cases k
 |[e],o,k,x,vs,hs=>by
  obtain ⟨rfl,rfl⟩:=hs
  have k:(if ex=x.ex then (Zw7 n0 x.sl x.es a h).bind fun vs=>toD x.ty vs else none)=some o:=k
  split at k
  ·rename_i he
   obtain ⟨ws,h1,h2⟩:=yc.1 k
   exact ⟨he,by rw [h1,Zei _ _ _ h2]⟩
  ·cases k
 |e::f::r,o,k,x,vs,hs=>by
  simp only [ZG8] at k
  split at k
  ·rename_i y hy
   cases k
   obtain ⟨rfl,rfl⟩:=hs
   split at hy
   ·rename_i he
    obtain ⟨ws,h1,h2⟩:=yc.1 hy
    exact ⟨he,by rw [h1,Zei _ _ _ h2]⟩
   ·cases hy
  ·obtain ⟨y,h1,h2⟩:=Zc k
   subst h2
   exact Zvy h1 x vs hs
def Zy6 (P:Program) (fi:FI) (specs:Sp P) (body:Code) (n N:Nat) (sl:Slots) (es:List ESh) (I:List Ty) (xs:List XSh):Ty.dens I→Option (Ty.dens I⊕XSh.sum xs):=fun v=>
 (Q6 N sl es (ofD I v)).bind fun s=>evT P fi specs body (n+1) 0 s.1 s.2 fun ex a h=>match ex with
   |.normal=>(Zw7 s.2.length sl es a h).bind fun vs=>(toD I vs).map .inl
   |ex=>(ZG8 s.2.length ex a h xs).map .inr
theorem ZFf {fi:FI} {specs:Sp P} {body:Code} {n N:Nat} {sl:Slots} {es:List ESh} {I:List Ty} {xs:List XSh} (ok:SpOk specs) (hl:Zmo P fi N body (n+1)) (hb0:Zjb P fi N body 0):
 ∀(f:Nat) (v:Ty.dens I) (o:XSh.sum xs),Zd (Zy6 P fi specs body n N sl es I xs) f v=some o→∀s,Q6 N sl es (ofD I v)=some s→∀e vs s',ZyO xs o e vs→Q6 N e.sl e.es vs=some s'→
  Zu9 P body (TD.ers (lk s.2) s.1) (erH s.2) e.ex (TD.ers (lk s'.2) s'.1) (erH s'.2)
 |0,_,_,h,_,_,_,_,_,_,_=>by cases h
 |f+1,v,o,h,s,hs,e,vs,s',hx,hs'=>by
  unfold Zd at h
  obtain ⟨r,h1,h2⟩:=yc.1 h
  unfold Zy6 at h1
  rw [hs,ya] at h1
  obtain ⟨ex,a,h3,k1,k2,k3⟩:=WP ok body _ _ _ _ _ (ZlD hs) hl hb0 h1
  split at k1
  ·obtain ⟨ws,g1,k1⟩:=yc.1 k1
   obtain ⟨w,g2,rfl⟩:=Zc k1
   obtain ⟨a3,h4,g3,g4⟩:=Zvv (P:=P) g1
   rw [k2] at g3
   have r1:=g4 (ZM _) k3
   have:=ZFf ok hl hb0 f w o h2 (a3,h4) (by rw [Zei _ _ _ g2];exact g3) e vs s' hx hs'
   exact Zvb [] r1 this
  ·rename_i hne
   obtain ⟨w,g2,rfl⟩:=Zc k1
   cases h2
   obtain ⟨g5,g6⟩:=Zvy g2 e vs hx
   obtain ⟨a3,h4,g3,g4⟩:=Zvv (P:=P) g6
   rw [k2,hs'] at g3
   cases g3
   subst g5
   exact Zva hne (g4 (ZM _) k3)
theorem ZJx {fi:FI} {specs:Sp P} {body:Code} {n N:Nat} {sl:Slots} {es:List ESh} {I:List Ty} {xs:List XSh} {step:Ty.dens I→Option (Ty.dens I⊕XSh.sum xs)} (f:Nat) (ok:SpOk specs) (hl:Zmo P fi N body (n+1)) (hb0:Zjb P fi N body 0)
 (h:∀v,Zy6 P fi specs body n N sl es I xs v=step v):Lp.Ok P N body ⟨sl,es,I,xs,Zd step f⟩:=by
 intro v o hL s hs e vs s' hx hs'
 have e1:Zy6 P fi specs body n N sl es I xs=step:=funext h
 subst e1
 exact Zvc (ZFf ok hl hb0 f v o hL s hs e vs s' hx hs')
theorem ZcW:∀(c:Code) (k:Nat) (b:Code),(ZE c)[k]? =some (.loop b)→∀j x,(ZE b)[j]? =some x→(ZE c)[k+1+j]? =some x
 |.seq x y,k,b,h,j,z,hz=>by
  simp only [ZE] at h ⊢
  rcases ybz k (ZE x).length with hl|hl
  ·rw [yaj hl] at h
   have:=ZcW x k b h j z hz
   rw [yaj (yl.1 this).1]
   exact this
  ·rw [yam hl] at h
   have:=ZcW y _ b h j z hz
   rw [yam (by omega)]
   rw [show k+1+j - (ZE x).length=k - (ZE x).length+1+j by omega]
   exact this
 |.cond _ x y,k,b,h,j,z,hz=>by
  simp only [ZE] at h ⊢
  rcases ybz k (ZE x).length with hl|hl
  ·rw [yaj hl] at h
   have:=ZcW x k b h j z hz
   rw [yaj (yl.1 this).1]
   exact this
  ·rw [yam hl] at h
   have:=ZcW y _ b h j z hz
   rw [yam (by omega)]
   rw [show k+1+j - (ZE x).length=k - (ZE x).length+1+j by omega]
   exact this
 |.block _ a,k,b,h,j,z,hz=>ZcW a k b h j z hz
 |.scope a,k,b,h,j,z,hz=>ZcW a k b h j z hz
 |.loop a,k,b,h,j,z,hz=>by
  simp only [ZE] at h ⊢
  cases k with
  |zero=>
   simp only [ybu,Option.some.injEq,Code.loop.injEq] at h
   subst h
   rw [show 0+1+j=j+1 by omega,yay]
   exact hz
  |succ k=>
   rw [yay] at h
   rw [show k+1+1+j=(k+1+j)+1 by omega,yay]
   exact ZcW a k b h j z hz
 |.skip,_,_,h,_,_,_=>by simp [ZE] at h
 |.region _ _ _,_,_,h,_,_,_=>by simp [ZE] at h
 |.rangeFunc _ _ _ _,_,_,h,_,_,_=>by simp [ZE] at h
 |.exit _,_,_,h,_,_,_=>by simp [ZE] at h
 |.ret,_,_,h,_,_,_=>by simp [ZE] at h
 |.label _,_,_,h,_,_,_=>by simp [ZE] at h
 |.goto _,_,_,h,_,_,_=>by simp [ZE] at h
 |.refuse _,_,_,h,_,_,_=>by simp [ZE] at h
def ZsI (P:Program) (g:FuncId) (N:Nat):List (Nat×Lp)→Prop
 |[]=>True
 |q::r=>q.2.Ok P N (Zo P g q.1)∧ZsI P g N r
theorem Zpg {g:FuncId} {N:Nat}:∀{l:List (Nat×Lp)} {n:Nat} {lp:Lp},ZsI P g N l→l.lookup n=some lp→lp.Ok P N (Zo P g n)
 |[],_,_,_,h=>by cases h
 |q::r,n,lp,hk,h=>by
  rw [List.lookup_cons] at h
  split at h
  ·rename_i e
   cases h
   rw [beq_iff_eq] at e
   rw [e]
   exact hk.1
  ·exact Zpg hk.2 h
def Zdw (P:Program) (g:FuncId):Code:=
 match P.funcs[g]? with
 |some fn=>fn.body.getD .skip
 |none=>.skip
theorem Zph {g:FuncId} {k:Nat} {b:Code} (h:(ZE (Zdw P g))[k]? =some (.loop b)):Zo P g k=b:=by
 unfold Zo ZEf
 unfold Zdw at h
 split at h
 ·rename_i fn hf
  rw [hf]
  dsimp only
  cases hb:fn.body with
  |none=>rw [hb] at h;simp [ZE] at h
  |some c=>
   rw [hb] at h
   dsimp only [Option.getD] at h ⊢
   rw [ycu,h]
   rfl
 ·simp [ZE] at h
theorem ZB0 {g:FuncId} {fi:FI} {N:Nat} (h:ZsI P g N fi.lp):Zmo P fi N (Zdw P g) 0:=by
 intro k b hk lp hl
 rw [ybb] at hl
 rw [←Zph hk]
 exact Zpg h hl
theorem ZFg {g:FuncId} {fi:FI} {N k:Nat} (hk:(ZE (Zdw P g))[k]? =some (.loop (Zo P g k))) (h:ZsI P g N fi.lp):Zmo P fi N (Zo P g k) (k+1):=by
 intro j b hj lp hl
 have:=ZcW _ _ _ hk j _ hj
 rw [←Zph this]
 exact Zpg h hl
def ZsJ (P:Program) (g k:Nat):Bool:=
 match (ZE (Zdw P g))[k]? with
 |some (.loop _)=>true
 |_=>false
theorem Zuk {g k:Nat} (h:ZsJ P g k=true):(ZE (Zdw P g))[k]? =some (.loop (Zo P g k)):=by
 unfold ZsJ at h
 split at h
 ·rename_i b hb
  rw [hb,Zph hb]
 ·cases h
def ZFh (c:Code) (m:Nat):Code:=((Wx c)[m]?).getD .skip
def Zvz (P:Program) (N:Nat) (c:Code):List (Nat×Lp)→Prop
 |[]=>True
 |q::r=>q.2.Is P N (ZFh c q.1)∧Zvz P N c r
theorem ZvA {N:Nat} {c:Code}:∀{l:List (Nat×Lp)} {m:Nat} {bk:Lp},Zvz P N c l→l.lookup m=some bk→bk.Is P N (ZFh c m)
 |[],_,_,_,h=>by cases h
 |q::r,m,bk,hk,h=>by
  rw [List.lookup_cons] at h
  split at h
  ·rename_i he
   cases h
   have:m=q.1:=by simpa using he
   rw [this]
   exact hk.1
  ·exact ZvA hk.2 h
theorem Zw8 {fi:FI} {N:Nat} {c:Code} (h:Zvz P N c fi.bk):Zjb P fi N c 0:=by
 intro k x hk bk hl
 rw [ybb] at hl
 have:=ZvA h hl
 unfold ZFh at this
 rw [hk] at this
 exact this
theorem Zk {fi:FI} {specs:Sp P} {g k N:Nat} {sl:Slots} {es:List ESh} {I:List Ty} {xs:List XSh} {step:Ty.dens I→Option (Ty.dens I⊕XSh.sum xs)} (ok:SpOk specs) (hl:ZsI P g N fi.lp) (hk:ZsJ P g k=true)
 (h:∀v,Zy6 P fi specs (Zo P g k) k N sl es I xs v=step v) (hb:Zvz P N (Zo P g k) fi.bk:=by exact True.intro):Lp.Ok P N (Zo P g k) ⟨sl,es,I,xs,Zd step fuel⟩:=
 ZJx fuel ok (ZFg (Zuk hk) hl) (Zw8 hb) h
def Zul {O:Type} (P:Program) (a:List TD) (h:List TEnt):List ResultVar→(List TD→List Hint→Option O)→Option O
 |[],K=>K [] []
 |.tmp t::r,K=>Zul P a h r fun ds hs=>K (a.getD t .junk::ds) hs
 |.cell t ty::r,K=>match a.getD t .junk with
  |.ref id path=>(Zp9 h id).bind fun d=>gpT (lk h) path d fun sub hs _=>if okT P ty (sub.er (lk h))=true then Zul P a h r fun ds hs'=>K (sub::ds) (hs++hs') else none
  |_=>none
theorem ZhG {O:Type} {a:List TD} {h:List TEnt} {out:O}:∀(l:List ResultVar) (K:List TD→List Hint→Option O),Zul P a h l K=some out→∃ds hs C,K ds hs=some out∧AllP C∧∀rest,Zt3 P (TD.ers (lk h) a) (erH h) l (hs++rest)=some (C,TD.ers (lk h) ds)
 |[],K,k=>⟨[],[],[],k,trivial,fun _=>rfl⟩
 |.tmp t::r,K,k=>by
  obtain ⟨ds,hs,C,k1,k2,k3⟩:=ZhG r _ k
  refine ⟨_,_,C,k1,k2,fun rest=> ?_⟩
  simp only [Zt3,k3 rest,yy,ZnY,TD.ers]
 |.cell t ty::r,K,k=>by
  unfold Zul at k
  split at k
  ·rename_i id path hx
   obtain ⟨d,h1,k⟩:=yc.1 k
   obtain ⟨st,h2,h3⟩:=Ze8 h1
   obtain ⟨sub,hs,put,C,g1,g2,g3,_⟩:=XW _ _ _ _ k
   obtain ⟨g4,g5⟩:=Za g1
   obtain ⟨ds,hs',C',k1,k2,k3⟩:=ZhG r _ g5
   refine ⟨_,_,C++[ZaO path=Ww path]++C',k1,Zm.2 ⟨Zm.2 ⟨g2,(X7 _).symm,trivial⟩,k2⟩,fun rest=> ?_⟩
   unfold Zt3
   rw [ZnY,hx]
   dsimp only [TD.er]
   rw [h3]
   dsimp only
   rw [yz,g3 (hs'++rest)]
   dsimp only
   rw [if_pos g4,k3 rest]
   rfl
  ·cases k
def ZsK:List TD→TD
 |[d]=>d
 |ds=>.tup ds
theorem ZlG {L:Lk} (ds:List TD):(ZsK ds).er L=Zrx (TD.ers L ds):=by
 match ds with
 |[]=>rfl
 |[d]=>rfl
 |_::_::_=>rfl
def TD.arg (L:Lk):TD→TD
 |.own id nn t c=>.p (.sl nn t (Z2 L id t c))
 |.agg ds=>TD.melt L ds
 |d=>d
theorem ZAT {L:Lk} (d:TD):(d.arg L).er L=(d.er L).arg:=by
 cases d <;> first|rfl|exact ZBA _
def ZFi (h:List TEnt) (rs:Sh) (es:List ESh) (n0:Nat) (r:TD):Option (List Nat):=
 let l:=ZIw h es 0 ((yo n0).map (fun i=>(i,i))++Sh.ids rs r)
 ((yo es.length).drop n0).mapM fun j=>l.lookup j
def ZG9 (h:List TEnt) (n0:Nat) (ds:List TD) (e:XSh):Option (Ty.dens e.ty):=
 match e.sl with
 |[(0,rs)]=>(ZFi h rs e.es n0 (ZsK ds)).bind fun keep=>
  if once (yo n0++keep) then (match Dv.rn (toIds (yo n0++keep)) ((ZsK ds).er (lk h)) with
   |some _=>(ZsK ds).rn (toIds (yo n0++keep))
   |none=>(ZsK (ds.map (TD.arg (lk h)))).rn (toIds (yo n0++keep))).bind fun r=>
   (WN h (yo n0++keep) (yo n0++keep)).bind fun h2=>(Sh.mt (lk h2) rs r).bind fun q=>(ESh.mts (lk h2) e.es h2).bind fun w=>toD e.ty (q.2++w.2)
  else none
 |_=>none
def Zy7 (h:List TEnt) (n0:Nat) (ds:List TD):(l:List XSh)→Option (XSh.sum l)
 |[]=>none
 |[e]=>ZG9 h n0 ds e
 |e::f::r=>match ZG9 h n0 ds e with
  |some x=>some (Sum.inl x:Ty.dens e.ty⊕XSh.sum (f::r))
  |none=>(Zy7 h n0 ds (f::r)).map fun x=>(Sum.inr x:Ty.dens e.ty⊕XSh.sum (f::r))
theorem ZsL {h:List TEnt} {n0:Nat} {ds:List TD}:∀{l:List XSh} {o:XSh.sum l},Zy7 h n0 ds l=some o→∀e vs,ZyO l o e vs→∃x,ZG9 h n0 ds e=some x∧vs=ofD e.ty x
 |[],_,k,_,_,_=>by cases k
 |[e],o,k,x,vs,hs=>by
  obtain ⟨rfl,rfl⟩:=hs
  exact ⟨o,k,rfl⟩
 |e::f::r,o,k,x,vs,hs=>by
  simp only [Zy7] at k
  split at k
  ·rename_i y hy
   cases k
   obtain ⟨rfl,rfl⟩:=hs
   exact ⟨y,hy,rfl⟩
  ·obtain ⟨y,h1,h2⟩:=Zc k
   subst h2
   exact ZsL h1 x vs hs
def fnT (P:Program) (fi:FI) (specs:Sp P) (g:FuncId) (ps:List Sh) (es:List ESh) (ins:List Ty) (xs:List XSh):Ty.dens ins→Option (XSh.sum xs):=fun x=>
 match P.funcs[g]? with
 |some fn=>match fn.body with
  |some c=>(Sh.fills ps (ofD ins x)).bind fun q=>(ESh.fills es q.2).bind fun w=>if w.2.isEmpty then
    evT P fi specs c 0 0 (q.1++yr (fn.ntmps - q.1.length) .junk) w.1 fun ex a h=>match ex with
     |.exit _=>none
     |_=>Zul P a h fn.results.toList fun ds _=>Zy7 h w.1.length ds xs
    else none
  |none=>none
 |none=>none
def Zp (P:Program) (g:FuncId):Nat:=
 match P.funcs[g]? with
 |some fn=>fn.ntmps
 |none=>0
theorem Zg {fi:FI} {specs:Sp P} {g:FuncId} {ps:List Sh} {es:List ESh} {ins:List Ty} {xs:List XSh} {M:Ty.dens ins→Option (XSh.sum xs)} (ok:SpOk specs) (hl:ZsI P g (Zp P g) fi.lp) (hn:ps.length≤Zp P g)
 (h:∀x,fnT P fi specs g ps es ins xs x=M x) (hb:Zvz P (Zp P g) (Zdw P g) fi.bk:=by exact True.intro):Fs.Ok (⟨g,ps,es,ins,xs,M⟩:Fs P):=by
 intro x o hM
 have hM:M x=some o:=hM
 rw [←h x] at hM
 have hl':=ZB0 hl
 unfold fnT at hM
 split at hM
 ·rename_i fn hf
  split at hM
  ·rename_i c hb1
   obtain ⟨q,h1,hM⟩:=yc.1 hM
   obtain ⟨w,h2,hM⟩:=yc.1 hM
   obtain ⟨h3,hM⟩:=Za hM
   have hN:Zp P g=fn.ntmps:=by unfold Zp;rw [hf]
   have hc:Zdw P g=c:=by unfold Zdw;rw [hf];dsimp only;rw [hb1];rfl
   rw [hc,hN] at hl' hb
   have hb0:=Zw8 hb
   rw [hN] at hn
   have hlen:(q.1++yr (fn.ntmps - q.1.length) TD.junk).length=fn.ntmps:=by
    rw [yj,ycl,ZlC h1]
    omega
   obtain ⟨ex,a,hh,k1,k2,k3⟩:=WP ok c _ _ _ _ _ hlen hl' hb0 hM
   have hex:(ex=.ret∨ex=.normal)∧(Zul P a hh fn.results.toList fun ds _=>Zy7 hh w.1.length ds xs)=some o:=by
    cases ex with
    |exit _=>cases k1
    |normal=>exact ⟨.inr rfl,k1⟩
    |ret=>exact ⟨.inl rfl,k1⟩
   obtain ⟨hex,k1⟩:=hex
   obtain ⟨ds,hs,C,g1,g2,g3⟩:=ZhG _ _ k1
   refine ⟨q.1,q.2,w.1,h1, ?_,fun e vs s' hsel hfs=> ?_⟩
   ·rw [h2]
    have:w.2=[]:=by simpa using h3
    rw [←this]
   obtain ⟨o1,g1,hvs⟩:=ZsL g1 e vs hsel
   unfold ZG9 at g1
   split at g1
   case h_2=>cases g1
   rename_i rs hsl
   obtain ⟨keep,g4,g1⟩:=yc.1 g1
   obtain ⟨g5,g1⟩:=Za g1
   obtain ⟨r,g6,g1⟩:=yc.1 g1
   obtain ⟨e2,g7,g1⟩:=yc.1 g1
   obtain ⟨z,g8,g1⟩:=yc.1 g1
   obtain ⟨y,g9,g1⟩:=yc.1 g1
   obtain ⟨b1,b2⟩:=ZhF g9
   have hcc:∀id t,Z2 (lk e2) id t none=Z2 (lk y.1) id t none:=fun id t=>by rw [b2]
   have eo:=Zei _ _ _ g1
   have efill:s'=([z.1],y.1):=by
    rw [hvs,eo,hsl] at hfs
    unfold Q6 at hfs
    rw [show shs [(0,rs)] 1=[rs] from rfl] at hfs
    simp only [Sh.fills,ZlA _ _ _ g8,ya,yy] at hfs
    have:=Zcb g9 []
    rw [ybh] at this
    rw [this] at hfs
    exact (ybp hfs).symm
   subst efill
   refine ⟨z.1,rfl, ?_⟩
   have hfin:fin P fn (TD.ers (lk hh) a) (erH hh) (erH w.1).length keep hs=some (C,r.er (lk e2),erH e2):=by
    unfold fin
    have:=g3 []
    rw [ybh] at this
    rw [this]
    dsimp only
    rw [ZM,g5, ←ZlG,show subEnts (erH hh) _ _=some (erH e2) from WO (Za4 g7) g7]
    split at g6
    ·rename_i r0 hr0
     have e4:=ZgA (Za4 g7) _ _ g6
     rw [e4]
    ·rename_i hr0
     have e4:=ZgA (Za4 g7) _ _ g6
     rw [ZlG,ZL,yap] at e4
     rw [hr0,show (TD.ers (lk hh) ds).map Dv.arg=ds.map (TD.er (lk hh) ∘ TD.arg (lk hh)) by
      rw [ZL,yap]
      exact ycd fun d _=>(ZAT d).symm,e4]
   have hrun:Wu P c (TD.ers (lk w.1) q.1++yr (fn.ntmps - (TD.ers (lk w.1) q.1).length) .junk) (erH w.1) ex (TD.ers (lk hh) a) (erH hh):=by
    have e5:TD.ers (lk w.1) (q.1++yr (fn.ntmps - q.1.length) TD.junk)=TD.ers (lk w.1) q.1++yr (fn.ntmps - (TD.ers (lk w.1) q.1).length) .junk:=by
     rw [Zip,ZL,ZL,yaf,List.map_replicate]
     rfl
    rw [←e5]
    exact k3
   exact Zye (Zki hf hb1 hrun hex hfin g2) (Zst hcc _ _ _ g8) (ZlB hcc g9)
  ·cases hM
 ·cases hM
end
theorem ZAU {P:Program} {g:FuncId} {t:Ty} {xs:List XSh} {MA:Ty.dens [.sl t]→Option (XSh.sum xs)} {MB:Ty.dens []→Option (XSh.sum xs)} (hA:Fs.Ok (⟨g,[.sl true t],[],[.sl t],xs,MA⟩:Fs P)) (hB:Fs.Ok (⟨g,[.nil t],[],[],xs,MB⟩:Fs P))
 (h:MB ()=MA ([]:List t.den)):Fs.Ok (⟨g,[.v (.sl t)],[],[.sl t],xs,MA⟩:Fs P):=by
 intro l o hM
 have key:∀(l:List t.den),Ty.cast (.sl t) (.sl t) l=some l:=fun l=>XA (.sl t) l
 obtain ⟨a1,R1,H1,f1,f2,f3⟩:=hA l o hM
 have e1:a1=[.p (.sl (some true) t l)]∧R1=[]:=by
  have:Sh.fills [.sl true t] [(⟨.sl t,l⟩:TV)]=some (a1,R1):=f1
  simp only [Sh.fills,Sh.fill] at this
  rw [key l] at this
  have this:some (([.p (.sl (some true) t l)]:List TD),([]:List TV))=some (a1,R1):=this
  cases this
  exact ⟨rfl,rfl⟩
 obtain ⟨rfl,rfl⟩:=e1
 cases f2
 refine ⟨[.p (.v (.sl t) l)],[],[], ?_,rfl,fun e vs s' hs hf=> ?_⟩
 ·show Sh.fills [.v (.sl t)] [(⟨.sl t,l⟩:TV)]=_
  simp only [Sh.fills,Sh.fill]
  rw [key l]
  rfl
 ·obtain ⟨r,r1,r2⟩:=f3 e vs s' hs hf
  refine ⟨r,r1, ?_⟩
  refine ZBs (xs:=l.map t.enc) r2 fun hl=> ?_
  have hl:l=[]:=List.map_eq_nil_iff.1 hl
  subst hl
  obtain ⟨a2,R2,H2,g1,g2,g3⟩:=hB () o (by rw [←hM];exact h)
  cases g1
  cases g2
  obtain ⟨r',r1',r2'⟩:=g3 e vs s' hs hf
  rw [r1] at r1'
  cases r1'
  exact r2'
def ZsM (n:Int):Option (List UInt8):=if (decide (0≤n)&&decide (n.toNat≤Zt))=true then some [] else none
theorem ZHa {P:Program} {g:FuncId} {e:TypeId} (h:∀n:Nat,n≤Zt→Con P g [.p (.sl (some false) 1 []),.p (.int .i64 (n:Int))] [] (.own 0 none 1 []) [.log 1 e []]):
 Fs.Ok (⟨g,[.nil .u8,.v (.int .i64)],[],[.int .i64],[⟨.ret,[(0,.own 0 .u8)],[.log .u8 e],[.sl .u8]⟩],ZsM⟩:Fs P):=by
 intro n o hM
 have key:∀(n:Int),ZsM n=some o→(0≤n∧n.toNat≤Zt)∧([]:List UInt8)=o:=fun n hM=>by
  unfold ZsM at hM
  obtain ⟨h1,h2⟩:=Za (α:=List UInt8) hM
  rw [yg,decide_eq_true_eq,decide_eq_true_eq] at h1
  exact ⟨h1,ybp h2⟩
 obtain ⟨h1,h2⟩:=key n hM
 cases h2
 refine ⟨[.p (.sl (some false) .u8 []),.p (.v (.int .i64) n)],[],[],rfl,rfl,fun x vs s' hs hf=> ?_⟩
 obtain ⟨rfl,rfl⟩:=hs
 cases hf
 refine ⟨_,rfl, ?_⟩
 have:=h (Int.toNat n) h1.2
 rw [Int.toNat_of_nonneg h1.1] at this
 exact this
mutual
theorem ZvB:∀(s:Sh) (vs w:List TV) (q:TD×List TV),s.fill vs=some q→s.fill (vs++w)=some (q.1,q.2++w)
 |.v t,vs,w,q,h=>by
  cases vs with
  |nil=>cases h
  |cons x r=>
   obtain ⟨y,h1,rfl⟩:=Zc (show (Ty.cast x.1 t x.2).map (fun y=>((TD.p (.v t y),r):TD×List TV))=some q from h)
   show (Ty.cast x.1 t x.2).map (fun y=>((TD.p (.v t y),r++w):TD×List TV))=_
   rw [h1];rfl
 |.elem t,vs,w,q,h=>by
  cases vs with
  |nil=>cases h
  |cons x r=>
   obtain ⟨y,h1,rfl⟩:=Zc (show (Ty.cast x.1 t x.2).map (fun y=>((TD.elem (.v t y),r):TD×List TV))=some q from h)
   show (Ty.cast x.1 t x.2).map (fun y=>((TD.elem (.v t y),r++w):TD×List TV))=_
   rw [h1];rfl
 |.sl nn t,vs,w,q,h=>by
  cases vs with
  |nil=>cases h
  |cons x r=>
   obtain ⟨y,h1,rfl⟩:=Zc (α:=(Ty.sl t).den) (show (Ty.cast x.1 (.sl t) x.2).map (fun (y:List t.den)=>((TD.p (.sl (some nn) t y),r):TD×List TV))=some q from h)
   show (Ty.cast x.1 (.sl t) x.2).map (fun (y:List t.den)=>((TD.p (.sl (some nn) t y),r++w):TD×List TV))=_
   rw [h1];rfl
 |.nil _,vs,w,q,h=>by cases h;rfl
 |.own _ _,vs,w,q,h=>by cases h;rfl
 |.ref _ _,vs,w,q,h=>by cases h;rfl
 |.mp _,vs,w,q,h=>by cases h;rfl
 |.rw _,vs,w,q,h=>by cases h;rfl
 |.rp j s p,vs,w,q,h=>by
  cases vs with
  |nil=>cases h
  |cons x r=>
   obtain ⟨y,h1,rfl⟩:=Zc (α:=Int) (show (Ty.cast x.1 (.int .i64) x.2).map (fun (i:Int)=>((TD.rp j (.ix i.toNat s::p),r):TD×List TV))=some q from h)
   show (Ty.cast x.1 (.int .i64) x.2).map (fun (i:Int)=>((TD.rp j (.ix i.toNat s::p),r++w):TD×List TV))=_
   rw [h1];rfl
 |.view _ _ _ _ _,vs,w,q,h=>by cases h;rfl
 |.fn g l,vs,w,q,h=>by
  simp only [Sh.fill] at h ⊢
  obtain ⟨y,h1,rfl⟩:=Zc h
  rw [fills_more l vs w y h1];rfl
 |.agg l,vs,w,q,h=>by
  simp only [Sh.fill] at h ⊢
  obtain ⟨y,h1,rfl⟩:=Zc h
  rw [fills_more l vs w y h1];rfl
 |.arr n s l,vs,w,q,h=>by
  simp only [Sh.fill] at h ⊢
  obtain ⟨y,h1,rfl⟩:=Zc h
  rw [fills_more l vs w y h1];rfl
 |.tup l,vs,w,q,h=>by
  simp only [Sh.fill] at h ⊢
  obtain ⟨y,h1,rfl⟩:=Zc h
  rw [fills_more l vs w y h1];rfl
 |.iface t x,vs,w,q,h=>by
  simp only [Sh.fill] at h ⊢
  obtain ⟨y,h1,rfl⟩:=Zc h
  rw [ZvB x vs w y h1];rfl
 |.ptr0,vs,w,q,h=>by cases h;rfl
 |.fn0,vs,w,q,h=>by cases h;rfl
 |.if0,vs,w,q,h=>by cases h;rfl
 |.map0,vs,w,q,h=>by cases h;rfl
 |.junk,vs,w,q,h=>by cases h;rfl
theorem fills_more:∀(l:List Sh) (vs w:List TV) (q:List TD×List TV),Sh.fills l vs=some q→Sh.fills l (vs++w)=some (q.1,q.2++w)
 |[],vs,w,q,h=>by simp only [Sh.fills] at h;cases h;rfl
 |s::r,vs,w,q,h=>by
  simp only [Sh.fills] at h ⊢
  obtain ⟨a,h1,h⟩:=yc.1 h
  obtain ⟨b,h2,rfl⟩:=Zc h
  rw [ZvB s vs w a h1,ya,fills_more r a.2 w b h2]
  rfl
end
theorem ZID {P:Program} {g:FuncId} {t:Ty} {e:TypeId} {rest:List Sh} {i1 i2:List Ty} {xs:List XSh} {M:Ty.dens i2→Option (XSh.sum xs)} (pk:Ty.dens i1→Ty.dens i2) (h:Fs.Ok (⟨g,.own 0 t::rest,[.log t e],i2,xs,M⟩:Fs P))
 (hp:∀x,ofD i2 (pk x)=ofD i1 x++[⟨.sl t,([]:List t.den)⟩]) (hf:∀x,∃a,Sh.fills rest (ofD i1 x)=some (a,[])):Fs.Ok (⟨g,.nil t::rest,[],i1,xs,fun x=>M (pk x)⟩:Fs P):=by
 intro x o hM
 obtain ⟨args,R,H,f1,f2,f3⟩:=h (pk x) o hM
 obtain ⟨a,ha⟩:=hf x
 have f1:Sh.fills (.own 0 t::rest) (ofD i2 (pk x))=some (args,R):=f1
 rw [hp x] at f1
 simp only [Sh.fills,Sh.fill,ya,fills_more rest _ _ _ ha,yy,Option.some.injEq,Prod.mk.injEq,List.nil_append] at f1
 obtain ⟨rfl,rfl⟩:=f1
 have f2:((Ty.cast (.sl t) (.sl t) ([]:List t.den)).map fun (y:List t.den)=>((TEnt.log t e y,[]):TEnt×List TV)).bind (fun a=>(ESh.fills [] a.2).map fun b=>(a.1::b.1,b.2))=some (H,[]):=f2
 have key:Ty.cast (.sl t) (.sl t) ([]:List t.den)=some ([]:List t.den):=XA (.sl t) ([]:List t.den)
 rw [key] at f2
 cases f2
 refine ⟨.p (.sl (some false) t [])::a,[],[], ?_,rfl,fun x' vs s' hs hf'=> ?_⟩
 ·show Sh.fills (.nil t::rest) (ofD i1 x)=_
  simp only [Sh.fills,Sh.fill,ya,ha,yy]
 ·obtain ⟨r,r1,r2⟩:=f3 x' vs s' hs hf'
  refine ⟨r,r1, ?_⟩
  have e1:TD.ers (lk [.log t e []]) (.own 0 none t none::a)=.own 0 none t.size []::TD.ers (lk []) a:=by
   have e0:TD.ers (lk [.log t e []]) a=TD.ers (lk []) a:=(ers_cont (fun id t'=>Zn7 (H:=[]) (T:=t) (e:=e) id t') a).symm
   rw [TD.ers,e0]
   congr 1
   rw [TD.er,show Z2 (lk [.log t e []]) 0 t none=[] from ZeN (H:=[])]
   rfl
  have r2:Con P g (TD.ers (lk [.log t e []]) (.own 0 none t none::a)) (erH [.log t e []]) (r.er (lk s'.2)) (erH s'.2):=r2
  rw [e1] at r2
  exact Zyg (H:=[]) (e:=e) r2
end Go.Ev
end
section
namespace Go.Ev
universe u
variable {O:Type u}
def ZcX (n:Nat) (k:Nat→O):O:=Nat.rec (motive:=fun _=>O) (k 0) (fun m _=>k (Nat.succ m)) n
theorem Xe (n:Nat) (k:Nat→O):ZcX n k=k n:=by cases n <;> rfl
def Zfb {α:Type} (f:α→(α→O)→O):List α→(List α→O)→O
 |[],k=>k []
 |a::r,k=>f a fun a=>Zfb f r fun r=>k (a::r)
theorem Vm {α:Type} {f:α→(α→O)→O} (hf:∀a k,f a k=k a):∀(l:List α) (k:List α→O),Zfb f l k=k l
 |[],k=>rfl
 |a::r,k=>by rw [Zfb,hf,Vm hf r]
def ZIE (n:Int) (k:Int→O):O:=match n with
 |.ofNat n=>ZcX n fun n=>k (.ofNat n)
 |.negSucc n=>ZcX n fun n=>k (.negSucc n)
theorem ZHb (n:Int) (k:Int→O):ZIE n k=k n:=by cases n <;> (rw [ZIE,Xe])
def ZsN (b:Bool) (k:Bool→O):O:=match b with
 |true=>k true
 |false=>k false
theorem ZhH (b:Bool) (k:Bool→O):ZsN b k=k b:=by cases b <;> rfl
mutual
def Ty.fo:(t:Ty)→t.den→(t.den→O)→O
 |.int _,x,k=>ZIE x k
 |.u8,x,k=>ZcX (yah x) fun n=>k (yaz n)
 |.u32,x,k=>ZcX (yai x) fun n=>k (ybl n)
 |.u64,x,k=>ZcX (UInt64.toNat x) fun n=>k (yv n)
 |.bool,x,k=>ZsN x k
 |.str,x,k=>k x
 |.sl t,x,k=>Zfb (Ty.fo t) x k
 |.arr _ t,x,k=>Zfb (Ty.fo t) x k
 |.st fs,x,k=>Ty.fos fs x k
def Ty.fos:(fs:List Ty)→Ty.dens fs→(Ty.dens fs→O)→O
 |[],_,k=>k ()
 |[t],x,k=>Ty.fo t x k
 |t::u::r,x,k=>Ty.fo t x.1 fun a=>Ty.fos (u::r) x.2 fun b=>k (a,b)
end
mutual
theorem Ty.fo_eq:∀(t:Ty) (x:t.den) (k:t.den→O),t.fo x k=k x
 |.int _,x,k=>ZHb x k
 |.u8,x,k=>by rw [Ty.fo,Xe];exact congrArg k UInt8.ofNat_toNat
 |.u32,x,k=>by rw [Ty.fo,Xe];exact congrArg k UInt32.ofNat_toNat
 |.u64,x,k=>by rw [Ty.fo,Xe];exact congrArg k UInt64.ofNat_toNat
 |.bool,x,k=>ZhH x k
 |.str,x,k=>rfl
 |.sl t,x,k=>by rw [Ty.fo];exact Vm (Ty.fo_eq t) x k
 |.arr _ t,x,k=>by rw [Ty.fo];exact Vm (Ty.fo_eq t) x k
 |.st fs,x,k=>Ty.fos_eq fs x k
theorem Ty.fos_eq:∀(fs:List Ty) (x:Ty.dens fs) (k:Ty.dens fs→O),Ty.fos fs x k=k x
 |[],_,k=>rfl
 |[t],x,k=>Ty.fo_eq t x k
 |t::u::r,x,k=>by rw [Ty.fos,Ty.fo_eq t];exact Ty.fos_eq (u::r) x.2 _
end
mutual
def TP.fo:TP→(TP→O)→O
 |.v t x,k=>t.fo x fun x=>k (.v t x)
 |.sl nn t xs,k=>Zfb t.fo xs fun xs=>k (.sl nn t xs)
 |.agg xs,k=>TP.fos xs fun xs=>k (.agg xs)
 |.arr n s xs,k=>TP.fos xs fun xs=>k (.arr n s xs)
 |.sll nn s xs,k=>TP.fos xs fun xs=>k (.sll nn s xs)
 |.iface t x,k=>TP.fo x fun x=>k (.iface t x)
 |x,k=>k x
def TP.fos:List TP→(List TP→O)→O
 |[],k=>k []
 |x::r,k=>TP.fo x fun x=>TP.fos r fun r=>k (x::r)
end
mutual
theorem TP.fo_eq:∀(x:TP) (k:TP→O),x.fo k=k x
 |.v t x,k=>by rw [TP.fo,Ty.fo_eq]
 |.sl nn t xs,k=>by rw [TP.fo,Vm (Ty.fo_eq t)]
 |.agg xs,k=>by rw [TP.fo,TP.fos_eq xs]
 |.arr n s xs,k=>by rw [TP.fo,TP.fos_eq xs]
 |.sll nn s xs,k=>by rw [TP.fo,TP.fos_eq xs]
 |.iface t x,k=>by rw [TP.fo,TP.fo_eq x]
 |.ptr0,k=>rfl
 |.fn0,k=>rfl
 |.if0,k=>rfl
 |.map0,k=>rfl
 |.fnv _,k=>rfl
theorem TP.fos_eq:∀(x:List TP) (k:List TP→O),TP.fos x k=k x
 |[],k=>rfl
 |x::r,k=>by rw [TP.fos,TP.fo_eq x,TP.fos_eq r]
end
def ZJy {α:Type} (f:α→(α→O)→O):Option α→(Option α→O)→O
 |none,k=>k none
 |some a,k=>f a fun a=>k (some a)
theorem ZHc {α:Type} {f:α→(α→O)→O} (hf:∀a k,f a k=k a):∀(l:Option α) (k:Option α→O),ZJy f l k=k l
 |none,k=>rfl
 |some a,k=>hf a _
mutual
def TD.fo:TD→(TD→O)→O
 |.p x,k=>x.fo fun x=>k (.p x)
 |.elem x,k=>x.fo fun x=>k (.elem x)
 |.own id nn t c,k=>ZcX id fun id=>ZJy (Zfb t.fo) c fun c=>k (.own id nn t c)
 |.ref id q,k=>ZcX id fun id=>k (.ref id q)
 |.view id q s lo n,k=>ZcX id fun id=>ZcX s fun s=>ZcX lo fun lo=>ZcX n fun n=>k (.view id q s lo n)
 |.agg xs,k=>TD.fos xs fun xs=>k (.agg xs)
 |.arr n s xs,k=>ZcX n fun n=>ZcX s fun s=>TD.fos xs fun xs=>k (.arr n s xs)
 |.fn f xs,k=>TD.fos xs fun xs=>k (.fn f xs)
 |.iface t x,k=>TD.fo x fun x=>k (.iface t x)
 |.tup xs,k=>TD.fos xs fun xs=>k (.tup xs)
 |.mp id,k=>ZcX id fun id=>k (.mp id)
 |.rv id v s lo n,k=>ZcX id fun id=>ZcX v fun v=>ZcX s fun s=>ZcX lo fun lo=>ZcX n fun n=>k (.rv id v s lo n)
 |.rref id v q,k=>ZcX id fun id=>ZcX v fun v=>k (.rref id v q)
 |.rw id,k=>ZcX id fun id=>k (.rw id)
 |.rp id q,k=>ZcX id fun id=>k (.rp id q)
 |.junk,k=>k .junk
def TD.fos:List TD→(List TD→O)→O
 |[],k=>k []
 |x::r,k=>TD.fo x fun x=>TD.fos r fun r=>k (x::r)
end
mutual
theorem TD.fo_eq:∀(x:TD) (k:TD→O),x.fo k=k x
 |.p x,k=>by rw [TD.fo,TP.fo_eq]
 |.elem x,k=>by rw [TD.fo,TP.fo_eq]
 |.own id nn t c,k=>by rw [TD.fo,Xe,ZHc (Vm (Ty.fo_eq t))]
 |.ref id q,k=>by rw [TD.fo,Xe]
 |.view id q s lo n,k=>by rw [TD.fo,Xe,Xe,Xe,Xe]
 |.agg xs,k=>by rw [TD.fo,TD.fos_eq xs]
 |.arr n s xs,k=>by rw [TD.fo,Xe,Xe,TD.fos_eq xs]
 |.fn f xs,k=>by rw [TD.fo,TD.fos_eq xs]
 |.iface t x,k=>by rw [TD.fo,TD.fo_eq x]
 |.tup xs,k=>by rw [TD.fo,TD.fos_eq xs]
 |.mp id,k=>by rw [TD.fo,Xe]
 |.rv id v s lo n,k=>by rw [TD.fo,Xe,Xe,Xe,Xe,Xe]
 |.rref id v q,k=>by rw [TD.fo,Xe,Xe]
 |.rw id,k=>by rw [TD.fo,Xe]
 |.rp id q,k=>by rw [TD.fo,Xe]
 |.junk,k=>rfl
theorem TD.fos_eq:∀(x:List TD) (k:List TD→O),TD.fos x k=k x
 |[],k=>rfl
 |x::r,k=>by rw [TD.fos,TD.fo_eq x,TD.fos_eq r]
end
def TEnt.fo (e:TEnt) (k:TEnt→O):O:=match e with
 |.var d st=>d.fo fun d=>ZsN st fun st=>k (.var d st)
 |.log t e xs=>Zfb t.fo xs fun xs=>k (.log t e xs)
 |.map tid a b l=>Zfb (fun q k=>a.fo q.1 fun x=>b.fo q.2 fun y=>k (x,y)) l fun l=>k (.map tid a b l)
 |.row v s st e d=>ZcX v fun v=>ZcX s fun s=>ZsN st fun st=>d.fo fun d=>k (.row v s st e d)
 |.rowT t v st e xs=>ZsN st fun st=>Zfb t.fo xs fun xs=>k (.rowT t v st e xs)
 |.rowN t np v st e a b=>ZsN st fun st=>Zfb t.fo a fun a=>Zfb t.fo b fun b=>k (.rowN t np v st e a b)
 |.rowM t np v st e a d b=>ZsN st fun st=>Zfb t.fo a fun a=>d.fo fun d=>Zfb t.fo b fun b=>k (.rowM t np v st e a d b)
 |.gone=>k .gone
theorem TEnt.fo_eq (e:TEnt) (k:TEnt→O):e.fo k=k e:=by
 cases e with
 |var d st=>rw [TEnt.fo,TD.fo_eq,ZhH]
 |log t e xs=>rw [TEnt.fo,Vm (Ty.fo_eq t)]
 |map tid a b l=>rw [TEnt.fo,Vm fun q k=>by rw [Ty.fo_eq a,Ty.fo_eq b]]
 |row v s st e d=>rw [TEnt.fo,Xe,Xe,ZhH,TD.fo_eq]
 |rowT t v st e xs=>rw [TEnt.fo,ZhH,Vm (Ty.fo_eq t)]
 |rowN t np v st e a b=>rw [TEnt.fo,ZhH,Vm (Ty.fo_eq t),Vm (Ty.fo_eq t)]
 |rowM t np v st e a d b=>rw [TEnt.fo,ZhH,Vm (Ty.fo_eq t),TD.fo_eq,Vm (Ty.fo_eq t)]
 |gone=>rfl
def foS (a:List TD) (h:List TEnt) (k:List TD→List TEnt→O):O:=TD.fos a fun a=>Zfb TEnt.fo h fun h=>k a h
theorem ZIF (a:List TD) (h:List TEnt) (k:List TD→List TEnt→O):foS a h k=k a h:=by rw [foS,TD.fos_eq,Vm TEnt.fo_eq]
def foX:(l:List XSh)→XSh.sum l→(XSh.sum l→O)→O
 |[],x,k=>k x
 |[e],x,k=>Ty.fos e.ty x k
 |e::f::r,x,k=>match (x:Ty.dens e.ty⊕XSh.sum (f::r)) with
  |.inl x=>Ty.fos e.ty x fun x=>k (.inl x:Ty.dens e.ty⊕XSh.sum (f::r))
  |.inr x=>foX (f::r) x fun x=>k (.inr x:Ty.dens e.ty⊕XSh.sum (f::r))
theorem ZFj:∀(l:List XSh) (x:XSh.sum l) (k:XSh.sum l→O),foX l x k=k x
 |[],x,k=>rfl
 |[e],x,k=>Ty.fos_eq _ _ _
 |e::f::r,x,k=>by
  unfold foX
  cases (x:Ty.dens e.ty⊕XSh.sum (f::r)) with
  |inl x=>exact Ty.fos_eq _ _ _
  |inr x=>exact ZFj (f::r) x _
def Fs.fo {P:Program} (s:Fs P):Fs P:={ s with M:=fun x=>Ty.fos s.ins x fun x=>(s.M x).bind fun o=>foX s.xs o some}
theorem Fs.fo_ok {P:Program} {s:Fs P} (h:s.Ok):s.fo.Ok:=by
 have e:s.fo=s:=by
  unfold Fs.fo
  have:(fun x=>Ty.fos s.ins x fun x=>(s.M x).bind fun o=>foX s.xs o some)=s.M:=by
   funext x
   rw [Ty.fos_eq]
   cases s.M x with
   |none=>rfl
   |some o=>exact ZFj _ _ _
  rw [this]
 rw [e]
 exact h
theorem Zy8 {P:Program}:∀{l:List (Fs P)},AllOk l→AllOk (l.map Fs.fo)
 |[],_=>trivial
 |s::r,h=>⟨Fs.fo_ok h.1,Zy8 h.2⟩
end Go.Ev
end
section
namespace Go.Ev
def Zw9 (h:List TEnt) (n0:Nat) (r:TD):List Nat:=
 let got:=Zqd h 100000 (r.look++yo n0) []
 ((yo h.length).drop n0).filter got.contains
def Ty.mkFs (f:(T:Ty)→TD→Option T.den):(fs:List Ty)→List TD→Option (Ty.dens fs)
 |[],[]=>some ()
 |[t],[d]=>f t d
 |t::u::r,d::ds=>Zml (f t d) (Ty.mkFs f (u::r) ds)
 |_,_=>none
def mkL {T:Ty} (f:TD→Option T.den):List TD→Option (List T.den)
 |[]=>some []
 |d::r=>(Zml (f d) (mkL f r)).map fun q=>q.1::q.2
def ZFk (H:List TEnt) (id:Nat) (u:Ty):Option (List u.den):=
 match H[id]? with
 |some (.rowT u' v false e l)=>Ty.castL u' u l
 |_=>none
theorem ZFl {H:List TEnt} {id:Nat} {u:Ty} {l:List u.den} (h:ZFk H id u=some l):DeepR (erH H) ((TD.rw id).er (lk H)) ((Ty.sl u).enc l):=by
 unfold ZFk at h
 split at h
 ·rename_i u' v e l' hd
  obtain ⟨e1,h⟩:=ZD h
  subst e1
  subst h
  have hE:(erH H)[id]? =some (.row v.length u'.size false e (.p (.arr l.length u'.size (l.map u'.enc)))):=Z3 hd
  have:=DeepR.rvp (lo:=0) (n:=l.length) hE (by omega)
  rw [(ZbL hd).1,Zz5]
  rw [List.drop_zero, ←yp (f:=u'.enc),List.take_length,yp] at this
  exact this
 ·cases h
def Zy9 (H:List TEnt):Nat→(T:Ty)→TD→Option T.den
 |0,_,_=>none
 |n+1,T,d=>match d with
  |.p x=>TP.to Zmm x T
  |.own id nn t c=>ZEi true t (Z2 (lk H) id t c) T
  |.agg ds=>ZEj (fun fs=>Ty.mkFs (Zy9 H n) fs ds) T
  |.rw id=>match T with
   |.sl u=>ZFk H id u
   |_=>none
  |.rv id v s lo k=>match T with
   |.sl u=>match H[id]? with
    |some (.row w s' false e d)=>if (w==v&&s'==s&&s==u.size)=true then match d with
      |.p x=>x.arow.bind fun r=>(Ty.castL r.t u r.l).bind fun l=>if decide (lo+k≤r.n)=true then some ((l.drop lo).take k) else none
      |.arr N s2 ds=>if (s2==s&&decide (lo+k≤N))=true then (mkL (Zy9 H n u) ds).map fun (l:List u.den)=>(l.drop lo).take k else none
      |_=>none
     else none
    |_=>none
   |_=>none
  |_=>none
theorem ZB1 {H:List Ent} {L:Lk} {f:(T:Ty)→TD→Option T.den} (hf:∀T d y,f T d=some y→DeepR H (d.er L) (T.enc y)):∀(fs:List Ty) (ds:List TD) (y:Ty.dens fs),Ty.mkFs f fs ds=some y→
 (TD.ers L ds).length=(Ty.encs fs y).length∧∀(i:Nat) (d:Dv) (z:Pl),(TD.ers L ds)[i]? =some d→(Ty.encs fs y)[i]? =some z→DeepR H d z
 |[],[],y,h=>⟨rfl,fun i d z h1 _=>by simp [TD.ers] at h1⟩
 |[],_::_,y,h=>by cases h
 |[t],[],y,h=>by cases h
 |[t],[d],y,h=>by
  refine ⟨rfl,fun i d' z h1 h2=> ?_⟩
  cases i with
  |zero=>cases h1;cases h2;exact hf t d y h
  |succ i=>simp [TD.ers] at h1
 |[t],_::_::_,y,h=>by cases h
 |t::u::r,[],y,h=>by cases h
 |t::u::r,d::ds,y,h=>by
  obtain ⟨h1,h2⟩:=Qm (α:=t.den) (β:=Ty.dens (u::r)) h
  obtain ⟨h3,h4⟩:=ZB1 hf (u::r) ds y.2 h2
  refine ⟨by rw [TD.ers,Ty.encs,yad,yad,h3],fun i d' z k1 k2=> ?_⟩
  cases i with
  |zero=>cases k1;cases k2;exact hf t d y.1 h1
  |succ i=>exact h4 i d' z k1 k2
theorem ZFm {H:List Ent} {L:Lk} {T:Ty} {f:TD→Option T.den} (hf:∀d y,f d=some y→DeepR H (d.er L) (T.enc y)):∀(ds:List TD) (l:List T.den),mkL f ds=some l→
 (TD.ers L ds).length=(l.map T.enc).length∧∀(i:Nat) (d:Dv) (z:Pl),(TD.ers L ds)[i]? =some d→(l.map T.enc)[i]? =some z→DeepR H d z
 |[],l,h=>by cases h;exact ⟨rfl,fun i d z h1 _=>by simp [TD.ers] at h1⟩
 |d::ds,l,h=>by
  obtain ⟨q,h1,rfl⟩:=Zc h
  obtain ⟨h1,h2⟩:=Qm h1
  obtain ⟨h3,h4⟩:=ZFm hf ds q.2 h2
  refine ⟨by rw [TD.ers,yab,yad,yad,h3],fun i d' z k1 k2=> ?_⟩
  cases i with
  |zero=>cases k1;cases k2;exact hf d q.1 h1
  |succ i=>exact h4 i d' z k1 k2
theorem ZsO {H:List TEnt}:∀(n:Nat) (T:Ty) (d:TD) (y:T.den),Zy9 H n T d=some y→DeepR (erH H) (d.er (lk H)) (T.enc y)
 |0,_,_,_,h=>by cases h
 |n+1,T,d,y,h=>by
  unfold Zy9 at h
  split at h
  ·exact .wk (.p _) (ZBw h)
  ·rename_i id nn t c
   obtain ⟨l,_,e1,rfl⟩:=Zo8 (nn:=none) h
   rw [e1,TD.er]
   exact .wk (.own id nn t.size _) (PlWk.sl_mk (PlsWk.refl _))
  ·rename_i ds
   obtain ⟨fs,z,h1,e1⟩:=Zo9 h
   rw [e1,TD.er]
   obtain ⟨h2,h3⟩:=ZB1 (fun T d y=>ZsO n T d y) fs ds z h1
   exact .agg h2 h3
  ·rename_i id
   cases T with
   |sl u=>exact ZFl h
   |_=>cases h
  ·rename_i id v s lo k
   split at h
   ·rename_i u
    split at h
    ·rename_i w s' e dd hd
     obtain ⟨hk,g⟩:=Za h
     clear h
     simp only [yg,beq_iff_eq] at hk
     obtain ⟨⟨hk1,hk2⟩,hk3⟩:=hk
     have hE:=Z3 hd
     rw [hk1,hk2,hk3] at hE
     split at g
     ·rename_i x
      obtain ⟨r,p1,g1⟩:=yc.1 g
      obtain ⟨l,p2,g2⟩:=yc.1 g1
      obtain ⟨p3,g3⟩:=Za g2
      cases g3
      obtain ⟨rn,rt,rl⟩:=r
      obtain ⟨e1,p2⟩:=ZD p2
      dsimp only at e1 p2 p3
      subst e1
      subst p2
      rw [TEnt.er,TD.er,V4 p1] at hE
      have:=DeepR.rvp hE (of_decide_eq_true p3)
      rw [Zz5,yca,List.map_drop,TD.er,hk3]
      exact this
     ·rename_i N s2 ds
      obtain ⟨p1,g1⟩:=Za g
      simp only [yg,beq_iff_eq,decide_eq_true_eq] at p1
      obtain ⟨q1,p1⟩:=p1
      obtain ⟨l,p2,g2⟩:=Zc g1
      subst g2
      obtain ⟨h2,h3⟩:=ZFm (fun d y=>ZsO n u d y) ds l p2
      rw [TEnt.er,TD.er,q1,hk3] at hE
      have:=DeepR.rva hE p1 h2 h3
      rw [Zz5,yca,List.map_drop,TD.er,hk3]
      exact this
     ·cases g
    ·cases h
   ·cases h
  ·cases h
def Zza:TEnt→TEnt
 |.row v s _ e d=>.row v s false e d
 |.rowT t v _ e l=>.rowT t v false e l
 |e=>e
def Ziv (ids:List Nat) (H:List TEnt):List TEnt:=(yo H.length).zipWith (fun i e=>if ids.contains i then Zza e else e) H
theorem ZFn (e:TEnt):lkE (some (Zza e))=lkE (some e):=by cases e <;> rfl
theorem Zqg (ids:List Nat) (H:List TEnt) (i:Nat):(Ziv ids H)[i]? =(H[i]?).map fun e=>if ids.contains i then Zza e else e:=by
 unfold Ziv
 rw [List.getElem?_zipWith]
 rcases ybz i H.length with h|h
 ·rw [List.getElem?_range h,yw h]
  rfl
 ·rw [yan (by simpa using h),yan h]
  rfl
theorem ZsP (ids:List Nat) (H:List TEnt):lk (Ziv ids H)=lk H:=by
 funext i
 unfold lk
 rw [Zqg]
 cases H[i]? with
 |none=>rfl
 |some e=>
  show lkE (some (if ids.contains i=true then Zza e else e))=_
  split
  ·exact ZFn e
  ·rfl
theorem ZAV (ids:List Nat) (H:List TEnt):WkH (erH H) (erH (Ziv ids H)):=by
 refine ZAG (by rw [ZM,ZM];unfold Ziv;simp) fun i a b h1 h2=> ?_
 unfold erH at h1 h2
 rw [yx] at h1 h2
 rw [ZsP,Zqg] at h2
 cases he:H[i]? with
 |none=>rw [he] at h1;cases h1
 |some e=>
  rw [he] at h1 h2
  cases h1
  cases h2
  show WkE (e.er (lk H)) (TEnt.er (lk H) (if ids.contains i=true then Zza e else e))
  split
  ·cases e <;> first|exact .refl _|exact .lock
  ·exact .refl _
def ZAW:List TEnt→Nat→Bool
 |H,i=>match H[i]? with
  |some (.row _ _ _ _ _)=>true
  |some (.rowT _ _ _ _ _)=>true
  |_=>false
def ZB2 (P:Program) (H:List TEnt) (t:TypeId) (d:TD):Option TD:=
 match d with
 |.p x=>some (.p x)
 |d=>(Zjv P tyD t).bind fun T=>(Zy9 H 100 T d).map fun y=>.p (.v T y)
theorem Zzb {P:Program} {H:List TEnt} {t:TypeId} {d e:TD} (h:ZB2 P H t d=some e):DeepP (erH H) (d.er (lk H)) (e.er (lk H)):=by
 unfold ZB2 at h
 split at h
 ·cases h;exact .refl _
 ·obtain ⟨T,h1,h⟩:=yc.1 h
  obtain ⟨y,h2,rfl⟩:=Zc h
  exact .deep (ZsO _ _ _ _ h2)
def Zxa (P:Program) (H:List TEnt):List TypeId→List TD→Option (List TD)
 |[],[]=>some []
 |t::r,d::ds=>match ZB2 P H t d,Zxa P H r ds with
  |some a,some b=>some (a::b)
  |_,_=>none
 |_,_=>none
theorem ZvC {P:Program} {H:List TEnt}:∀{ts:List TypeId} {ds es:List TD},Zxa P H ts ds=some es→DeepL (erH H) (TD.ers (lk H) ds) (TD.ers (lk H) es)
 |[],[],es,h=>by cases h;exact .nil
 |[],_::_,es,h=>by cases h
 |_::_,[],es,h=>by cases h
 |t::r,d::ds,es,h=>by
  simp only [Zxa] at h
  split at h
  ·rename_i a b h1 h2
   cases h
   exact .cons (Zzb h1) (ZvC h2)
  ·cases h
def ZFo (P:Program) (H:List TEnt) (ts:List TypeId) (r:TD):Option TD:=
 match ts with
 |[t]=>ZB2 P H t r
 |ts=>match r with
  |.tup ds=>(Zxa P H ts ds).map .tup
  |_=>none
theorem ZFp {P:Program} {H:List TEnt} {ts:List TypeId} {r r':TD} (h:ZFo P H ts r=some r'):DeepT (erH H) (r.er (lk H)) (r'.er (lk H)):=by
 unfold ZFo at h
 split at h
 ·exact .one (Zzb h)
 ·split at h
  ·obtain ⟨es,h1,rfl⟩:=Zc h
   exact .tup (ZvC h1)
  ·cases h
def ZDt {O:Type} (P:Program) (ts:List TypeId) (r:TD) (H:List TEnt) (K:TD→List TEnt→Option O):Option O:=
 match ts with
 |[]=>K r H
 |ts=>(ZFo P (Ziv ((Zqd H 100000 r.look []).filter (ZAW H)) H) ts r).bind fun r'=>K r' (Ziv ((Zqd H 100000 r.look []).filter (ZAW H)) H)
theorem ZvD {O:Type} {P:Program} {ts:List TypeId} {r:TD} {H:List TEnt} {K:TD→List TEnt→Option O} {out:O} {g:FuncId} {args:List Dv} {H0:List Ent} (h:ZDt P ts r H K=some out) (hc:Con P g args H0 (r.er (lk H)) (erH H)):
 ∃r' H',K r' H'=some out∧Con P g args H0 (r'.er (lk H')) (erH H'):=by
 unfold ZDt at h
 split at h
 ·exact ⟨_,_,h,hc⟩
 ·obtain ⟨r',h1,h2⟩:=yc.1 h
  generalize (Zqd H 100000 r.look []).filter (ZAW H)=ids at h1 h2
  refine ⟨_,_,h2,ZEh hc (ZAV ids H) ?_⟩
  have:=ZFp h1
  rw [ZsP] at this ⊢
  exact this
def ZDu {O:Type} (h:List TEnt) (n0:Nat) (ds:List TD) (K:TD→List TEnt→Option O):Option O:=
 let keep:=Zw9 h n0 (ZsK ds)
 if once (yo n0++keep) then (match Dv.rn (toIds (yo n0++keep)) ((ZsK ds).er (lk h)) with
  |some _=>(ZsK ds).rn (toIds (yo n0++keep))
  |none=>(ZsK (ds.map (TD.arg (lk h)))).rn (toIds (yo n0++keep))).bind fun r=>
  (WN h (yo n0++keep) (yo n0++keep)).bind fun h2=>K r h2
 else none
section
variable {P:Program}
def ZHd (P:Program) (his:FuncId→HI) (l:List (Fs P)) (mt:List (TypeId×String×FuncId)):Nat→(O:Type)→FuncId→List TD→List TEnt→(TD→List TEnt→Option O)→Option O
 |0,_,_,_,_,_=>none
 |n+1,O,g,args,H,K=>foS args H fun args H=>match P.funcs[g]? with
  |some fn=>match fn.body with
   |some c=>if decide (args.length≤fn.ntmps)=true then
     evT P { hi:=his g,un:=1000000} ⟨l,ZHd P his l mt n,mt⟩ c 0 0 (args++yr (fn.ntmps - args.length) .junk) H fun ex a h=>match ex with
      |.exit _=>none
      |_=>Zul P a h fn.results.toList fun ds _=>ZDu h H.length ds fun r h=>ZDt P (his g).deep r h fun r h=>foS [r] h fun rs h=>match rs with
       |[r]=>K r h
       |_=>none
     else none
   |none=>none
  |none=>none
theorem ZB3 {his:FuncId→HI} {l:List (Fs P)} {mt:List (TypeId×String×FuncId)} (hl:AllOk l) (hm:MtOk P mt):∀(n:Nat),HdOk P (ZHd P his l mt n)
 |0=>fun _ _ _ _ _ _ h=>by cases h
 |n+1=>fun O g args H K out hM=>by
  unfold ZHd at hM
  simp only [ZIF] at hM
  split at hM
  ·rename_i fn hf
   split at hM
   ·rename_i c hb1
    obtain ⟨hn,hM⟩:=Za hM
    have hn:=of_decide_eq_true hn
    have hlen:(args++yr (fn.ntmps - args.length) TD.junk).length=fn.ntmps:=by
     rw [yj,ycl]
     omega
    obtain ⟨ex,a,hh,k1,k2,k3⟩:=WP (N:=fn.ntmps) ⟨hl,ZB3 hl hm n,hm⟩ c _ _ _ _ _ hlen (fun k b hk lp h=>by cases h) (fun k b hk lp h=>by cases h) hM
    have hex:(ex=.ret∨ex=.normal)∧(Zul P a hh fn.results.toList fun ds _=>ZDu hh H.length ds fun r h=>ZDt P (his g).deep r h K)=some out:=by
     cases ex with
     |exit _=>cases k1
     |normal=>exact ⟨.inr rfl,k1⟩
     |ret=>exact ⟨.inl rfl,k1⟩
    obtain ⟨hex,k1⟩:=hex
    obtain ⟨ds,hs,C,g1,g2,g3⟩:=ZhG _ _ k1
    unfold ZDu at g1
    dsimp only at g1
    generalize Zw9 hh H.length (ZsK ds)=keep at g1
    obtain ⟨g5,g1⟩:=Za g1
    obtain ⟨r,g6,g1⟩:=yc.1 g1
    obtain ⟨e2,g7,g1⟩:=yc.1 g1
    refine ZvD g1 ?_
    have hfin:fin P fn (TD.ers (lk hh) a) (erH hh) (erH H).length keep hs=some (C,r.er (lk e2),erH e2):=by
     unfold fin
     have:=g3 []
     rw [ybh] at this
     rw [this]
     dsimp only
     rw [ZM,g5, ←ZlG,show subEnts (erH hh) _ _=some (erH e2) from WO (Za4 g7) g7]
     split at g6
     ·rename_i r0 hr0
      have e4:=ZgA (Za4 g7) _ _ g6
      rw [e4]
     ·rename_i hr0
      have e4:=ZgA (Za4 g7) _ _ g6
      rw [ZlG,ZL,yap] at e4
      rw [hr0,show (TD.ers (lk hh) ds).map Dv.arg=ds.map (TD.er (lk hh) ∘ TD.arg (lk hh)) by
       rw [ZL,yap]
       exact ycd fun d _=>(ZAT d).symm,e4]
    have hrun:Wu P c (TD.ers (lk H) args++yr (fn.ntmps - (TD.ers (lk H) args).length) .junk) (erH H) ex (TD.ers (lk hh) a) (erH hh):=by
     have e5:TD.ers (lk H) (args++yr (fn.ntmps - args.length) TD.junk)=TD.ers (lk H) args++yr (fn.ntmps - (TD.ers (lk H) args).length) .junk:=by
      rw [Zip,ZL,ZL,yaf,List.map_replicate]
      rfl
     rw [←e5]
     exact k3
    exact Zki hf hb1 hrun hex hfin g2
   ·cases hM
  ·cases hM
def ZIG (P:Program) (his:FuncId→HI) (l:List (Fs P)) (mt:List (TypeId×String×FuncId)) (n:Nat) (g:FuncId):Option Bool:=
 ZHd P his l mt n Bool g [] [] fun r h=>match h with
  |[]=>r.boolT
  |_=>none
theorem ZHe {his:FuncId→HI} {l:List (Fs P)} {mt:List (TypeId×String×FuncId)} {n:Nat} {g:FuncId} {b:Bool} (hl:AllOk l) (hm:MtOk P mt) (h:ZIG P his l mt n g=some b):Con P g [] [] (.p (.bool b)) []:=by
 obtain ⟨r,H',h1,h2⟩:=ZB3 hl hm n _ _ _ _ _ _ h
 split at h1
 ·rw [ZhC h1] at h2
  exact h2
 ·cases h1
theorem ZIH {his:FuncId→HI} {l:List (Fs P)} {mt:List (TypeId×String×FuncId)} {n:Nat} {g:FuncId} {b:Bool} (hl:AllOk l) (hm:MtOk P mt) (h:ZIG P his l mt n g=some b):
 Fs.Ok (⟨g,[],[],[],[⟨.ret,[(0,.v .bool)],[],[.bool]⟩],fun _=>some b⟩:Fs P):=by
 intro x o hM
 cases hM
 refine ⟨[],[],[],rfl,rfl,fun e vs s' hs hf=> ?_⟩
 obtain ⟨rfl,rfl⟩:=hs
 cases hf
 exact ⟨_,rfl,ZHe hl hm h⟩
end
theorem okN {P:Program} (s:Nat→Fs P) (h:(s fuel).Ok):(s 18446744073709551616).Ok:=by
 rw [Zej] at h
 exact h
end Go.Ev
end
section
namespace Go.Ev
theorem ZFq {P:Program} {g:FuncId} {args:List Dv} {H H1 H2:List Ent} {r r2:Dv} {keep:List Nat} (h:Con P g args H r H1) (ho:once (yo H.length++keep)=true)
 (hin:subEnts H1 (yo H.length++keep) (yo H.length++keep)=some H2) (hr:r.rn (toIds (yo H.length++keep))=some r2):Con P g args H r2 H2:=by
 intro σ vs ok e hv
 refine Calls.mono (h σ vs ok e hv) ?_
 rintro e' w' ⟨v,σ',h1,h2,h3,h4,h5,h6⟩
 subst h3
 subst e
 exact ⟨v,Zmk σ' (yo σ.H.length++keep) H2,h1,h2,rfl,Zrf ok h4 ho hin,Zre h5 ho hin,ZeY (Zio hin) hr h6⟩
def ZB4 (h:List TEnt) (n0:Nat) (r:TD) (e:XSh):Option (Ty.dens e.ty):=
 match e.sl with
 |[(0,rs)]=>(ZFi h rs e.es n0 r).bind fun keep=>
  if once (yo n0++keep) then (r.rn (toIds (yo n0++keep))).bind fun r=>
   (WN h (yo n0++keep) (yo n0++keep)).bind fun h2=>(Sh.mt (lk h2) rs r).bind fun q=>(ESh.mts (lk h2) e.es h2).bind fun w=>toD e.ty (q.2++w.2)
  else none
 |_=>none
def ZsQ (h:List TEnt) (n0:Nat) (r:TD):(l:List XSh)→Option (XSh.sum l)
 |[]=>none
 |[e]=>ZB4 h n0 r e
 |e::f::q=>match ZB4 h n0 r e with
  |some x=>some (Sum.inl x:Ty.dens e.ty⊕XSh.sum (f::q))
  |none=>(ZsQ h n0 r (f::q)).map fun x=>(Sum.inr x:Ty.dens e.ty⊕XSh.sum (f::q))
theorem Zqh {h:List TEnt} {n0:Nat} {r:TD}:∀{l:List XSh} {o:XSh.sum l},ZsQ h n0 r l=some o→∀e vs,ZyO l o e vs→∃x,ZB4 h n0 r e=some x∧vs=ofD e.ty x
 |[],_,k,_,_,_=>by cases k
 |[e],o,k,x,vs,hs=>by
  obtain ⟨rfl,rfl⟩:=hs
  exact ⟨o,k,rfl⟩
 |e::f::q,o,k,x,vs,hs=>by
  simp only [ZsQ] at k
  split at k
  ·rename_i y hy
   cases k
   obtain ⟨rfl,rfl⟩:=hs
   exact ⟨y,hy,rfl⟩
  ·obtain ⟨y,h1,h2⟩:=Zc k
   subst h2
   exact Zqh h1 x vs hs
section
variable {P:Program}
def fnD (P:Program) (fi:FI) (specs:Sp P) (g:FuncId) (ps:List Sh) (es:List ESh) (ins:List Ty) (xs:List XSh):Ty.dens ins→Option (XSh.sum xs):=fun x=>
 match P.funcs[g]? with
 |some fn=>match fn.body with
  |some c=>(Sh.fills ps (ofD ins x)).bind fun q=>(ESh.fills es q.2).bind fun w=>if w.2.isEmpty then
    evT P fi specs c 0 0 (q.1++yr (fn.ntmps - q.1.length) .junk) w.1 fun ex a h=>match ex with
     |.exit _=>none
     |_=>Zul P a h fn.results.toList fun ds _=>ZDu h w.1.length ds fun r h=>ZDt P fi.hi.deep r h fun r h=>ZsQ h w.1.length r xs
    else none
  |none=>none
 |none=>none
theorem ZHf {fi:FI} {specs:Sp P} {g:FuncId} {ps:List Sh} {es:List ESh} {ins:List Ty} {xs:List XSh} {M:Ty.dens ins→Option (XSh.sum xs)} (ok:SpOk specs) (hl:ZsI P g (Zp P g) fi.lp) (hn:ps.length≤Zp P g)
 (h:∀x,fnD P fi specs g ps es ins xs x=M x) (hb:Zvz P (Zp P g) (Zdw P g) fi.bk:=by exact True.intro):Fs.Ok (⟨g,ps,es,ins,xs,M⟩:Fs P):=by
 intro x o hM
 have hM:M x=some o:=hM
 rw [←h x] at hM
 have hl':=ZB0 hl
 unfold fnD at hM
 split at hM
 ·rename_i fn hf
  split at hM
  ·rename_i c hb1
   obtain ⟨q,h1,hM⟩:=yc.1 hM
   obtain ⟨w,h2,hM⟩:=yc.1 hM
   obtain ⟨h3,hM⟩:=Za hM
   have hN:Zp P g=fn.ntmps:=by unfold Zp;rw [hf]
   have hc:Zdw P g=c:=by unfold Zdw;rw [hf];dsimp only;rw [hb1];rfl
   rw [hc,hN] at hl' hb
   have hb0:=Zw8 hb
   rw [hN] at hn
   have hlen:(q.1++yr (fn.ntmps - q.1.length) TD.junk).length=fn.ntmps:=by
    rw [yj,ycl,ZlC h1]
    omega
   obtain ⟨ex,a,hh,k1,k2,k3⟩:=WP ok c _ _ _ _ _ hlen hl' hb0 hM
   have hex:(ex=.ret∨ex=.normal)∧(Zul P a hh fn.results.toList fun ds _=>ZDu hh w.1.length ds fun r h=>ZDt P fi.hi.deep r h fun r h=>ZsQ h w.1.length r xs)=some o:=by
    cases ex with
    |exit _=>cases k1
    |normal=>exact ⟨.inr rfl,k1⟩
    |ret=>exact ⟨.inl rfl,k1⟩
   obtain ⟨hex,k1⟩:=hex
   obtain ⟨ds,hs,C,g1,g2,g3⟩:=ZhG _ _ k1
   refine ⟨q.1,q.2,w.1,h1, ?_,fun e vs s' hsel hfs=> ?_⟩
   ·rw [h2]
    have:w.2=[]:=by simpa using h3
    rw [←this]
   unfold ZDu at g1
   dsimp only at g1
   generalize Zw9 hh w.1.length (ZsK ds)=keep at g1
   obtain ⟨g5,g1⟩:=Za g1
   obtain ⟨r,g6,g1⟩:=yc.1 g1
   obtain ⟨e2,g7,g1⟩:=yc.1 g1
   have hrun:Wu P c (TD.ers (lk w.1) q.1++yr (fn.ntmps - (TD.ers (lk w.1) q.1).length) .junk) (erH w.1) ex (TD.ers (lk hh) a) (erH hh):=by
    have e5:TD.ers (lk w.1) (q.1++yr (fn.ntmps - q.1.length) TD.junk)=TD.ers (lk w.1) q.1++yr (fn.ntmps - (TD.ers (lk w.1) q.1).length) .junk:=by
     rw [Zip,ZL,ZL,yaf,List.map_replicate]
     rfl
    rw [←e5]
    exact k3
   have hfin:fin P fn (TD.ers (lk hh) a) (erH hh) (erH w.1).length keep hs=some (C,r.er (lk e2),erH e2):=by
    unfold fin
    have:=g3 []
    rw [ybh] at this
    rw [this]
    dsimp only
    rw [ZM,g5, ←ZlG,show subEnts (erH hh) _ _=some (erH e2) from WO (Za4 g7) g7]
    split at g6
    ·rename_i r0 hr0
     have e4:=ZgA (Za4 g7) _ _ g6
     rw [e4]
    ·rename_i hr0
     have e4:=ZgA (Za4 g7) _ _ g6
     rw [ZlG,ZL,yap] at e4
     rw [hr0,show (TD.ers (lk hh) ds).map Dv.arg=ds.map (TD.er (lk hh) ∘ TD.arg (lk hh)) by
      rw [ZL,yap]
      exact ycd fun d _=>(ZAT d).symm,e4]
   obtain ⟨r',H',m1,m2⟩:=ZvD g1 (Zki hf hb1 hrun hex hfin g2)
   obtain ⟨o1,m3,hvs⟩:=Zqh m1 e vs hsel
   unfold ZB4 at m3
   split at m3
   case h_2=>cases m3
   rename_i rs hsl
   obtain ⟨keep2,n1,m3⟩:=yc.1 m3
   obtain ⟨n2,m3⟩:=Za m3
   obtain ⟨r3,n3,m3⟩:=yc.1 m3
   obtain ⟨e3,n4,m3⟩:=yc.1 m3
   obtain ⟨z,g8,m3⟩:=yc.1 m3
   obtain ⟨y,g9,m3⟩:=yc.1 m3
   obtain ⟨b1,b2⟩:=ZhF g9
   have hcc:∀id t,Z2 (lk e3) id t none=Z2 (lk y.1) id t none:=fun id t=>by rw [b2]
   have eo:=Zei _ _ _ m3
   have efill:s'=([z.1],y.1):=by
    rw [hvs,eo,hsl] at hfs
    unfold Q6 at hfs
    rw [show shs [(0,rs)] 1=[rs] from rfl] at hfs
    simp only [Sh.fills,ZlA _ _ _ g8,ya,yy] at hfs
    have:=Zcb g9 []
    rw [ybh] at this
    rw [this] at hfs
    exact (ybp hfs).symm
   subst efill
   refine ⟨z.1,rfl, ?_⟩
   have hk:Con P g (TD.ers (lk w.1) q.1) (erH w.1) (r3.er (lk e3)) (erH e3):=by
    refine ZFq (keep:=keep2) m2 (by rw [ZM];exact n2) ?_ ?_
    ·rw [ZM]
     exact WO (Za4 n4) n4
    ·rw [ZM]
     exact ZgA (Za4 n4) _ _ n3
   exact Zye hk (Zst hcc _ _ _ g8) (ZlB hcc g9)
  ·cases hM
 ·cases hM
end
end Go.Ev
end
section
namespace Go.Ev
open Go.RowKit Go.WideShapes Go.ChangeShapes
def Z8 (P:Program):Nat→TypeId→Bool
 |0,_=>false
 |n+1,t=>match P.underlying t with
  |some .bool=>true
  |some (.int _)=>true
  |some .string=>true
  |some (.slice e)=>Z8 P n e&&decide (0 < P.cellsOf e)
  |some (.array m e)=>Z8 P n e&&P.cellsOf t==m*P.cellsOf e
  |some (.struct fs)=>(fs.toList.all fun f=>Z8 P n f.type)&&P.cellsOf t==(fs.toList.map fun f=>P.cellsOf f.type).sum&&
    ((yo fs.toList.length).all fun j=>match fs.toList[j]? with|some f=>f.offset==((fs.toList.take j).map fun f=>P.cellsOf f.type).sum|none=>true)
  |_=>false
theorem Zxb (P:Program):Kids P (fun t=>∃n,Z8 P n t=true) where
 pointer:=by
  rintro t e ⟨n,h⟩ hu
  cases n with
  |zero=>simp [Z8] at h
  |succ n=>simp [Z8,hu] at h
 slice:=by
  rintro t e ⟨n,h⟩ hu
  cases n with
  |zero=>simp [Z8] at h
  |succ n=>simp [Z8,hu] at h;exact ⟨n,h.1⟩
 array:=by
  rintro t e m ⟨n,h⟩ hu
  cases n with
  |zero=>simp [Z8] at h
  |succ n=>simp [Z8,hu] at h;exact ⟨⟨n,h.1⟩,h.2⟩
 struct:=by
  rintro t fs ⟨n,h⟩ hu
  cases n with
  |zero=>simp [Z8] at h
  |succ n=>
   simp only [Z8,hu,yg,beq_iff_eq,List.all_eq_true] at h
   obtain ⟨⟨h1,h2⟩,h3⟩:=h
   refine ⟨fun f hf=>⟨n,h1 f hf⟩,h2,fun j f hf=> ?_⟩
   have hj:j < fs.toList.length:=(yl.1 hf).1
   have:=h3 j (by simpa using hj)
   rw [hf] at this
   simpa using this
 map:=by
  rintro t k e ⟨n,h⟩ hu
  cases n with
  |zero=>simp [Z8] at h
  |succ n=>simp [Z8,hu] at h
def ZHg (R:TypeId→Pl→Prop):List Field→List Pl→Prop
 |[],[]=>True
 |f::fs,y::ys=>R f.type y∧ZHg R fs ys
 |_,_=>False
def wtP (P:Program):Nat→TypeId→Pl→Prop
 |0,_,_=>False
 |n+1,t,x=>match P.underlying t,x with
  |some .bool,.bool _=>True
  |some (.int k),.int k' m=>k'=k∧(Lit.int k m).wf=true
  |some .string,.str s=>s.size≤maxLen
  |some (.slice e),.sl nn s xs=>s=P.cellsOf e∧nn=none∧xs.length≤maxLen∧∀y,y∈xs→wtP P n e y
  |some (.array m e),.arr m' s xs=>m'=m∧s=P.cellsOf e∧xs.length=m∧∀y,y∈xs→wtP P n e y
  |some (.struct fs),.agg xs=>ZHg (wtP P n) fs.toList xs
  |_,_=>False
def Zxc:Nat→Nat→Prop:=fun _ _=>True
section
variable {H:Type} {enc:TypeId×Value→H} {P:Program} {w:World} {base:Nat} {sp:Nat→Bool} {held:Bool}
theorem ZDv:∀{s:Nat} {a:Addr} {cs:List Value},w.cells? base a s=some cs→cs.length=s∧∀j u,cs[j]? =some u→w.cell? (a.add j)=some u:=by
 intro s a cs h
 unfold World.cells? at h
 split at h
 ·have hl:cs.length=s:=by simpa using mapM_some_length h
  refine ⟨hl,fun j u hu=> ?_⟩
  have hj:j < s:=by rw [←hl];exact (yl.1 hu).1
  have:=mapM_some_get h j j (by simp [hj])
  rw [hu] at this
  exact this
 ·cases h
theorem ZB5 {e:TypeId} {n m:Nat} {a:Addr} {s:Nat} (hs:0 < s) {elems:List (DataW H×List MemPlace)} {len:Nat} (hlen:elems.length=len)
 (ih:∀(cs:List Value) (x:DataW H×List MemPlace),DataW.trod enc P w base sp held m e cs=some x→cs.length=s→∃pl,wtP P n e pl∧repC w Zxc pl cs)
 (h:∀i,i < len→(w.cells? base (a.add (i*s)) s).bind (DataW.trod enc P w base sp held m e)=elems[i]?):
 ∀k,k≤len→∃(xs:List Pl) (us:List Value),xs.length=k∧(∀y,y∈xs→wtP P n e y)∧allSz s xs∧us.length=k*s∧repCs w Zxc xs us∧(∀j u,us[j]? =some u→w.cell? (a.add j)=some u)
 |0,_=>⟨[],[],rfl,(fun y hy=>by cases hy),(fun y hy=>by cases hy),by simp,by simp [repCs],by simp⟩
 |k+1,hk=>by
  obtain ⟨xs,us,h1,h2,h3,h4,h5,h6⟩:=ZB5 hs hlen ih h k (by omega)
  have hk':=h k (by omega)
  rw [yw (by omega)] at hk'
  obtain ⟨cs,hc,ht⟩:=yc.1 hk'
  obtain ⟨c1,c2⟩:=ZDv hc
  obtain ⟨pl,p1,p2⟩:=ih cs _ ht c1
  have psz:pl.size=s:=by rw [←Wt _ _ p2,c1]
  refine ⟨xs++[pl],us++cs,by simp [h1],fun y hy=> ?_,fun y hy=> ?_,by simp [h4,c1,yas],Yk h5 (by simpa [repCs] using p2),fun j u hu=> ?_⟩
  ·rcases yck.1 hy with hy|hy
   ·exact h2 y hy
   ·rw [yae.1 hy];exact p1
  ·rcases yck.1 hy with hy|hy
   ·exact h3 y hy
   ·rw [yae.1 hy];exact psz
  ·by_cases hj:j < us.length
   ·rw [yaj hj] at hu;exact h6 j u hu
   ·rw [yam (by omega)] at hu
    have:=c2 _ _ hu
    rw [Addr.add_add] at this
    rw [←this]
    congr 2
    omega
theorem Zzc {e:TypeId} {n m:Nat} {s:Nat} {cs:List Value} {elems:List (DataW H×List MemPlace)} {len:Nat} (hlen:elems.length=len) (hcs:cs.length=len*s)
 (ih:∀(cs:List Value) (x:DataW H×List MemPlace),DataW.trod enc P w base sp held m e cs=some x→cs.length=s→∃pl,wtP P n e pl∧repC w Zxc pl cs)
 (h:∀i,i < len→DataW.trod enc P w base sp held m e ((cs.drop (i*s)).take s)=elems[i]?):
 ∀k,k≤len→∃(xs:List Pl),xs.length=k∧(∀y,y∈xs→wtP P n e y)∧allSz s xs∧repCs w Zxc xs (cs.take (k*s))
 |0,_=>⟨[],rfl,(fun y hy=>by cases hy),(fun y hy=>by cases hy),by simp [repCs]⟩
 |k+1,hk=>by
  obtain ⟨xs,h1,h2,h3,h5⟩:=Zzc hlen hcs ih h k (by omega)
  have hk':=h k (by omega)
  rw [yw (by omega)] at hk'
  have hle:k*s+s≤len*s:=by rw [←Nat.succ_mul];exact Nat.mul_le_mul_right _ hk
  have c1:((cs.drop (k*s)).take s).length=s:=by simp;omega
  obtain ⟨pl,p1,p2⟩:=ih _ _ hk' c1
  have psz:pl.size=s:=by rw [←Wt _ _ p2,c1]
  refine ⟨xs++[pl],by simp [h1],fun y hy=> ?_,fun y hy=> ?_, ?_⟩
  ·rcases yck.1 hy with hy|hy
   ·exact h2 y hy
   ·rw [yae.1 hy];exact p1
  ·rcases yck.1 hy with hy|hy
   ·exact h3 y hy
   ·rw [yae.1 hy];exact psz
  ·rw [yas,Nat.one_mul,List.take_add]
   exact Yk h5 (by simpa [repCs] using p2)
theorem ZvE {n m:Nat} {cs:List Value}
 (ih:∀(t:TypeId),Z8 P n t=true→∀(cs:List Value) (x:DataW H×List MemPlace),DataW.trod enc P w base sp held m t cs=some x→∃pl,wtP P n t pl∧repC w Zxc pl cs):
 ∀(fs:List Field) (o:Nat),(∀f,f∈fs→Z8 P n f.type=true)→(∀(j:Nat) f,fs[j]? =some f→f.offset=o+((fs.take j).map fun f=>P.cellsOf f.type).sum)→
  cs.length=o+(fs.map fun f=>P.cellsOf f.type).sum→(∀(j:Nat) f,fs[j]? =some f→∃x,DataW.trod enc P w base sp held m f.type ((cs.drop f.offset).take (P.cellsOf f.type))=some x)→
  ∃(xs:List Pl),ZHg (wtP P n) fs xs∧repCs w Zxc xs (cs.drop o)
 |[],o,_,_,hl,_=>⟨[],trivial,by simp only [repCs];apply List.drop_eq_nil_of_le;simp at hl;omega⟩
 |f::fs,o,hp,ho,hl,h=>by
  obtain ⟨x,hx⟩:=h 0 f rfl
  have ho0:=ho 0 f rfl
  simp at ho0
  rw [ho0] at hx
  obtain ⟨pl,p1,p2⟩:=ih f.type (hp f (yak ..)) _ _ hx
  simp only [yab,List.sum_cons] at hl
  obtain ⟨xs,q1,q2⟩:=ZvE ih fs (o+P.cellsOf f.type) (fun g hg=>hp g (yal _ hg)) (fun j g hg=>by
   have:=ho (j+1) g hg
   simp only [List.take_succ_cons,yab,List.sum_cons] at this
   omega) (by omega) (fun j g hg=>h (j+1) g hg)
  refine ⟨pl::xs,⟨p1,q1⟩, ?_⟩
  simp only [repCs]
  refine ⟨(cs.drop o).take (P.cellsOf f.type),(cs.drop o).drop (P.cellsOf f.type),(ybg ..).symm,p2, ?_⟩
  rw [List.drop_drop]
  exact q2
theorem ZHh:∀(n m:Nat) (t:TypeId),Z8 P n t=true→∀(cs:List Value) (x:DataW H×List MemPlace),DataW.trod enc P w base sp held m t cs=some x→∃pl,wtP P n t pl∧repC w Zxc pl cs:=by
 intro n
 induction n with
 |zero=>intro m t h;simp [Z8] at h
 |succ n ih=>
  intro m t ht cs x h
  unfold Z8 at ht
  split at ht
  ·rename_i hu
   obtain ⟨b,rfl,_⟩:=DataW.trod_bool hu h
   exact ⟨.bool b,by simp [wtP,hu],by simp [repC]⟩
  ·rename_i k hu
   obtain ⟨z,rfl,rfl,hw⟩:=DataW.trod_int hu h
   exact ⟨.int k z,by simp [wtP,hu,hw],by simp [repC]⟩
  ·rename_i hu
   obtain ⟨s,rfl,h2⟩:=DataW.trod_string hu h
   exact ⟨.str s,by simp [wtP,hu];exact h2.2,by simp [repC]⟩
  ·rename_i e hu
   simp only [yg,decide_eq_true_eq] at ht
   rcases DataW.trod_slice hu h with ⟨rfl,rfl⟩|⟨a,len,cap,elems,rest,m',rfl,rfl,rfl,_,hle,hcap,hlen,hel,_⟩
   ·exact ⟨.sl none (P.cellsOf e) [],by simp [wtP,hu],by simp only [repC];exact ⟨(fun y hy=>by cases hy),none,0,rfl,yi _,Nat.zero_le _,Z5 _,fun _=>rfl,fun h=>absurd rfl h⟩⟩
   ·obtain ⟨xs,us,h1,h2,h3,h4,h5,h6⟩:=ZB5 (n:=n) ht.2 hlen (fun cs x hx _=>ih m' e ht.1 cs x hx) hel len (yi _)
    refine ⟨.sl none (P.cellsOf e) xs,by simp only [wtP,hu];exact ⟨trivial,trivial,by omega,h2⟩, ?_⟩
    simp only [repC]
    refine ⟨h3,some a,cap,by rw [h1],by omega,hcap,Z5 _,by simp,fun hne=> ?_⟩
    have hpos:0 < us.length:=by
     rw [h4]
     have:0 < len:=by rw [←h1];exact List.length_pos_iff.2 hne
     exact Nat.mul_pos this ht.2
    have hc0:=h6 0 us[0] (yw hpos)
    obtain ⟨b,o,spot⟩:=a
    have hspot:spot=none:=by
     cases spot with
     |none=>rfl
     |some z=>
      exfalso
      unfold World.cell? at hc0
      split at hc0
      ·simp [Addr.add] at hc0
      ·cases hc0
    subst hspot
    exact ⟨b,o,us,rfl,h5,fun j u hu=>⟨by have:=h6 j u hu;rwa [Addr.add_lit] at this,trivial⟩⟩
  ·rename_i k e hu
   simp only [yg,beq_iff_eq] at ht
   obtain ⟨elems,m',rfl,rfl,hl,hlen,hel⟩:=DataW.trod_array hu h
   obtain ⟨xs,h1,h2,h3,h4⟩:=Zzc (n:=n) (s:=P.cellsOf e) hlen (by rw [hl,ht.2]) (fun cs x hx _=>ih m' e ht.1 cs x hx) hel k (yi _)
   rw [List.take_of_length_le (by rw [hl,ht.2];exact yi _)] at h4
   exact ⟨.arr k (P.cellsOf e) xs,by simp only [wtP,hu];exact ⟨trivial,trivial,h1,h2⟩,by simp only [repC];exact ⟨h1,h3,h4⟩⟩
  ·rename_i fs hu
   simp only [yg,beq_iff_eq,List.all_eq_true] at ht
   obtain ⟨⟨t1,t2⟩,t3⟩:=ht
   obtain ⟨elems,m',rfl,rfl,hl,hlen,hel⟩:=DataW.trod_struct hu h
   obtain ⟨xs,q1,q2⟩:=ZvE (n:=n) (m:=m') (cs:=cs) (fun t ht cs x hx=>ih m' t ht cs x hx) fs.toList 0 t1 (fun j f hf=>by
    have hj:j < fs.toList.length:=(yl.1 hf).1
    have:=t3 j (by simpa using hj)
    rw [hf] at this
    simpa using this) (by rw [hl,t2];omega) (fun j f hf=>by
    have hj:j < fs.toList.length:=(yl.1 hf).1
    have:=hel j f (by simpa using hf)
    rw [yw (by rw [hlen];simpa using hj)] at this
    exact ⟨_,this⟩)
   exact ⟨.agg xs,by simp only [wtP,hu];exact q1,by simp only [repC];simpa using q2⟩
  ·cases ht
end
end Go.Ev
namespace Go.Ev
open Go.RowKit Go.WideShapes Go.ChangeShapes
def ZHi (P:Program) (n:Nat):List TypeId→List Pl→Prop
 |[],[]=>True
 |t::ts,x::xs=>wtP P n t x∧ZHi P n ts xs
 |_,_=>False
section
variable {H:Type} {enc:TypeId×Value→H} {P:Program}
def sg0 (W:World):Sg:={ F:=Zxc,B:=fun b=>W.heap.size≤b,m:=[],H:=[],w:=W}
theorem ZII (W:World):Ok (sg0 W) where
 len:=rfl
 inj i j b h:=by simp [sg0] at h
 lt i b h:=by simp [sg0] at h
 ent i e a h:=by simp [sg0] at h
 new b h:=h
 own i b h:=by simp [sg0] at h
theorem ZFr (W:World) (b o:Nat):(sg0 W).stab b o:=⟨.inl trivial,fun id e h=>by simp [sg0] at h⟩
theorem ZsR {W:World} {x:Pl} {v:Value} {cs:List Value} (hx:repC W Zxc x cs) (hc:v.cells.toList=cs) (hv:x.isAgg=true→∃a,v=.agg a) (hn:x.isAgg=false→cs=[v]):repDV (sg0 W) (.p x) v:=by
 have hm:repC W (sg0 W).stab x cs:=Zay (fun b o u h _=>⟨h,ZFr W b o⟩) x cs hx
 refine ⟨fun ha=> ?_,fun ha=> ?_⟩
 ·obtain ⟨a,rfl⟩:=hv ha
  refine ⟨a,rfl, ?_⟩
  simp only [repD]
  have:a.toList=cs:=by rw [←hc];rfl
  rw [this]
  exact hm
 ·simp only [repD]
  have e:=hn ha
  rw [←e]
  exact hm
theorem ZIJ:∀{n:Nat} {t:TypeId} {x:Pl},wtP P n t x→x.isAgg=Wi P t
 |0,_,_,h=>by simp [wtP] at h
 |n+1,t,x,h=>by
  unfold wtP at h
  split at h <;> rename_i hu <;> first|(simp [Pl.isAgg,Wi,hu];done)|exact h.elim
theorem ZB6 {W:World} {n:Nat} (hval:∀(t:TypeId) (v:Value),Wi P t=true→Value.okWide P W .any 0 t v→∃a,v=.agg a):
 ∀(ts:List TypeId) (vs:List Value) (ds:List (DataW H)) (ps:List MemPlace),(∀t,t∈ts→Z8 P n t=true)→(∀(j:Nat) t v,ts[j]? =some t→vs[j]? =some v→(Wi P t=true→∃a,v=.agg a)∧(Wi P t=false→v.cells.toList=[v]))→
  DataW.TrodAll enc P W 0 (fun _=>true) true ts vs ds ps→∃xs,ZHi P n ts xs∧repVs (sg0 W) (xs.map .p) vs
 |[],[],[],_,_,_,_=>⟨[],trivial,by simp [repVs]⟩
 |[],_::_,_,_,_,_,h=>by simp [DataW.TrodAll] at h
 |[],[],_::_,_,_,_,h=>by simp [DataW.TrodAll] at h
 |_::_,[],_,_,_,_,h=>by simp [DataW.TrodAll] at h
 |_::_,_::_,[],_,_,_,h=>by simp [DataW.TrodAll] at h
 |t::ts,v::vs,d::ds,ps,hp,hv,h=>by
  obtain ⟨p,q,⟨fuel,h1⟩,h2,rfl⟩:=h
  obtain ⟨x,x1,x2⟩:=ZHh n fuel t (hp t (yak ..)) _ _ h1
  obtain ⟨xs,xs1,xs2⟩:=ZB6 hval ts vs ds q (fun u hu=>hp u (yal _ hu)) (fun j u w' hj hw=>hv (j+1) u w' hj hw) h2
  obtain ⟨v1,v2⟩:=hv 0 t v rfl rfl
  refine ⟨x::xs,⟨x1,xs1⟩, ?_⟩
  simp only [yab,repVs]
  have ha:=ZIJ x1
  exact ⟨v,vs,rfl,ZsR x2 rfl (fun e=>v1 (by rw [←ha];exact e)) (fun e=>v2 (by rw [←ha];exact e)),xs2⟩
theorem Zmp {W W':World} {sp':Nat→Bool} {n:Nat}:∀(ts:List TypeId) (vs:List Value) (ds:List (DataW H)) (ps:List MemPlace),(∀t,t∈ts→Z8 P n t=true)→
 DataW.TrodAll enc P W 0 (fun _=>true) true ts vs ds ps→(∀p∈ps,W.sameAt W' p)→(∀p∈ps,sp' p.block=true)→DataW.TrodAll enc P W' 0 sp' true ts vs ds ps
 |[],[],[],_,_,h,_,_=>h
 |[],_::_,_,_,_,h,_,_=>by simp [DataW.TrodAll] at h
 |[],[],_::_,_,_,h,_,_=>by simp [DataW.TrodAll] at h
 |_::_,[],_,_,_,h,_,_=>by simp [DataW.TrodAll] at h
 |_::_,_::_,[],_,_,h,_,_=>by simp [DataW.TrodAll] at h
 |t::ts,v::vs,d::ds,ps,hp,h,hs,hb=>by
  obtain ⟨p,q,⟨fuel,h1⟩,h2,rfl⟩:=h
  refine ⟨p,q,⟨fuel, ?_⟩,Zmp ts vs ds q (fun u hu=>hp u (yal _ hu)) h2 (fun z hz=>hs z (List.mem_append_right _ hz)) (fun z hz=>hb z (List.mem_append_right _ hz)),rfl⟩
  exact DataW.trod_stays (Zxb P) (fun {t e} ⟨n,hn⟩ hu=>by
   cases n with
   |zero=>simp [Z8] at hn
   |succ n=>simp [Z8,hu] at hn;exact hn.2) (by simp) ⟨n,hp t (yak ..)⟩ h1 (fun z hz=>hs z (List.mem_append_left _ hz)) (fun z hz=>hb z (List.mem_append_left _ hz))
theorem Zzd {W:World} {σ':Sg} (h:To (sg0 W) σ'):Below W.heap.size W σ'.w:=
 ⟨h.os,h.tape,h.output,h.size,fun b hb=>h.block b hb (fun id=>by simp [sg0])⟩
theorem ZsS {f:Func} {s:ChangeSpec} {apart fresh handsOn again:Bool} {W W':World} {args:Array Value} {v:Value} {ds gs:List (DataW H)} {before pa pv:List MemPlace}
 (hW:DataW.Whole enc P f.params.toList s.vars apart W args.toList ds gs before)
 (hres:∀(b:Nat) (sp:Nat→Bool) (hd:Bool),DataW.TrodAll enc P W' b sp hd f.resultTypes.toList (v.resultList f.resultTypes.size) (s.fn H (ds++gs)).results [])
 (hargs:∀sp:Nat→Bool,(∀p∈before,sp p.block=true)→DataW.TrodAll enc P W' 0 sp true f.params.toList args.toList (s.fn H (ds++gs)).args pa)
 (hvars:∀sp:Nat→Bool,(∀p∈before,sp p.block=true)→DataW.TrodVars enc P W' sp s.vars (s.fn H (ds++gs)).vars pv)
 (hps:before=pa++pv) (hb:Below W.heap.size W W')
 (hok:∀(j:Nat) (t:TypeId) (r:Value),f.resultTypes[j]? =some t→(v.resultList f.resultTypes.size)[j]? =some r→Value.okWide P W' .any 0 t r):
 s.post enc P f apart fresh handsOn again W args v W':=by
 have hlt:∀p∈before,p.block < W.heap.size:=fun p hp=>hW.lt p hp
 have hold:∀p∈before,(fun b=>decide (b < W.heap.size)) p.block=true:=fun p hp=>by simpa using hlt p hp
 refine ⟨ds,gs,before,[],pa,pv,hW,hres _ _ _,hargs _ hold,hvars _ hold,World.keptBut_mono (fun p hp=>⟨hp, ?_⟩) (hb.frame (· ∈before)),fun _=> ?_⟩
 ·rw [hps,yck] at hp
  exact Or.inr hp
 ·obtain ⟨_,_,_,_,_,hz,hn⟩:=hW
  refine ⟨hok,_,_,([]++pa)++pv,⟨[]++pa,pv,trodAll_append (hargs _ (fun _ _=>rfl)) (hres _ _ _),hvars _ (fun _ _=>rfl),rfl, ?_, ?_⟩, ?_⟩
  ·intro b off hp
   have hin:MemPlace.cell b off∈before:=by rw [hps];simpa using hp
   rw [hb.frozen (hlt _ hin)]
   exact hz b off hin
  ·intro ha
   have:=hn ha
   rw [hps] at this
   simpa using this
  ·intro p hp _
   rw [hps]
   simpa using hp
theorem Za7 {f:FuncId} {fn:Func} {s:ChangeSpec} {n:Nat} {tb:TypeId} (hr:fn.resultTypes= #[tb]) (ht:P.underlying tb=some .bool) (hv:s.vars=[])
 (hs:∀ds:List (DataW H),ds.length=fn.params.toList.length→s.fn H ds={ results:=[.lit (.bool true)],args:=ds}) (hp:∀t,t∈fn.params.toList→Z8 P n t=true)
 (W:World) (base:Nat) (args:Array Value) (ds gs:List (DataW H)) (before:List MemPlace)
 (hval:∀(j:Nat) t v,fn.params[j]? =some t→args[j]? =some v→Value.okWide P W .any base t v) (hW:DataW.Whole enc P fn.params.toList s.vars false W args.toList ds gs before)
 (hc:∀xs:List Pl,ZHi P n fn.params.toList xs→repVs (sg0 W) (xs.map .p) args.toList→Con P f (xs.map .p) [] (.p (.bool true)) []):
 Calls P f args W fun e W'=>∃v,e=.returned v∧s.post enc P fn false true false false W args v W':=by
 have hW':=hW
 obtain ⟨p,q,hA,hV,rfl,hfz,hnd⟩:=hW
 rw [hv] at hV
 obtain ⟨rfl,rfl⟩:gs=[]∧q=[]:=by
  cases gs with
  |nil=>exact ⟨rfl,hV⟩
  |cons g r=>simp [DataW.TrodVars] at hV
 have hlen:=trodAll_length hA
 obtain ⟨xs,x1,x2⟩:=ZB6 (enc:=enc) (P:=P) (W:=W) (n:=n) (fun t v ha hok=>by
  unfold Value.okWide at hok
  unfold Wi at ha
  split at hok
  ·obtain ⟨cs,rfl,_⟩:=hok;exact ⟨cs,rfl⟩
  ·obtain ⟨cs,rfl,_⟩:=hok;exact ⟨cs,rfl⟩
  ·rename_i h1 h2
   split at ha
   ·rename_i fs hu;exact absurd hu (h1 fs)
   ·rename_i k e hu;exact absurd hu (h2 k e)
   ·cases ha) fn.params.toList args.toList ds p hp (fun j t v hj hvv=>by
  have hok:=hval j t v (by simpa using hj) (by simpa using hvv)
  refine ⟨fun ha=> ?_,fun ha=> ?_⟩
  ·unfold Value.okWide at hok
   unfold Wi at ha
   split at hok
   ·obtain ⟨cs,rfl,_⟩:=hok;exact ⟨cs,rfl⟩
   ·obtain ⟨cs,rfl,_⟩:=hok;exact ⟨cs,rfl⟩
   ·rename_i h1 h2
    split at ha
    ·rename_i fs hu;exact absurd hu (h1 fs)
    ·rename_i k e hu;exact absurd hu (h2 k e)
    ·cases ha
  ·obtain ⟨m,hm⟩:∃m,Z8 P (m+1) t=true:=by
    have:=hp t (List.mem_of_getElem? hj)
    cases n with
    |zero=>simp [Z8] at this
    |succ n=>exact ⟨n,this⟩
   unfold Value.okWide at hok
   unfold Z8 at hm
   unfold Wi at ha
   split at hm <;> rename_i hu <;> simp only [hu] at hok ha
   all_goals first
    |(cases ha;done)
    |(cases hm;done)
    |(unfold Cell.okWide Cell.ok at hok;simp only [hu] at hok;cases v <;> first|rfl|(simp at hok;done))) hA
 have hcall:=hc xs x1 x2 (sg0 W) args.toList (ZII W) rfl x2
 rw [Array.toArray_toList] at hcall
 refine Calls.mono hcall ?_
 rintro e W' ⟨v,σ',rfl,rfl,hH,hto,hok,hrep⟩
 have hbv:v=.bool true:=by simpa [repDV,Dv.isAgg,Pl.isAgg,repD,repC] using hrep
 subst hbv
 have hb:=Zzd hto
 simp only [ybh] at hW'
 have hlt:=hW'.lt
 have hsame:∀z∈p,W.sameAt σ'.w z:=by
  intro z hz
  have hz':=hlt z hz
  cases z with
  |cell b o=>exact hb.cell (p:=⟨b,o,none⟩) hz'
  |map b=>exact hb.block b hz'
 have hfn:=hs ds hlen.2
 refine ⟨_,rfl,ZsS (pa:=p) (pv:=[]) hW' (fun b sp hd=> ?_) (fun sp h=> ?_) (fun sp h=> ?_) (by simp) hb ?_⟩
 ·rw [ybh,hfn,hr]
  exact trodAll_cons_mk (shut_bool ht _) trodAll_mk0
 ·rw [ybh,hfn]
  exact Zmp fn.params.toList args.toList ds p hp hA hsame h
 ·rw [ybh,hfn,hv]
  rfl
 ·intro j t r hj hjr
  rw [hr] at hj hjr
  cases j with
  |zero=>
   simp at hj
   subst hj
   have:r=.bool true:=by simpa [Value.resultList] using hjr.symm
   subst this
   exact okWide_bool_mk ht _
  |succ j=>simp at hj
end
end Go.Ev
namespace Go.Ev
end Go.Ev
end
section
namespace Go.Ev
mutual
def Ty.Wf:(t:Ty)→t.den→Prop
 |.int k,n=>(Lit.int k n).wf=true
 |.u8,_=>True
 |.u32,_=>True
 |.u64,_=>True
 |.bool,_=>True
 |.str,s=>s.size≤maxLen
 |.sl t,l=>List.length l≤maxLen∧∀x,List.Mem x l→Ty.Wf t x
 |.arr n t,l=>List.length l=n∧∀x,List.Mem x l→Ty.Wf t x
 |.st fs,x=>Ty.Wfs fs x
def Ty.Wfs:(fs:List Ty)→Ty.dens fs→Prop
 |[],_=>True
 |[t],x=>Ty.Wf t x
 |t::u::r,x=>Ty.Wf t x.1∧Ty.Wfs (u::r) x.2
end
mutual
def ZAX (P:Program):Nat→TypeId→Ty→Bool
 |0,_,_=>false
 |n+1,t,T=>match P.underlying t,T with
  |some (.int .u8),.u8=>true
  |some (.int .u32),.u32=>true
  |some (.int .u64),.u64=>true
  |some (.int k),.int k'=>decide (k=k')
  |some .bool,.bool=>true
  |some .string,.str=>true
  |some (.slice e),.sl T'=>P.cellsOf e==T'.size&&ZAX P n e T'
  |some (.array m e),.arr m' T'=>m==m'&&(P.cellsOf e==T'.size&&ZAX P n e T')
  |some (.struct fs),.st Ts=>tyOks P n fs.toList Ts
  |_,_=>false
def tyOks (P:Program):Nat→List Field→List Ty→Bool
 |0,_,_=>false
 |_+1,[],[]=>true
 |n+1,f::fs,T::Ts=>ZAX P n f.type T&&tyOks P n fs Ts
 |_+1,_,_=>false
end
theorem ZJz {m:Int} (h:(Lit.int .u8 m).wf=true):∃b:UInt8,m=(b.toNat:Int):=by
 simp only [Lit.wf,yg,decide_eq_true_eq] at h
 have h1:(0:Int)≤m:=h.1
 have h2:m≤255:=h.2
 refine ⟨yaz m.toNat, ?_⟩
 have:(yaz m.toNat).toNat=m.toNat:=by simp;omega
 rw [this]
 omega
theorem ZIK {m:Int} (h:(Lit.int .u32 m).wf=true):∃b:UInt32,m=(b.toNat:Int):=by
 simp only [Lit.wf,yg,decide_eq_true_eq] at h
 have h1:(0:Int)≤m:=h.1
 have h2:m≤4294967295:=h.2
 refine ⟨ybl m.toNat, ?_⟩
 have:(ybl m.toNat).toNat=m.toNat:=by simp;omega
 rw [this]
 omega
theorem ZIL {m:Int} (h:(Lit.int .u64 m).wf=true):∃b:UInt64,m=(b.toNat:Int):=by
 simp only [Lit.wf,yg,decide_eq_true_eq] at h
 have h1:(0:Int)≤m:=h.1
 have h2:m≤18446744073709551615:=h.2
 refine ⟨yv m.toNat, ?_⟩
 have:(yv m.toNat).toNat=m.toNat:=by simp;omega
 rw [this]
 omega
theorem ZAY {α β:Type} {f:α→β} {R:α→Prop}:∀{ys:List β},(∀y,y∈ys→∃x,y=f x∧R x)→∃l:List α,ys=l.map f∧∀x,List.Mem x l→R x
 |[],_=>⟨[],rfl,fun x hx=>by cases hx⟩
 |y::ys,h=>by
  obtain ⟨x,rfl,hx⟩:=h y (yak ..)
  obtain ⟨l,rfl,hl⟩:=ZAY (fun z hz=>h z (yal _ hz))
  exact ⟨x::l,rfl,fun z hz=>by
   cases hz with
   |head=>exact hx
   |tail _ hz=>exact hl z hz⟩
mutual
theorem ZvF {P:Program}:∀(m n:Nat) (t:TypeId) (T:Ty) (x:Pl),ZAX P m t T=true→wtP P n t x→∃v:T.den,T.Wf v∧x=T.enc v
 |0,_,_,_,_,h,_=>by simp [ZAX] at h
 |_+1,0,_,_,_,_,h=>by simp [wtP] at h
 |m+1,n+1,t,T,x,h,hw=>by
  unfold ZAX at h
  split at h
  ·rename_i hu
   unfold wtP at hw
   rw [hu] at hw
   cases x <;> try exact hw.elim
   obtain ⟨rfl,h2⟩:=hw
   obtain ⟨b,rfl⟩:=ZJz h2
   exact ⟨b,trivial,rfl⟩
  ·rename_i hu
   unfold wtP at hw
   rw [hu] at hw
   cases x <;> try exact hw.elim
   obtain ⟨rfl,h2⟩:=hw
   obtain ⟨b,rfl⟩:=ZIK h2
   exact ⟨b,trivial,rfl⟩
  ·rename_i hu
   unfold wtP at hw
   rw [hu] at hw
   cases x <;> try exact hw.elim
   obtain ⟨rfl,h2⟩:=hw
   obtain ⟨b,rfl⟩:=ZIL h2
   exact ⟨b,trivial,rfl⟩
  ·rename_i k k' hu
   have h:=of_decide_eq_true h
   subst h
   unfold wtP at hw
   rw [hu] at hw
   cases x <;> try exact hw.elim
   obtain ⟨rfl,h2⟩:=hw
   exact ⟨_,h2,rfl⟩
  ·rename_i hu
   unfold wtP at hw
   rw [hu] at hw
   cases x <;> try exact hw.elim
   exact ⟨_,trivial,rfl⟩
  ·rename_i hu
   unfold wtP at hw
   rw [hu] at hw
   cases x <;> try exact hw.elim
   exact ⟨_,hw,rfl⟩
  ·rename_i e T' hu
   simp only [yg,beq_iff_eq] at h
   unfold wtP at hw
   rw [hu] at hw
   cases x <;> try exact hw.elim
   obtain ⟨rfl,rfl,h3,h4⟩:=hw
   obtain ⟨l,rfl,h5⟩:=ZAY fun y hy=>(by
    obtain ⟨v,a,b⟩:=ZvF m n e T' y h.2 (h4 y hy)
    exact ⟨v,b,a⟩:∃v:T'.den,y=T'.enc v∧T'.Wf v)
   refine ⟨l,⟨by simpa using h3,h5⟩, ?_⟩
   rw [h.1]
   rfl
  ·rename_i m0 e m' T' hu
   simp only [yg,beq_iff_eq] at h
   obtain ⟨rfl,h⟩:=h
   unfold wtP at hw
   rw [hu] at hw
   cases x <;> try exact hw.elim
   obtain ⟨rfl,rfl,h3,h4⟩:=hw
   obtain ⟨l,rfl,h5⟩:=ZAY fun y hy=>(by
    obtain ⟨v,a,b⟩:=ZvF m n e T' y h.2 (h4 y hy)
    exact ⟨v,b,a⟩:∃v:T'.den,y=T'.enc v∧T'.Wf v)
   refine ⟨l,⟨by simpa using h3,h5⟩, ?_⟩
   rw [h.1]
   rfl
  ·rename_i fs Ts hu
   unfold wtP at hw
   rw [hu] at hw
   cases x <;> try exact hw.elim
   rename_i xs
   obtain ⟨v,h1,rfl⟩:=wt_tys m n fs.toList Ts xs h hw
   exact ⟨v,h1,rfl⟩
  ·cases h
theorem wt_tys {P:Program}:∀(m n:Nat) (fs:List Field) (Ts:List Ty) (xs:List Pl),tyOks P m fs Ts=true→ZHg (wtP P n) fs xs→∃v:Ty.dens Ts,Ty.Wfs Ts v∧xs=Ty.encs Ts v
 |0,_,_,_,_,h,_=>by simp [tyOks] at h
 |m+1,n,[],[],[],h,hw=>⟨(),trivial,rfl⟩
 |m+1,n,[],[],_::_,h,hw=>hw.elim
 |m+1,n,[],_::_,_,h,hw=>by cases h
 |m+1,n,_::_,[],_,h,hw=>by cases h
 |m+1,n,_::_,_::_,[],h,hw=>hw.elim
 |m+1,n,f::fs,[T],x::xs,h,hw=>by
  simp only [tyOks,yg] at h
  obtain ⟨v,h1,rfl⟩:=ZvF m n f.type T x h.1 hw.1
  cases fs with
  |nil=>cases xs with
   |nil=>exact ⟨v,h1,rfl⟩
   |cons _ _=>exact hw.2.elim
  |cons _ _=>
   cases m with
   |zero=>exact absurd h.2 (by simp [tyOks])
   |succ m=>exact absurd h.2 (by simp [tyOks])
 |m+1,n,f::fs,T::U::Ts,x::xs,h,hw=>by
  simp only [tyOks,yg] at h
  obtain ⟨v,h1,rfl⟩:=ZvF m n f.type T x h.1 hw.1
  obtain ⟨w,h2,rfl⟩:=wt_tys m n fs (U::Ts) xs h.2 hw.2
  exact ⟨(v,w),⟨h1,h2⟩,rfl⟩
end
theorem ZvG {I X:Type} {step:I→Option (I⊕X)} (Inv:I→Prop) (mu:I→Nat) (Post:X→Prop)
 (h:∀i,Inv i→(∃j,step i=some (.inl j)∧Inv j∧mu j < mu i)∨(∃x,step i=some (.inr x)∧Post x)):∀(n:Nat) (i:I),Inv i→mu i < n→∃x,Zd step n i=some x∧Post x
 |0,i,_,hn=>by omega
 |n+1,i,hi,hn=>by
  unfold Zd
  rcases h i hi with ⟨j,h1,h2,h3⟩|⟨x,h1,h2⟩
  ·rw [h1,ya]
   exact ZvG Inv mu Post h n j h2 (by omega)
  ·rw [h1,ya]
   exact ⟨x,rfl,h2⟩
theorem WI {I X:Type} {step:I→Option (I⊕X)} (Inv:I→Prop) (mu:I→Nat) (Post:X→Prop)
 (h:∀i,Inv i→(∃j,step i=some (.inl j)∧Inv j∧mu j < mu i)∨(∃x,step i=some (.inr x)∧Post x)) (i:I) (hi:Inv i) (hm:mu i < 18446744073709551616):∃x,Zd step fuel i=some x∧Post x:=by
 refine ZvG Inv mu Post h fuel i hi ?_
 rw [Zej]
 exact hm
theorem Zv {z:Int} (h1: -9223372036854775808≤z) (h2:z≤9223372036854775807):wi z=z:=by
 simp only [wi,IntKind.wrap,IntKind.signed,IntKind.bits]
 simp
 omega
theorem Zaj {α:Type} {l:List α} {i:Int} {y:α} (h0:0≤i) (h:l[i.toNat]? =some y):idx l i=some y:=by
 unfold idx
 rw [if_pos h0,h]
theorem Za8 {α:Type} {l:List α} {i:Nat} (h:i < l.length):∃y,l[i]? =some y:=⟨_,yw h⟩
theorem ZW {i:Int} {n:Nat} (h1:0≤i) (h2:i < (n:Int)):inB i n=true:=by simp [inB,h1,h2]
theorem Ya {n m b:Nat} (h1:(n+m)*b≤140737488355328) (h2:n+m≤9223372036854775807):apB n m b=true:=by
 unfold apB
 rw [yg]
 exact ⟨decide_eq_true h1,decide_eq_true h2⟩
end Go.Ev
end
section
namespace Go.Ev
def tdv:(ts:List Ty)→Ty.dens ts→List TD
 |[],_=>[]
 |[t],x=>[.p (.v t x)]
 |t::u::r,x=>.p (.v t x.1)::tdv (u::r) x.2
theorem ZB7:∀(ts:List Ty) (x:Ty.dens ts),Sh.fills (ts.map .v) (ofD ts x)=some (tdv ts x,[])
 |[],_=>rfl
 |[t],x=>by
  rw [show ofD [t] x=[⟨t,x⟩] from rfl,yab,List.map_nil,Sh.fills,Sh.fill]
  have e:=XA t x
  dsimp only
  rw [e]
  rfl
 |t::u::r,x=>by
  have h:=ZB7 (u::r) x.2
  have e:=XA t x.1
  rw [show ofD (t::u::r) x=⟨t,x.1⟩::ofD (u::r) x.2 from rfl,yab,Sh.fills,Sh.fill]
  dsimp only
  rw [e,yy,ya,h]
  rfl
theorem ZFs {L:Lk}:∀(ts:List Ty) (x:Ty.dens ts),TD.ers L (tdv ts x)=(Ty.encs ts x).map .p
 |[],_=>rfl
 |[t],x=>rfl
 |t::u::r,x=>by
  rw [show tdv (t::u::r) x=.p (.v t x.1)::tdv (u::r) x.2 from rfl,ZL,yab, ←ZL,ZFs (u::r) x.2]
  rfl
theorem Zoe {P:Program} {g:FuncId} {ts:List Ty} {M:Ty.dens ts→Option Bool} (hok:Fs.Ok (⟨g,ts.map .v,[],ts,[⟨.ret,[(0,.v .bool)],[],[.bool]⟩],M⟩:Fs P)) {x:Ty.dens ts} (h:M x=some true):
 Con P g ((Ty.encs ts x).map .p) [] (.p (.bool true)) []:=by
 obtain ⟨args,R,H,h1,h2,h3⟩:=hok x true h
 have e:=(ZB7 ts x).symm.trans (show Sh.fills (ts.map .v) (ofD ts x)=some (args,R) from h1)
 cases e
 cases h2
 obtain ⟨r,h4,h5⟩:=h3 _ [⟨.bool,true⟩] ([.p (.v .bool true)],[]) ⟨rfl,rfl⟩ (by
  simp only [Q6,shs]
  rfl)
 cases h4
 rw [←ZFs (L:=lk [])]
 exact h5
theorem Zm8 {P:Program} {s:Fs P} (h:s.Ok) {M:Ty.dens s.ins→Option (XSh.sum s.xs)} (e:∀x,M x=s.M x):Fs.Ok (P:=P) { s with M:=M}:=by
 have:M=s.M:=funext e
 subst this
 exact h
def ZsT (P:Program) (m:Nat):List TypeId→List Ty→Bool
 |[],[]=>true
 |t::ts,T::Ts=>ZAX P m t T&&ZsT P m ts Ts
 |_,_=>false
theorem ZlH {P:Program} {m n:Nat}:∀{ts:List TypeId} {Ts:List Ty} {xs:List Pl},ZsT P m ts Ts=true→ZHi P n ts xs→∃v:Ty.dens Ts,Ty.Wfs Ts v∧xs=Ty.encs Ts v
 |[],[],[],_,_=>⟨(),trivial,rfl⟩
 |[],[],_::_,_,h=>h.elim
 |[],_::_,_,h,_=>by cases h
 |_::_,[],_,h,_=>by cases h
 |_::_,_::_,[],_,h=>h.elim
 |t::ts,[T],x::xs,h,hw=>by
  simp only [ZsT,yg] at h
  obtain ⟨v,h1,rfl⟩:=ZvF m n t T x h.1 hw.1
  cases ts with
  |nil=>cases xs with
   |nil=>exact ⟨v,h1,rfl⟩
   |cons _ _=>exact hw.2.elim
  |cons _ _=>exact absurd h.2 (by simp [ZsT])
 |t::ts,T::U::Ts,x::xs,h,hw=>by
  simp only [ZsT,yg] at h
  obtain ⟨v,h1,rfl⟩:=ZvF m n t T x h.1 hw.1
  obtain ⟨w,h2,rfl⟩:=ZlH (Ts:=U::Ts) h.2 hw.2
  exact ⟨(v,w),⟨h1,h2⟩,rfl⟩
end Go.Ev
end
section
namespace Go.Ev
theorem Zxd {P:Program} {g:FuncId} {t:Ty} {xs:List XSh} {MA M:Ty.dens [.sl t]→Option (XSh.sum xs)} (hA:Fs.Ok (⟨g,[.sl true t],[],[.sl t],xs,MA⟩:Fs P))
 (h1:M ([]:List t.den)=none) (h2:∀(x:t.den) (l:List t.den),M (x::l)=MA (x::l)):Fs.Ok (⟨g,[.v (.sl t)],[],[.sl t],xs,M⟩:Fs P):=by
 intro l o hM
 have key:∀(l:List t.den),Ty.cast (.sl t) (.sl t) l=some l:=fun l=>XA (.sl t) l
 have h3:∀l:List t.den,M l=some o→MA l=some o∧l≠[]:=fun l hl=>by
  cases l with
  |nil=>rw [h1] at hl;cases hl
  |cons x l=>exact ⟨by rw [←h2];exact hl,by simp⟩
 obtain ⟨hMA,hne⟩:=h3 l hM
 obtain ⟨a1,R1,H1,f1,f2,f3⟩:=hA l o hMA
 have e1:a1=[.p (.sl (some true) t l)]∧R1=[]:=by
  have:Sh.fills [.sl true t] [(⟨.sl t,l⟩:TV)]=some (a1,R1):=f1
  simp only [Sh.fills,Sh.fill] at this
  rw [key l] at this
  have this:some (([.p (.sl (some true) t l)]:List TD),([]:List TV))=some (a1,R1):=this
  cases this
  exact ⟨rfl,rfl⟩
 obtain ⟨rfl,rfl⟩:=e1
 cases f2
 refine ⟨[.p (.v (.sl t) l)],[],[], ?_,rfl,fun e vs s' hs hf=> ?_⟩
 ·show Sh.fills [.v (.sl t)] [(⟨.sl t,l⟩:TV)]=_
  simp only [Sh.fills,Sh.fill]
  rw [key l]
  rfl
 ·obtain ⟨r,r1,r2⟩:=f3 e vs s' hs hf
  exact ⟨r,r1,ZBs (xs:=List.map t.enc l) r2 fun hl=>absurd (List.map_eq_nil_iff.1 hl) hne⟩
end Go.Ev
end
section
namespace Go.Proofs.YtjbbdlffilcaaaaGreat
open Go.Ev Go.RowKit Go.Lib
theorem ZAZ (w:World):Calls yb 216 #[.slice none 0 0,.int .i64 0] w fun e w'=>e=.returned (.slice none 0 0)∧w'=w:=by
 go_enter Tryz.func216,Tryz.ntmps216
 go_wp2
 go_ret
 exact ⟨rfl,rfl⟩
theorem ZDw (n:Nat) (w:World) (h0:0 < n) (hn:n≤Zt):Calls yb 216 #[.slice none 0 0,.int .i64 n] w fun e w'=>e=.returned (.slice (some ⟨w.heap.size,0,none⟩) 0 (grownCap w n 0 5))∧
 w'=w.drew.alloc (.cells (Builtin.zeroCells #[.int .u8 0] n++Builtin.zeroCells #[.int .u8 0] (grownCap w n 0 5 - n)) 5):=by
 have hb:n≤140737488355328:=hn
 have h1:¬((n:Int) < 0):=by omega
 have h3:wrap64 ((n:Int) - ((0:Int) - (0:Int)))=(n:Int):=by unfold wrap64;omega
 have h3':wrap64 ((n:Int) - 0)=(n:Int):=by unfold wrap64;omega
 have h3'':wrap64 (n:Int)=(n:Int):=by unfold wrap64;omega
 have h4:(n:Int) > 0:=by omega
 have hi:∃i,yb.info? 5=some i∧i.zero=some (.int .u8 0)∧i.size=1∧i.bytes=1:=by
  have h:(yb.info? 5).map (fun i=>(i.zero,i.size,i.bytes))=some (some (.int .u8 0),1,1):=by kernel_rfl
  obtain ⟨i,h1,h2⟩:=Option.map_eq_some_iff.1 h
  simp only [Prod.mk.injEq] at h2
  exact ⟨i,h1,h2.1,h2.2.1,h2.2.2⟩
 obtain ⟨i,hi1,hi2,hi3,hi4⟩:=hi
 have hrz:∀ty,(Builtin.append_ #[134,3] ty #[.slice none 0 0,.int .i64 n]).run yb w=
  .ok (.slice (some ⟨w.heap.size,0,none⟩) n (grownCap w n 0 5)) (w.drew.alloc (.cells (Builtin.zeroCells #[.int .u8 0] n++Builtin.zeroCells #[.int .u8 0] (grownCap w n 0 5 - n)) 5)):=fun ty=>by
  have h:=Lib.run_append_grow_zeros (P:=yb) w 134 3 ty 5 i (.int .u8 0) .i64 .i64 Tryz.underlying134 Tryz.underlying3 hi1 hi2 none 0 0 [] (by rw [hi3];simp [Builtin.firstCells]) n h0 (by omega) (by omega) (by omega)
   (by rw [hi4];omega) (by rw [ybb];exact growslice_fits h0 (by rw [hi4];omega))
  simpa [Value.cells] using h
 obtain ⟨G,hG⟩:∃G,G=grownCap w n 0 5:=⟨_,rfl⟩
 have hGn:=grownCap_ge w n 0 5
 have hG63:=grownCap_le_maxLen w n 0 5 (by unfold maxLen;omega)
 unfold maxLen at hG63
 rw [←hG] at hrz hGn hG63 ⊢
 clear hG
 go_enter Tryz.func216,Tryz.ntmps216
 go_wp2_with (at_builtin;refine Lib.wpList_append_run _ rfl _ _ _ _ rfl _ _ rfl rfl _ _ (hrz _) ?_)
 all_goals (go_ret;exact ⟨rfl,rfl⟩)
theorem ZFt (n:Nat) (hn:n≤Zt):Con yb 216 [.p (.sl (some false) 1 []),.p (.int .i64 (n:Int))] [] (.own 0 none 1 []) [.log 1 5 []]:=by
 intro σ vs ok hH hvs
 simp only [repVs] at hvs
 obtain ⟨v,_,rfl,hv,v2,_,rfl,hv2,rfl⟩:=hvs
 obtain rfl:=ZpY hv
 obtain rfl:v2=.int .i64 n:=by
  have:=hv2.2 rfl
  simpa [repD,repC] using this
 have hm:σ.m=[]:=List.eq_nil_of_length_eq_zero (by rw [ok.len,hH];rfl)
 rcases ybr n with rfl|h0
 ·refine (ZAZ σ.w).mono fun e w' ⟨he,hw⟩=> ?_
  subst he;subst hw
  obtain ⟨to,ok'⟩:=WM (σ':={ σ with m:=σ.m++[none],H:=σ.H++[.log 1 5 []]}) ok rfl rfl rfl rfl (World.grownBy.refl σ.w none) (.inl rfl) (fun _=>.inl ⟨rfl,rfl⟩)
  refine ⟨_,{ σ with m:=σ.m++[none],H:=σ.H++[.log 1 5 []]},rfl,rfl,by simp [hH],to,ok', ?_⟩
  rw [Zf rfl]
  simp only [repD]
  exact ⟨fun _ hx=>(by cases hx),none,0,rfl,yi _,by simp [maxLen],Z5 _,fun _=>rfl,fun h=>absurd rfl h,5,[],by simp [hH],yi _,fun _=>.inl ⟨by simp [hm],rfl,rfl⟩⟩
 ·refine (ZDw n σ.w h0 hn).mono fun e w' ⟨he,hw⟩=> ?_
  subst he;subst hw
  have hge:=grownCap_ge σ.w n 0 5
  have hcm:=grownCap_le_maxLen σ.w n 0 5 (by have:n≤140737488355328:=hn;unfold maxLen;omega)
  have hsz:(Builtin.zeroCells #[.int .u8 0] n++Builtin.zeroCells #[.int .u8 0] (grownCap σ.w n 0 5 - n):Array Value).size=grownCap σ.w n 0 5*1:=by
   simp only [Array.size_append,size_zeroCells]
   simp
   omega
  let cs:Array Value:=Builtin.zeroCells #[.int .u8 0] n++Builtin.zeroCells #[.int .u8 0] (grownCap σ.w n 0 5 - n)
  let σ':Sg:={ σ with m:=σ.m++[some σ.w.heap.size],H:=σ.H++[.log 1 5 []],w:=σ.w.drew.alloc (.cells cs 5)}
  have hblk:σ'.w.heap[σ.w.heap.size]? =some (.cells cs 5 (0,0)):=heap_alloc_new σ.w.drew _
  obtain ⟨to,ok'⟩:=WM (σ':=σ') ok rfl rfl rfl rfl (Y5 σ.w (.cells cs 5) none) (.inr ⟨_,rfl,yi _,by simp [σ']⟩)
   (fun leaf=>.inr ⟨σ.w.heap.size,_,grownCap σ.w n 0 5,rfl,hblk,hsz,Nat.zero_le _,hcm,fun _ hx=>(by cases hx),by simp [repCs]⟩)
  refine ⟨_,σ',rfl,rfl,by simp [σ',hH],to,ok', ?_⟩
  rw [Zf rfl]
  simp only [repD]
  exact ⟨fun _ hx=>(by cases hx),_,_,rfl,Nat.zero_le _,hcm,Z5 _,fun h=>(by cases h),fun h=>absurd rfl h,5,[],by simp [σ',hH],yi _,fun _=>.inr ⟨_,_,by simp [σ',hm],rfl,hblk,hsz⟩⟩
end Go.Proofs.YtjbbdlffilcaaaaGreat
end
section
set_option maxRecDepth 4000
namespace Go.Proofs.YtjbbdlffilcaaaaGreat
open Go Go.Ev
noncomputable section
abbrev ZI:Ty:=(.st [.u8,(.int .u16),(.int .u16),.u64])
abbrev V6:Type:=(UInt8×Int×Int×UInt64)
def XX (F:Nat) (a0:V6):Option (UInt64):=
 some (1+(a0.2.2.2 % 2305843009213688668))
def Ziw (F:Nat):Fs yb:=⟨30,[.v ZI],[],[ZI],[⟨.ret,[(0,.v .u64)],[],[.u64]⟩],fun x=>XX F x⟩
def VZ:Fs yb:=Ziw fuel
theorem Za9:VZ.Ok:=Zg (fi:={ hi:={ still:=[2]},lp:=[]}) (specs:={ l:=[]}) (okS trivial) trivial (by decide+kernel) (fun x=>by kernel_rfl)
def XH (F:Nat) (s:(UInt64×Int×Int×(List UInt8))):Option ((UInt64×Int×Int×(List UInt8))⊕(UInt64×Int×(List UInt8))):=
 if (decide (s.2.2.1 ≥ 0))=true then
  if (inB s.2.1 32)=true then
   (s.2.2.2[s.2.1.toNat]?).bind fun e1=>
   let y2:UInt64:=ZA (yv e1.toNat) (min ((w64 s.2.2.1).toNat:Int).toNat 64)
   some (.inl (((2*s.1)+(y2&&&1)) % 2305843009213688668,s.2.1,wi (s.2.2.1 - 1),s.2.2.2))
  else
  none
 else
 some (.inr (s.1,s.2.1,s.2.2.2))
def ZcY:Lp:=⟨[(1,.ref 0 []),(3,.v .u64),(4,.v (.int .i64)),(5,.v (.int .i64))],[.var (.v (.arr 32 .u8)) true],[.u64,(.int .i64),(.int .i64),(.arr 32 .u8)],[⟨.exit 2,[(1,.ref 0 []),(3,.v .u64),(4,.v (.int .i64))],[.var (.v (.arr 32 .u8)) true],[.u64,(.int .i64),(.arr 32 .u8)]⟩],Zd (XH fuel) fuel⟩
theorem ZhI:ZcY.Ok yb (Zp yb 106) (Zo yb 106 1):=Zk (fi:={ hi:={ still:=[2]},lp:=[]}) (specs:={ l:=[]}) (okS trivial) trivial (by kernel_rfl) (fun v=>by kernel_rfl)
def XI (F:Nat) (s:(UInt64×Int×(List UInt8))):Option ((UInt64×Int×(List UInt8))⊕(UInt64×(List UInt8))):=
 if (decide (s.2.1 < 32))=true then
  (Zd (XH F) F (s.1,s.2.1,(7:Int),s.2.2)).bind fun o3=>
  some (.inl (o3.1,wi (o3.2.1+1),o3.2.2))
 else
 some (.inr (s.1,s.2.2))
def ZcZ:Lp:=⟨[(1,.ref 0 []),(3,.v .u64),(4,.v (.int .i64))],[.var (.v (.arr 32 .u8)) true],[.u64,(.int .i64),(.arr 32 .u8)],[⟨.exit 0,[(3,.v .u64)],[.var (.v (.arr 32 .u8)) true],[.u64,(.arr 32 .u8)]⟩],Zd (XI fuel) fuel⟩
theorem ZhJ:ZcZ.Ok yb (Zp yb 106) (Zo yb 106 0):=Zk (fi:={ hi:={ still:=[2]},lp:=[(1,ZcY)]}) (specs:={ l:=[]}) (okS trivial) ⟨ZhI,trivial⟩ (by kernel_rfl) (fun v=>by kernel_rfl)
def Ys (F:Nat) (a0:(List UInt8)):Option (UInt64):=
 (Zd (XI F) F ((0:UInt64),(0:Int),a0)).bind fun o4=>
 some (o4.1+1)
def Zkq (F:Nat):Fs yb:=⟨106,[.v (.arr 32 .u8)],[],[(.arr 32 .u8)],[⟨.ret,[(0,.v .u64)],[],[.u64]⟩],fun x=>Ys F x⟩
def ZdO:Fs yb:=Zkq fuel
theorem Zkr:ZdO.Ok:=Zg (fi:={ hi:={ still:=[2]},lp:=[(0,ZcZ)]}) (specs:={ l:=[]}) (okS trivial) ⟨ZhJ,trivial⟩ (by decide+kernel) (fun x=>by kernel_rfl)
def XJ (F:Nat) (s:(UInt64×Int×(List UInt8))):Option ((UInt64×Int×(List UInt8))⊕(List UInt8)):=
 if (decide (s.2.1 ≥ 0))=true then
  if (decide (0≤s.2.1))=true then
   let y5:UInt8:=w8 ((ZA s.1 (min s.2.1.toNat 64)).toNat:Int)
   if (apB s.2.2.length 1 1)=true then
    some (.inl (s.1,wi (s.2.1 - 8),s.2.2++([y5]:List UInt8)))
   else
   none
  else
  none
 else
 some (.inr s.2.2)
def Zc0:Lp:=⟨[(0,.v .u64),(3,.own 0 .u8),(4,.v (.int .i64))],[.log .u8 5],[.u64,(.int .i64),(.sl .u8)],[⟨.exit 0,[(3,.own 0 .u8)],[.log .u8 5],[(.sl .u8)]⟩],Zd (XJ fuel) fuel⟩
theorem ZhK:Zc0.Ok yb (Zp yb 168) (Zo yb 168 0):=Zk (fi:={ hi:={ own:=[3,9,15],still:=[2]},lp:=[]}) (specs:={ l:=[]}) (okS trivial) trivial (by kernel_rfl) (fun v=>by kernel_rfl)
def VB (F:Nat) (a0:UInt64):Option ((List UInt8)):=
 (Zd (XJ F) F (a0,(56:Int),([]:List UInt8))).bind fun o6=>
 some o6
def Zks (F:Nat):Fs yb:=⟨168,[.v .u64],[],[.u64],[⟨.ret,[(0,.v (.sl .u8))],[],[(.sl .u8)]⟩],fun x=>VB F x⟩
def ZdP:Fs yb:=Zks fuel
theorem Zkt:ZdP.Ok:=Zg (fi:={ hi:={ own:=[3,9,15],still:=[2]},lp:=[(0,Zc0)]}) (specs:={ l:=[]}) (okS trivial) ⟨ZhK,trivial⟩ (by decide+kernel) (fun x=>by kernel_rfl)
def Y6 (F:Nat) (s:((List UInt8)×(List UInt8))):Option (((List UInt8)×(List UInt8))⊕((List UInt8)×(List UInt8))):=
 if ((Int.tmod (s.2.length:Int) 64)!=56)=true then
  if (apB s.2.length 1 1)=true then
   some (.inl (s.1,s.2++([0]:List UInt8)))
  else
  none
 else
 some (.inr (s.1,s.2))
def Zba:Lp:=⟨[(0,.v (.sl .u8)),(3,.own 0 .u8)],[.log .u8 5],[(.sl .u8),(.sl .u8)],[⟨.exit 0,[(0,.v (.sl .u8)),(3,.own 0 .u8)],[.log .u8 5],[(.sl .u8),(.sl .u8)]⟩],Zd (Y6 fuel) fuel⟩
theorem Zgd:Zba.Ok yb (Zp yb 218) (Zo yb 218 0):=Zk (fi:={ hi:={ own:=[3,6,8,9,11,16,18,27,33],still:=[2]},lp:=[]}) (specs:={ l:=[]}) (okS trivial) trivial (by kernel_rfl) (fun v=>by kernel_rfl)
def Y7 (F:Nat) (s:(UInt64×Int×(List UInt8))):Option ((UInt64×Int×(List UInt8))⊕(List UInt8)):=
 if (decide (s.2.1 ≥ 0))=true then
  if (decide (0≤s.2.1))=true then
   let y8:UInt8:=w8 ((ZA s.1 (min s.2.1.toNat 64)).toNat:Int)
   if (apB s.2.2.length 1 1)=true then
    some (.inl (s.1,wi (s.2.1 - 8),s.2.2++([y8]:List UInt8)))
   else
   none
  else
  none
 else
 some (.inr s.2.2)
def Zbb:Lp:=⟨[(3,.own 0 .u8),(4,.v .u64),(5,.v (.int .i64))],[.log .u8 5],[.u64,(.int .i64),(.sl .u8)],[⟨.exit 2,[(3,.own 0 .u8)],[.log .u8 5],[(.sl .u8)]⟩],Zd (Y7 fuel) fuel⟩
theorem Zge:Zbb.Ok yb (Zp yb 218) (Zo yb 218 1):=Zk (fi:={ hi:={ own:=[3,6,8,9,11,16,18,27,33],still:=[2]},lp:=[]}) (specs:={ l:=[]}) (okS trivial) trivial (by kernel_rfl) (fun v=>by kernel_rfl)
def WQ (F:Nat) (a0:(List UInt8)):Option ((List UInt8)):=
 if (apB 0 a0.length 1)=true then
  if (apB a0.length 1 1)=true then
   (Zd (Y6 F) F (a0,a0++([128]:List UInt8))).bind fun o7=>
   (Zd (Y7 F) F (8*(w64 (o7.1.length:Int)),(56:Int),o7.2)).bind fun o9=>
   some o9
  else
  none
 else
 none
def Zix (F:Nat):Fs yb:=⟨218,[.v (.sl .u8)],[],[(.sl .u8)],[⟨.ret,[(0,.v (.sl .u8))],[],[(.sl .u8)]⟩],fun x=>WQ F x⟩
def ZbM:Fs yb:=Zix fuel
theorem Ziy:ZbM.Ok:=Zg (fi:={ hi:={ own:=[3,6,8,9,11,16,18,27,33],still:=[2]},lp:=[(0,Zba),(1,Zbb)]}) (specs:={ l:=[]}) (okS trivial) ⟨Zgd,Zge,trivial⟩ (by decide+kernel) (fun x=>by kernel_rfl)
def Qo (F:Nat):Option ((List UInt32)):=
 some ([1779033703,3144134277,1013904242,2773480762,1359893119,2600822924,528734635,1541459225]:List UInt32)
def Ziz (F:Nat):Fs yb:=⟨219,[],[],[],[⟨.ret,[(0,.v (.sl .u32))],[],[(.sl .u32)]⟩],fun x=>Qo F⟩
def ZbN:Fs yb:=Ziz fuel
theorem ZiA:ZbN.Ok:=Zg (fi:={ hi:={ still:=[0]},lp:=[]}) (specs:={ l:=[]}) (okS trivial) trivial (by decide+kernel) (fun x=>by kernel_rfl)
def ZF (F:Nat) (a0:UInt32) (a1:Int):Option (UInt32):=
 if (decide (0≤a1))=true then
  if (decide (0≤wi (32 - a1)))=true then
   let y10:UInt32:=(ZdN a0 (min a1.toNat 32))|||(ZaE a0 (min (wi (32 - a1)).toNat 32))
   some y10
  else
  none
 else
 none
def Zku (F:Nat):Fs yb:=⟨229,[.v .u32,.v (.int .i64)],[],[.u32,(.int .i64)],[⟨.ret,[(0,.v .u32)],[],[.u32]⟩],fun x=>ZF F x.1 x.2⟩
def Q9:Fs yb:=Zku fuel
theorem Zc1:Q9.Ok:=Zg (fi:={ hi:={ still:=[4]},lp:=[]}) (specs:={ l:=[]}) (okS trivial) trivial (by decide+kernel) (fun x=>by kernel_rfl)
def Xo (F:Nat) (s:((List UInt8)×Int×(List UInt32))):Option (((List UInt8)×Int×(List UInt32))⊕(List UInt32)):=
 if (decide (s.2.1 < 16))=true then
  (idx s.1 (wi (4*s.2.1))).bind fun e11=>
  (idx s.1 (wi ((wi (4*s.2.1))+1))).bind fun e12=>
  let y13:UInt32:=(ZaE (ybl e11.toNat) 24)|||(ZaE (ybl e12.toNat) 16)
  (idx s.1 (wi ((wi (4*s.2.1))+2))).bind fun e14=>
  (idx s.1 (wi ((wi (4*s.2.1))+3))).bind fun e15=>
  let y16:UInt32:=(y13|||(ZaE (ybl e14.toNat) 8))|||(ybl e15.toNat)
  if (apB s.2.2.length 1 4)=true then
   some (.inl (s.1,wi (s.2.1+1),s.2.2++([y16]:List UInt32)))
  else
  none
 else
 some (.inr s.2.2)
def ZbO:Lp:=⟨[(0,.v (.sl .u8)),(3,.own 0 .u32),(4,.v (.int .i64))],[.log .u32 25],[(.sl .u8),(.int .i64),(.sl .u32)],[⟨.exit 0,[(3,.own 0 .u32)],[.log .u32 25],[(.sl .u32)]⟩],Zd (Xo fuel) fuel⟩
theorem Zg3:ZbO.Ok yb (Zp yb 227) (Zo yb 227 0):=Zk (fi:={ hi:={ own:=[3,14,49,80,97],still:=[2,64,66,72,74]},lp:=[]}) (specs:={ l:=[]}) (okS trivial) trivial (by kernel_rfl) (fun v=>by kernel_rfl)
def Xp (F:Nat) (s:(Int×(List UInt32))):Option ((Int×(List UInt32))⊕(List UInt32)):=
 if (decide (s.1 < 64))=true then
  (idx s.2 (wi (s.1 - 15))).bind fun e18=>
  (idx s.2 (wi (s.1 - 2))).bind fun e19=>
  (ZF F e18 (7:Int)).bind fun o20=>
  (ZF F e18 (18:Int)).bind fun o21=>
  (ZF F e19 (17:Int)).bind fun o22=>
  (ZF F e19 (19:Int)).bind fun o23=>
  (idx s.2 (wi (s.1 - 16))).bind fun e24=>
  (idx s.2 (wi (s.1 - 7))).bind fun e25=>
  let y26:UInt32:=((e24+((o20^^^o21)^^^(ZdN e18 3)))+e25)+((o22^^^o23)^^^(ZdN e19 10))
  if (apB s.2.length 1 4)=true then
   some (.inl (wi (s.1+1),s.2++([y26]:List UInt32)))
  else
  none
 else
 some (.inr s.2)
def ZbP:Lp:=⟨[(3,.own 0 .u32),(5,.v (.int .i64))],[.log .u32 25],[(.int .i64),(.sl .u32)],[⟨.exit 2,[(3,.own 0 .u32)],[.log .u32 25],[(.sl .u32)]⟩],Zd (Xp fuel) fuel⟩
theorem Zg4:ZbP.Ok yb (Zp yb 227) (Zo yb 227 1):=Zk (fi:={ hi:={ own:=[3,14,49,80,97],still:=[2,64,66,72,74]},lp:=[]}) (specs:={ l:=[Q9]}) (okS ⟨Zc1,trivial⟩) trivial (by kernel_rfl) (fun v=>by kernel_rfl)
def Ve (F:Nat) (a0:(List UInt8)):Option ((List UInt32)):=
 (Zd (Xo F) F (a0,(0:Int),([]:List UInt32))).bind fun o17=>
 (Zd (Xp F) F ((16:Int),o17)).bind fun o27=>
 some o27
def Zjw (F:Nat):Fs yb:=⟨227,[.v (.sl .u8)],[],[(.sl .u8)],[⟨.ret,[(0,.v (.sl .u32))],[],[(.sl .u32)]⟩],fun x=>Ve F x⟩
def Zc2:Fs yb:=Zjw fuel
theorem Zjx:Zc2.Ok:=Zg (fi:={ hi:={ own:=[3,14,49,80,97],still:=[2,64,66,72,74]},lp:=[(0,ZbO),(1,ZbP)]}) (specs:={ l:=[]}) (okS trivial) ⟨Zg3,Zg4,trivial⟩ (by decide+kernel) (fun x=>by kernel_rfl)
def Zav (F:Nat):Option ((List UInt32)):=
 some ([1116352408,1899447441,3049323471,3921009573,961987163,1508970993,2453635748,2870763221,3624381080,310598401,607225278,1426881987,1925078388,2162078206,2614888103,3248222580,3835390401,4022224774,264347078,604807628,770255983,1249150122,1555081692,1996064986,2554220882,2821834349,2952996808,3210313671,3336571891,3584528711,113926993,338241895,666307205,773529912,1294757372,1396182291,1695183700,1986661051,2177026350,2456956037,2730485921,2820302411,3259730800,3345764771,3516065817,3600352804,4094571909,275423344,430227734,506948616,659060556,883997877,958139571,1322822218,1537002063,1747873779,1955562222,2024104815,2227730452,2361852424,2428436474,2756734187,3204031479,3329325298]:List UInt32)
def Zkv (F:Nat):Fs yb:=⟨228,[],[],[],[⟨.ret,[(0,.v (.sl .u32))],[],[(.sl .u32)]⟩],fun x=>Zav F⟩
def ZdQ:Fs yb:=Zkv fuel
theorem Zkw:ZdQ.Ok:=Zg (fi:={ hi:={ still:=[0]},lp:=[]}) (specs:={ l:=[]}) (okS trivial) trivial (by decide+kernel) (fun x=>by kernel_rfl)
def Xq (F:Nat) (s:((List UInt32)×(List UInt32)×(List UInt32)×Int×(List Unit)×(List UInt32))):Option (((List UInt32)×(List UInt32)×(List UInt32)×Int×(List Unit)×(List UInt32))⊕((List UInt32)×(List Unit)×(List UInt32))):=
 if (decide (s.2.2.2.1 < 64))=true then
  if (inB 4 s.2.2.2.2.2.length)=true then
   (s.2.2.2.2.2[4]?).bind fun e30=>
   (ZF F e30 (6:Int)).bind fun o31=>
   if (inB 4 s.2.2.2.2.2.length)=true then
    (s.2.2.2.2.2[4]?).bind fun e32=>
    (ZF F e32 (11:Int)).bind fun o33=>
    if (inB 4 s.2.2.2.2.2.length)=true then
     (s.2.2.2.2.2[4]?).bind fun e34=>
     (ZF F e34 (25:Int)).bind fun o35=>
     if (inB 4 s.2.2.2.2.2.length)=true then
      (s.2.2.2.2.2[4]?).bind fun e36=>
      if (inB 5 s.2.2.2.2.2.length)=true then
       (s.2.2.2.2.2[5]?).bind fun e37=>
       if (inB 4 s.2.2.2.2.2.length)=true then
        (s.2.2.2.2.2[4]?).bind fun e38=>
        if (inB 6 s.2.2.2.2.2.length)=true then
         (s.2.2.2.2.2[6]?).bind fun e39=>
         if (inB 7 s.2.2.2.2.2.length)=true then
          (s.2.2.2.2.2[7]?).bind fun e40=>
          let y41:UInt32:=(e40+((o31^^^o33)^^^o35))+((e36&&&e37)^^^((4294967295^^^e38)&&&e39))
          (idx s.2.2.1 s.2.2.2.1).bind fun e42=>
          (idx s.2.1 s.2.2.2.1).bind fun e43=>
          if (inB 0 s.2.2.2.2.2.length)=true then
           (s.2.2.2.2.2[0]?).bind fun e44=>
           (ZF F e44 (2:Int)).bind fun o45=>
           if (inB 0 s.2.2.2.2.2.length)=true then
            (s.2.2.2.2.2[0]?).bind fun e46=>
            (ZF F e46 (13:Int)).bind fun o47=>
            if (inB 0 s.2.2.2.2.2.length)=true then
             (s.2.2.2.2.2[0]?).bind fun e48=>
             (ZF F e48 (22:Int)).bind fun o49=>
             if (inB 0 s.2.2.2.2.2.length)=true then
              (s.2.2.2.2.2[0]?).bind fun e50=>
              if (inB 1 s.2.2.2.2.2.length)=true then
               (s.2.2.2.2.2[1]?).bind fun e51=>
               if (inB 0 s.2.2.2.2.2.length)=true then
                (s.2.2.2.2.2[0]?).bind fun e52=>
                if (inB 2 s.2.2.2.2.2.length)=true then
                 (s.2.2.2.2.2[2]?).bind fun e53=>
                 if (inB 1 s.2.2.2.2.2.length)=true then
                  (s.2.2.2.2.2[1]?).bind fun e54=>
                  if (inB 2 s.2.2.2.2.2.length)=true then
                   (s.2.2.2.2.2[2]?).bind fun e55=>
                   let y56:UInt32:=((e50&&&e51)^^^(e52&&&e53))^^^(e54&&&e55)
                   let y57:UInt32:=(((y41+e42)+e43)+((o45^^^o47)^^^o49))+y56
                   if (inB 0 s.2.2.2.2.2.length)=true then
                    (s.2.2.2.2.2[0]?).bind fun e58=>
                    if (inB 1 s.2.2.2.2.2.length)=true then
                     (s.2.2.2.2.2[1]?).bind fun e59=>
                     if (inB 2 s.2.2.2.2.2.length)=true then
                      (s.2.2.2.2.2[2]?).bind fun e60=>
                      if (inB 3 s.2.2.2.2.2.length)=true then
                       (s.2.2.2.2.2[3]?).bind fun e61=>
                       if (inB 4 s.2.2.2.2.2.length)=true then
                        (s.2.2.2.2.2[4]?).bind fun e62=>
                        if (inB 5 s.2.2.2.2.2.length)=true then
                         (s.2.2.2.2.2[5]?).bind fun e63=>
                         if (inB 6 s.2.2.2.2.2.length)=true then
                          (s.2.2.2.2.2[6]?).bind fun e64=>
                          some (.inl (s.1,s.2.1,s.2.2.1,wi (s.2.2.2.1+1),()::s.2.2.2.2.1,([y57,e58,e59,e60,e61+((y41+e42)+e43),e62,e63,e64]:List UInt32)))
                         else
                         none
                        else
                        none
                       else
                       none
                      else
                      none
                     else
                     none
                    else
                    none
                   else
                   none
                  else
                  none
                 else
                 none
                else
                none
               else
               none
              else
              none
             else
             none
            else
            none
           else
           none
          else
          none
         else
         none
        else
        none
       else
       none
      else
      none
     else
     none
    else
    none
   else
   none
  else
  none
 else
 some (.inr (s.1,s.2.2.2.2.1,s.2.2.2.2.2))
def ZbQ:Lp:=⟨[(0,.v (.sl .u32)),(5,.v (.sl .u32)),(6,.v (.sl .u32)),(7,.rw 0),(8,.v (.int .i64))],[.row .u32 true 25],[(.sl .u32),(.sl .u32),(.sl .u32),(.int .i64),(.sl (.st [])),(.sl .u32)],[⟨.exit 0,[(0,.v (.sl .u32)),(7,.rw 0)],[.row .u32 true 25],[(.sl .u32),(.sl (.st [])),(.sl .u32)]⟩],Zd (Xq fuel) fuel⟩
theorem Zg5:ZbQ.Ok yb (Zp yb 220) (Zo yb 220 0):=Zk (fi:={ hi:={ own:=[18,20],still:=[4,15,27,31,36,74,78,83],rowt:=[7,18,20,137,142],rew:=[(137,7)]},lp:=[]}) (specs:={ l:=[Q9]}) (okS ⟨Zc1,trivial⟩) trivial (by kernel_rfl) (fun v=>by kernel_rfl)
def Xr (F:Nat) (s:((List UInt32)×Int×(List Unit)×(List UInt32))):Option (((List UInt32)×Int×(List Unit)×(List UInt32))⊕((List Unit)×(List UInt32))):=
 if (decide (s.2.1 < 8))=true then
  if (inB s.2.1 s.2.2.2.length)=true then
   (s.2.2.2[s.2.1.toNat]?).bind fun e66=>
   (idx s.1 s.2.1).bind fun e67=>
   if (inB s.2.1 s.2.2.2.length)=true then
    (s.2.2.2[s.2.1.toNat]?).bind fun e68=>
    some (.inl (s.1,wi (s.2.1+1),s.2.2.1,s.2.2.2.set s.2.1.toNat (e66+e67)))
   else
   none
  else
  none
 else
 some (.inr (s.2.2.1,s.2.2.2))
def ZbR:Lp:=⟨[(0,.v (.sl .u32)),(7,.rw 0),(14,.v (.int .i64))],[.row .u32 true 25],[(.sl .u32),(.int .i64),(.sl (.st [])),(.sl .u32)],[⟨.exit 2,[(7,.rw 0)],[.row .u32 true 25],[(.sl (.st [])),(.sl .u32)]⟩],Zd (Xr fuel) fuel⟩
theorem Zg6:ZbR.Ok yb (Zp yb 220) (Zo yb 220 1):=Zk (fi:={ hi:={ own:=[18,20],still:=[4,15,27,31,36,74,78,83],rowt:=[7,18,20,137,142],rew:=[(137,7)]},lp:=[]}) (specs:={ l:=[]}) (okS trivial) trivial (by kernel_rfl) (fun v=>by kernel_rfl)
def Vf (F:Nat) (a0:(List UInt32)) (a1:(List UInt8)):Option ((List UInt32)):=
 (Ve F a1).bind fun o28=>
 (Zav F).bind fun o29=>
 if (apB 0 a0.length 4)=true then
  (Zd (Xq F) F (a0,o28,o29,(0:Int),([()]:List Unit),a0)).bind fun o65=>
  (Zd (Xr F) F (o65.1,(0:Int),o65.2.1,o65.2.2)).bind fun o69=>
  some o69.2
 else
 none
def Zjy (F:Nat):Fs yb:=⟨220,[.v (.sl .u32),.v (.sl .u8)],[],[(.sl .u32),(.sl .u8)],[⟨.ret,[(0,.v (.sl .u32))],[],[(.sl .u32)]⟩],fun x=>Vf F x.1 x.2⟩
def Zc3:Fs yb:=Zjy fuel
theorem Zjz:Zc3.Ok:=Zg (fi:={ hi:={ own:=[18,20],still:=[4,15,27,31,36,74,78,83],rowt:=[7,18,20,137,142],rew:=[(137,7)]},lp:=[(0,ZbQ),(1,ZbR)]}) (specs:={ l:=[Zc2,ZdQ]}) (okS ⟨Zjx,Zkw,trivial⟩) ⟨Zg5,Zg6,trivial⟩ (by decide+kernel) (fun x=>by kernel_rfl)
def XK (F:Nat) (s:((List UInt8)×(List UInt32)×Int×(List UInt8))):Option (((List UInt8)×(List UInt32)×Int×(List UInt8))⊕((List UInt32)×(List UInt8))):=
 if (decide (s.2.2.1 < (s.1.length:Int)))=true then
  if (Ze6 s.1.length (some s.2.2.1) (some (wi (s.2.2.1+64))))=true then
   let y72:(List UInt8):=(s.1.take ((wi (s.2.2.1+64)).toNat)).drop s.2.2.1.toNat
   (Vf F s.2.1 y72).bind fun o73=>
   some (.inl (s.1,o73,wi (s.2.2.1+64),s.2.2.2))
  else
  none
 else
 some (.inr (s.2.1,s.2.2.2))
def Zc4:Lp:=⟨[(2,.ref 0 []),(3,.v (.sl .u8)),(4,.v (.sl .u32)),(5,.v (.int .i64))],[.var (.v (.arr 32 .u8)) true],[(.sl .u8),(.sl .u32),(.int .i64),(.arr 32 .u8)],[⟨.exit 0,[(2,.ref 0 []),(4,.v (.sl .u32))],[.var (.v (.arr 32 .u8)) true],[(.sl .u32),(.arr 32 .u8)]⟩],Zd (XK fuel) fuel⟩
theorem ZhL:Zc4.Ok yb (Zp yb 203) (Zo yb 203 0):=Zk (fi:={ hi:={ still:=[8,17,22]},lp:=[]}) (specs:={ l:=[Zc3]}) (okS ⟨Zjz,trivial⟩) trivial (by kernel_rfl) (fun v=>by kernel_rfl)
def XL (F:Nat) (s:((List UInt32)×Int×(List UInt8)×(List UInt8))):Option (((List UInt32)×Int×(List UInt8)×(List UInt8))⊕((List UInt8)×(List UInt8))):=
 if (decide (s.2.1 < 32))=true then
  (idx s.1 (wi (Int.tdiv s.2.1 4))).bind fun e75=>
  if (decide (0≤wi (24 - (wi (8*(Int.tmod s.2.1 4))))))=true then
   let y76:UInt32:=ZdN e75 (min (wi (24 - (wi (8*(Int.tmod s.2.1 4))))).toNat 32)
   if (inB s.2.1 32)=true then
    (s.2.2.2[s.2.1.toNat]?).bind fun e77=>
    some (.inl (s.1,wi (s.2.1+1),s.2.2.1,s.2.2.2.set s.2.1.toNat (w8 (y76.toNat:Int))))
   else
   none
  else
  none
 else
 some (.inr (s.2.2.1,s.2.2.2))
def Zc5:Lp:=⟨[(2,.ref 0 []),(4,.v (.sl .u32)),(6,.ref 1 []),(7,.v (.int .i64))],[.var (.v (.arr 32 .u8)) true,.var (.v (.arr 32 .u8)) true],[(.sl .u32),(.int .i64),(.arr 32 .u8),(.arr 32 .u8)],[⟨.exit 2,[(2,.ref 0 []),(6,.ref 1 [])],[.var (.v (.arr 32 .u8)) true,.var (.v (.arr 32 .u8)) true],[(.arr 32 .u8),(.arr 32 .u8)]⟩],Zd (XL fuel) fuel⟩
theorem ZhM:Zc5.Ok yb (Zp yb 203) (Zo yb 203 1):=Zk (fi:={ hi:={ still:=[8,17,22]},lp:=[]}) (specs:={ l:=[]}) (okS trivial) trivial (by kernel_rfl) (fun v=>by kernel_rfl)
def Wy (F:Nat) (a0:(List UInt8)):Option ((List UInt8)):=
 (WQ F a0).bind fun o70=>
 (Qo F).bind fun o71=>
 (Zd (XK F) F (o70,o71,(0:Int),([0,0,0,0,0,0,0,0,0,0,0,0,0,0,0,0,0,0,0,0,0,0,0,0,0,0,0,0,0,0,0,0]:List UInt8))).bind fun o74=>
 (Zd (XL F) F (o74.1,(0:Int),o74.2,([0,0,0,0,0,0,0,0,0,0,0,0,0,0,0,0,0,0,0,0,0,0,0,0,0,0,0,0,0,0,0,0]:List UInt8))).bind fun o78=>
 some o78.2
def Qp (F:Nat):Fs yb:=⟨203,[.v (.sl .u8)],[],[(.sl .u8)],[⟨.ret,[(0,.v (.arr 32 .u8))],[],[(.arr 32 .u8)]⟩],fun x=>Wy F x⟩
def ZlS:Fs yb:=Qp fuel
theorem Zkx:ZlS.Ok:=Zg (fi:={ hi:={ still:=[8,17,22]},lp:=[(0,Zc4),(1,Zc5)]}) (specs:={ l:=[ZbM,ZbN]}) (okS ⟨Ziy,ZiA,trivial⟩) ⟨ZhL,ZhM,trivial⟩ (by decide+kernel) (fun x=>by kernel_rfl)
end
end Go.Proofs.YtjbbdlffilcaaaaGreat
end
section
namespace Go.Sha
open Go.Ev
noncomputable def Zag {α:Type} (n:Nat) (k:Nat→α):α:=Nat.rec (motive:=fun _=>α) (k 0) (fun m _=>k (Nat.succ m)) n
theorem XY {α:Type} (n:Nat) (k:Nat→α):Zag n k=k n:=by cases n <;> rfl
def dbl (x:Nat):Nat:=Nat.mul x 4294967297
def s0 (x:Nat):Nat:=Nat.xor (Nat.xor (yaa (dbl x) 7) (yaa (dbl x) 18)) (yaa x 3)
def s1 (x:Nat):Nat:=Nat.xor (Nat.xor (yaa (dbl x) 17) (yaa (dbl x) 19)) (yaa x 10)
def S0 (x:Nat):Nat:=Nat.xor (Nat.xor (yaa (dbl x) 2) (yaa (dbl x) 13)) (yaa (dbl x) 22)
def S1 (x:Nat):Nat:=Nat.xor (Nat.xor (yaa (dbl x) 6) (yaa (dbl x) 11)) (yaa (dbl x) 25)
def ch (e f g:Nat):Nat:=Nat.xor g (Nat.land e (Nat.xor f g))
def mj (a b c:Nat):Nat:=Nat.lor (Nat.land a b) (Nat.land c (Nat.lor a b))
def lo (x:Nat):Nat:=Nat.mod x 4294967296
def kw (W:Nat):Nat:=lo (ym (ym (ym (yaa W 480) (s0 (lo (yaa W 448)))) (lo (yaa W 192))) (s1 (lo (yaa W 32))))
def kn (W:Nat):Nat:=Nat.mod (ym (Nat.mul W 4294967296) (kw W)) (Nat.pow 2 512)
noncomputable def kst (k:Nat) (ih:Nat→Nat→Nat→Nat→Nat→Nat→Nat→Nat→Nat→Nat) (W a b c d e f g h:Nat):Nat:=
 Zag (ym (ym (ym (ym h (S1 e)) (ch e f g)) k) (yaa W 480)) fun t=>
     Zag (lo (ym (ym t (S0 a)) (mj a b c))) fun a'=>Zag (lo (ym d t)) fun e'=>Zag (kn W) fun W'=>ih W' a' a b c e' e f g
noncomputable def kgo (ks:List Nat) (K:Nat→Nat→Nat→Nat→Nat→Nat→Nat→Nat→Nat):Nat→Nat→Nat→Nat→Nat→Nat→Nat→Nat→Nat→Nat:=
 List.rec (motive:=fun _=>Nat→Nat→Nat→Nat→Nat→Nat→Nat→Nat→Nat→Nat) (fun _=>K) (fun k _ ih=>kst k ih) ks
def ks:List Nat:=[1116352408,1899447441,3049323471,3921009573,961987163,1508970993,2453635748,2870763221,3624381080,310598401,607225278,1426881987,1925078388,2162078206,2614888103,3248222580,3835390401,4022224774,264347078,604807628,770255983,1249150122,1555081692,1996064986,2554220882,2821834349,2952996808,3210313671,3336571891,3584528711,113926993,338241895,666307205,773529912,1294757372,1396182291,1695183700,1986661051,2177026350,2456956037,2730485921,2820302411,3259730800,3345764771,3516065817,3600352804,4094571909,275423344,430227734,506948616,659060556,883997877,958139571,1322822218,1537002063,1747873779,1955562222,2024104815,2227730452,2361852424,2428436474,2756734187,3204031479,3329325298]
def w32 (H i:Nat):Nat:=lo (yaa H i)
def cat (H x:Nat):Nat:=ym (Nat.mul H 4294967296) (lo x)
noncomputable def ZHj (H B:Nat):Nat:=
 Zag (w32 H 224) fun a=>Zag (w32 H 192) fun b=>Zag (w32 H 160) fun c=>Zag (w32 H 128) fun d=>Zag (w32 H 96) fun e=>Zag (w32 H 64) fun f=>Zag (w32 H 32) fun g=>Zag (w32 H 0) fun h=>
  kgo ks (fun a' b' c' d' e' f' g' h'=>cat (cat (cat (cat (cat (cat (cat (cat 0 (ym a' a)) (ym b' b)) (ym c' c)) (ym d' d)) (ym e' e)) (ym f' f)) (ym g' g)) (ym h' h)) B a b c d e f g h
noncomputable def pk (l:List Nat) (n:Nat):Nat:=List.rec (motive:=fun _=>Nat→Nat) (fun n=>n) (fun x _ ih n=>Zag (ym (Nat.mul n 256) x) ih) l n
noncomputable def ZIM (n:Nat) (l:List Nat) (H:Nat):Nat:=
 Nat.rec (motive:=fun _=>List Nat→Nat→Nat) (fun _ H=>H) (fun _ ih l H=>Zag (ZHj H (pk (l.take 64) 0)) fun H'=>ih (l.drop 64) H') n l H
noncomputable def outs (H:Nat) (l:List Nat):List UInt8:=List.rec (motive:=fun _=>List UInt8) [] (fun s _ ih=>Zag (Nat.mod (yaa H s) 256) fun x=>yaz x::ih) l
def ZA0:List Nat:=[248,240,232,224,216,208,200,192,184,176,168,160,152,144,136,128,120,112,104,96,88,80,72,64,56,48,40,32,24,16,8,0]
def be8 (n:Nat):List Nat:=[n / 2 ^ 56 % 256,n / 2 ^ 48 % 256,n / 2 ^ 40 % 256,n / 2 ^ 32 % 256,n / 2 ^ 24 % 256,n / 2 ^ 16 % 256,n / 2 ^ 8 % 256,n % 256]
def zs (n:Nat):Nat:=(119 - n % 64) % 64
def H0:Nat:=cat (cat (cat (cat (cat (cat (cat (cat 0 1779033703) 3144134277) 1013904242) 2773480762) 1359893119) 2600822924) 528734635) 1541459225
noncomputable def sha (l:List UInt8):List UInt8:=
 Zag l.length fun n=>Zag (ZIM (Nat.div (ym n 72) 64) (l.map yah++(128::(yr (zs n) 0++be8 (8*n)))) H0) fun H=>outs H ZA0
theorem Q7 (x y:UInt32):(x+y).toNat=lo (x.toNat+y.toNat):=by rw [UInt32.toNat_add];rfl
theorem Zmq (x y:UInt32):(x^^^y).toNat=Nat.xor x.toNat y.toNat:=UInt32.toNat_xor ..
theorem ZFu (x y:UInt32):(x&&&y).toNat=Nat.land x.toNat y.toNat:=UInt32.toNat_and ..
theorem Zxe (x y:UInt32):(x|||y).toNat=Nat.lor x.toNat y.toNat:=UInt32.toNat_or ..
theorem ZIN (x:UInt32):x.toNat < 4294967296:=x.toNat_lt
theorem ZvH (x:UInt32) (n:Nat):(ZdN x n).toNat=yaa x.toNat n:=by
 unfold ZdN
 rw [ycj,show yaa x.toNat n=x.toNat >>> n from rfl,ycy]
 exact yac (Nat.lt_of_le_of_lt (Nat.div_le_self _ _) (ZIN x))
theorem ZHG (x:Nat):lo x < 4294967296:=yaq _ (by omega)
theorem ZbS {x:Nat} (h:x < 4294967296):lo x=x:=yac h
theorem ZHH (x:UInt32) {n k:Nat} (h:n+k=32) (hn:0 < n):(ZaE x k|||ZdN x n).toNat=lo (yaa (dbl x.toNat) n):=by
 rw [Zxe,ZvH]
 unfold ZaE
 have hx:=ZIN x
 generalize x.toNat=m at hx
 have hp:2 ^ n*2 ^ k=4294967296:=by rw [←ybq,h]
 rw [ycj,show yaa m n=m >>> n from rfl,ycy,show yaa (dbl m) n=(dbl m) >>> n from rfl,ycy]
 have e1:m*2 ^ k % 2 ^ 32=2 ^ k*(m % 2 ^ n):=by
  rw [show (2:Nat) ^ 32=2 ^ n*2 ^ k from hp.symm,Nat.mul_mod_mul_right]
  exact ybj ..
 have hd:m / 2 ^ n < 2 ^ k:=by
  rw [Nat.div_lt_iff_lt_mul (Nat.two_pow_pos n),ybj,hp]
  exact hx
 rw [e1,show Nat.lor (2 ^ k*(m % 2 ^ n)) (m / 2 ^ n)=2 ^ k*(m % 2 ^ n)|||m / 2 ^ n from rfl, ←ycx hd]
 have e2:dbl m=2 ^ n*(m*2 ^ k)+m:=by
  unfold dbl
  rw [Nat.mul_left_comm,hp,show Nat.mul m 4294967297=m*4294967297 from rfl]
  omega
 rw [e2,Nat.mul_add_div (Nat.two_pow_pos n)]
 unfold lo
 rw [show Nat.mod (m*2 ^ k+m / 2 ^ n) 4294967296=(m*2 ^ k+m / 2 ^ n) % 4294967296 from rfl,Nat.add_mod,show m*2 ^ k % 4294967296=2 ^ k*(m % 2 ^ n) from e1,yac (a:=m / 2 ^ n) (b:=4294967296) (by rw [←hp];exact Nat.lt_of_lt_of_le hd (Nat.le_mul_of_pos_left _ (Nat.two_pow_pos n)))]
 refine (yac ?_).symm
 have hm:m % 2 ^ n < 2 ^ n:=yaq _ (Nat.two_pow_pos n)
 calc 2 ^ k*(m % 2 ^ n)+m / 2 ^ n < 2 ^ k*(m % 2 ^ n)+2 ^ k:=by omega
  _=2 ^ k*(m % 2 ^ n+1):=by rw [Nat.mul_add,Nat.mul_one]
  _≤2 ^ k*2 ^ n:=Nat.mul_le_mul_left _ hm
  _=4294967296:=by rw [ybj,hp]
theorem Zky (x y:Nat):lo (Nat.xor x y)=Nat.xor (lo x) (lo y):=Nat.xor_mod_two_pow (n:=32)
theorem ZFv (x:UInt32) (n:Nat):lo (yaa x.toNat n)=yaa x.toNat n:=by
 rw [←ZvH]
 exact ZbS (ZIN _)
theorem ZJA (x:UInt32) {a b:UInt32} (ha:a.toNat=lo (yaa (dbl x.toNat) 7)) (hb:b.toNat=lo (yaa (dbl x.toNat) 18)):((a^^^b)^^^ZdN x 3).toNat=lo (s0 x.toNat):=by
 unfold s0
 rw [Zmq,Zmq,ZvH,ha,hb,Zky,Zky,ZFv]
theorem ZJB (x:UInt32) {a b:UInt32} (ha:a.toNat=lo (yaa (dbl x.toNat) 17)) (hb:b.toNat=lo (yaa (dbl x.toNat) 19)):((a^^^b)^^^ZdN x 10).toNat=lo (s1 x.toNat):=by
 unfold s1
 rw [Zmq,Zmq,ZvH,ha,hb,Zky,Zky,ZFv]
theorem ZJC (x:UInt32) {a b c:UInt32} (ha:a.toNat=lo (yaa (dbl x.toNat) 2)) (hb:b.toNat=lo (yaa (dbl x.toNat) 13)) (hc:c.toNat=lo (yaa (dbl x.toNat) 22)):((a^^^b)^^^c).toNat=lo (S0 x.toNat):=by
 unfold S0
 rw [Zmq,Zmq,ha,hb,hc,Zky,Zky]
theorem ZJD (x:UInt32) {a b c:UInt32} (ha:a.toNat=lo (yaa (dbl x.toNat) 6)) (hb:b.toNat=lo (yaa (dbl x.toNat) 11)) (hc:c.toNat=lo (yaa (dbl x.toNat) 25)):((a^^^b)^^^c).toNat=lo (S1 x.toNat):=by
 unfold S1
 rw [Zmq,Zmq,ha,hb,hc,Zky,Zky]
theorem ZJE (e f g:UInt32):(g^^^(e&&&(f^^^g))).toNat=ch e.toNat f.toNat g.toNat:=by
 unfold ch
 rw [Zmq,ZFu,Zmq]
theorem ZJF (a b c:UInt32):((a&&&b)|||(c&&&(a|||b))).toNat=mj a.toNat b.toNat c.toNat:=by
 unfold mj
 rw [Zxe,ZFu,ZFu,Zxe]
theorem ZJG (a b c d:Nat):lo (lo (lo (a+lo b)+c)+lo d)=lo (a+b+c+d):=by
 show (((a+b % 4294967296) % 4294967296+c) % 4294967296+d % 4294967296) % 4294967296=(a+b+c+d) % 4294967296
 omega
theorem ZJH (a b c d e:Nat):lo (lo (lo (lo (a+lo b)+c)+d)+e)=lo (ym (ym (ym (ym a b) c) d) e):=by
 show ((((a+b % 4294967296) % 4294967296+c) % 4294967296+d) % 4294967296+e) % 4294967296=(a+b+c+d+e) % 4294967296
 omega
theorem ZJI (t s m:Nat):lo (lo (lo t+lo s)+m)=lo (ym (ym t s) m):=by
 show ((t % 4294967296+s % 4294967296) % 4294967296+m) % 4294967296=(t+s+m) % 4294967296
 omega
theorem ZJJ (d t:Nat):lo (d+lo t)=lo (ym d t):=by
 show (d+t % 4294967296) % 4294967296=(d+t) % 4294967296
 omega
def pw (n:Nat) (l:List Nat):Nat:=l.foldl (fun n x=>n*4294967296+x) n
theorem ZA1:∀(l:List Nat) (n:Nat),(∀x,x∈l→x < 4294967296)→pw n l / 2 ^ (32*l.length)=n
 |[],n,_=>by simp [pw]
 |x::r,n,h=>by
  have ih:=ZA1 r (n*4294967296+x) (fun y hy=>h y (yal _ hy))
  have hx:=h x (yak ..)
  rw [show pw n (x::r)=pw (n*4294967296+x) r from rfl,yad,show 32*(r.length+1)=32*r.length+32 by omega,ybq, ←Nat.div_div_eq_div_mul,ih]
  omega
theorem Zof:∀(l:List Nat) (n:Nat),pw n l=n*2 ^ (32*l.length)+pw 0 l
 |[],n=>by simp [pw]
 |x::r,n=>by
  rw [show pw n (x::r)=pw (n*4294967296+x) r from rfl,show pw 0 (x::r)=pw (0*4294967296+x) r from rfl,Zof r (n*4294967296+x),Zof r (0*4294967296+x),yad,show 32*(r.length+1)=32+32*r.length by omega,ybq,Nat.zero_mul,
   ybb,yas, ←Nat.mul_assoc,ycc]
theorem ZHI:∀(l:List Nat),(∀x,x∈l→x < 4294967296)→pw 0 l < 2 ^ (32*l.length)
 |[],_=>by simp [pw]
 |x::r,h=>by
  have ih:=ZHI r (fun y hy=>h y (yal _ hy))
  have hx:=h x (yak ..)
  rw [show pw 0 (x::r)=pw (0*4294967296+x) r from rfl,Zof,yad,show 32*(r.length+1)=32+32*r.length by omega,ybq,Nat.zero_mul,ybb]
  have:(x+1)*2 ^ (32*r.length)≤2 ^ 32*2 ^ (32*r.length):=Nat.mul_le_mul_right _ (by omega)
  rw [yas,Nat.one_mul] at this
  omega
theorem ZHJ {n x s:Nat} {r:List Nat} (h:∀y,y∈r→y < 4294967296) (hs:s=32*r.length):yaa (pw n (x::r)) s=n*4294967296+x:=by
 subst hs
 rw [show yaa (pw n (x::r)) (32*r.length)=pw n (x::r) >>> (32*r.length) from rfl,ycy]
 exact ZA1 r (n*4294967296+x) h
theorem ZHK {n x s:Nat} {r:List Nat} (hx:x < 4294967296) (h:∀y,y∈r→y < 4294967296) (hs:s=32*r.length):lo (yaa (pw n (x::r)) s)=x:=by
 rw [ZHJ h hs]
 show (n*4294967296+x) % 4294967296=x
 omega
theorem ZA2 (n:Nat) (l r:List Nat):pw n (l++r)=pw (pw n l) r:=List.foldl_append ..
theorem ZB8 (n x:Nat) (r:List Nat):pw n (x::r)=pw (n*4294967296+x) r:=rfl
theorem ZgC {v l r:List Nat} {x s:Nat} (e:v=l++x::r) (h:∀y,y∈v→y < 4294967296) (hs:s=32*r.length):lo (yaa (pw 0 v) s)=x:=by
 rw [e] at h ⊢
 rw [ZA2]
 exact ZHK (h x (by simp)) (fun y hy=>h y (by simp [hy])) hs
def wd (ws:List Nat) (n:Nat):Nat:=if h:n < 16 then lo (ws.getD n 0) else lo (wd ws (n - 16)+s0 (wd ws (n - 15))+wd ws (n - 7)+s1 (wd ws (n - 2)))
termination_by n
decreasing_by all_goals omega
theorem ZJK (ws:List Nat) (n:Nat):wd ws n < 4294967296:=by
 rw [wd]
 split <;> exact ZHG _
theorem Zxf (ws:List Nat) (n:Nat):wd ws (n+16)=lo (wd ws n+s0 (wd ws (n+1))+wd ws (n+9)+s1 (wd ws (n+14))):=by
 rw [wd,dif_neg (by omega)]
 simp only [Nat.add_sub_cancel,show n+16 - 15=n+1 by omega,show n+16 - 7=n+9 by omega,show n+16 - 2=n+14 by omega]
def win (ws:List Nat) (i:Nat):List Nat:=[wd ws i,wd ws (i+1),wd ws (i+2),wd ws (i+3),wd ws (i+4),wd ws (i+5),wd ws (i+6),wd ws (i+7),wd ws (i+8),wd ws (i+9),wd ws (i+10),wd ws (i+11),wd ws (i+12),wd ws (i+13),wd ws (i+14),wd ws (i+15)]
theorem ZA3 {ws:List Nat} {i:Nat} {l:List Nat} (h:∀x,x∈l→∃j,x=wd ws j):∀x,x∈l→x < 4294967296:=fun x hx=>by
 obtain ⟨j,rfl⟩:=h x hx
 exact ZJK _ _
theorem ZB9 (ws:List Nat) (i:Nat):yaa (pw 0 (win ws i)) 480=wd ws i:=by
 have h:=ZHJ (n:=0) (x:=wd ws i) (s:=480) (r:=(win ws i).tail) (ZA3 (ws:=ws) (i:=i) (fun x hx=>by
  simp only [win,List.tail_cons,yax,ybs,or_false] at hx
  rcases hx with h|h|h|h|h|h|h|h|h|h|h|h|h|h|h <;> exact ⟨_,h⟩)) rfl
 rw [Nat.zero_mul,ybb] at h
 exact h
theorem ZIO (ws:List Nat) (i:Nat):kw (pw 0 (win ws i))=wd ws (i+16):=by
 have key:∀(l r:List Nat) (x s:Nat),win ws i=l++x::r→s=32*r.length→lo (yaa (pw 0 (win ws i)) s)=x:=by
  intro l r x s e hs
  have hall:∀y,y∈win ws i→y < 4294967296:=ZA3 (i:=i) fun x hx=>by
   simp only [win,yax,ybs,or_false] at hx
   rcases hx with h|h|h|h|h|h|h|h|h|h|h|h|h|h|h|h <;> exact ⟨_,h⟩
  rw [e] at hall ⊢
  rw [ZA2]
  exact ZHK (hall x (by simp)) (fun y hy=>hall y (by simp [hy])) hs
 unfold kw
 rw [ZB9,key [_] _ (wd ws (i+1)) 448 rfl rfl,key [_,_,_,_,_,_,_,_,_] _ (wd ws (i+9)) 192 rfl rfl,key [_,_,_,_,_,_,_,_,_,_,_,_,_,_] _ (wd ws (i+14)) 32 rfl rfl,Zxf]
 rfl
theorem ZHk (a b m:Nat) (h:b < 2 ^ m):Nat.mod (a*2 ^ m+b) (Nat.pow 2 m)=b:=by
 show (a*2 ^ m+b) % 2 ^ m=b
 rw [ybj,Nat.mul_add_mod]
 exact yac h
theorem ZIP (ws:List Nat) (i:Nat):kn (pw 0 (win ws i))=pw 0 (win ws (i+1)):=by
 have e:ym (Nat.mul (pw 0 (win ws i)) 4294967296) (kw (pw 0 (win ws i)))=pw (wd ws i) (win ws (i+1)):=by
  rw [ZIO]
  show pw 0 (win ws i)*4294967296+wd ws (i+16)=pw (wd ws i) (win ws (i+1))
  rw [show wd ws i=0*4294967296+wd ws i by omega]
  rfl
 unfold kn
 rw [e,Zof]
 have hl:(win ws (i+1)).length=16:=rfl
 have hlt:=ZHI (win ws (i+1)) (ZA3 (i:=i+1) fun x hx=>by
  simp only [win,yax,ybs,or_false] at hx
  rcases hx with h|h|h|h|h|h|h|h|h|h|h|h|h|h|h|h <;> exact ⟨_,h⟩)
 rw [show 512=32*(win ws (i+1)).length by rw [hl]]
 exact ZHk _ _ _ hlt
def rnd (v:List Nat) (k w:Nat):List Nat:=match v with
 |[a,b,c,d,e,f,g,h]=>[lo (ym (ym (ym (ym (ym (ym h (S1 e)) (ch e f g)) k) w) (S0 a)) (mj a b c)),a,b,c,lo (ym d (ym (ym (ym (ym h (S1 e)) (ch e f g)) k) w)),e,f,g]
 |_=>[]
def rs (ws v:List Nat):Nat→List Nat
 |0=>v
 |i+1=>rnd (rs ws v i) (ks.getD i 0) (wd ws i)
theorem ZHl {v:List Nat} (h:v.length=8) (k w:Nat):(rnd v k w).length=8:=by
 match v,h with
 |[a,b,c,d,e,f,g,h],_=>rfl
theorem Zxg {ws v:List Nat} (h:v.length=8):∀i,(rs ws v i).length=8
 |0=>h
 |i+1=>ZHl (Zxg h i) _ _
noncomputable def ZFw (f:Nat→Nat→Nat→Nat→Nat→Nat→Nat→Nat→Nat) (v:List Nat):Nat:=match v with
 |[a,b,c,d,e,f',g,h]=>f a b c d e f' g h
 |_=>0
theorem ZlI {F:Nat→Nat→Nat→Nat→Nat→Nat→Nat→Nat→Nat} {a b c d e f g h:Nat}:ZFw F [a,b,c,d,e,f,g,h]=F a b c d e f g h:=rfl
theorem ZFx (k:Nat) (l:List Nat) (K:Nat→Nat→Nat→Nat→Nat→Nat→Nat→Nat→Nat):kgo (k::l) K=kst k (kgo l K):=rfl
theorem ZsU (a b c d e f g h k w:Nat):rnd [a,b,c,d,e,f,g,h] k w=[lo (ym (ym (ym (ym (ym (ym h (S1 e)) (ch e f g)) k) w) (S0 a)) (mj a b c)),a,b,c,lo (ym d (ym (ym (ym (ym h (S1 e)) (ch e f g)) k) w)),e,f,g]:=rfl
theorem ZIQ (k:Nat) (ih:Nat→Nat→Nat→Nat→Nat→Nat→Nat→Nat→Nat→Nat) (W a b c d e f g h:Nat):kst k ih W a b c d e f g h=
 ih (kn W) (lo (ym (ym (ym (ym (ym (ym h (S1 e)) (ch e f g)) k) (yaa W 480)) (S0 a)) (mj a b c))) a b c (lo (ym d (ym (ym (ym (ym h (S1 e)) (ch e f g)) k) (yaa W 480)))) e f g:=by
 unfold kst
 rw [XY,XY,XY,XY]
theorem ZFy {ws v:List Nat} {K:Nat→Nat→Nat→Nat→Nat→Nat→Nat→Nat→Nat} {k w:Nat} {l:List Nat} (hv:v.length=8) {W:Nat} (hW:yaa W 480=w):ZFw (kgo (k::l) K W) v=ZFw (kgo l K (kn W)) (rnd v k w):=by
 match v,hv with
 |[a,b,c,d,e,f,g,h],_=>
  rw [ZFx,ZlI,ZIQ,hW,ZsU,ZlI]
theorem ZCa {ws v:List Nat} {K:Nat→Nat→Nat→Nat→Nat→Nat→Nat→Nat→Nat} (hv:v.length=8):∀(m i:Nat),i+m=64→ZFw (kgo (ks.drop i) K (pw 0 (win ws i))) (rs ws v i)=ZFw K (rs ws v 64)
 |0,i,h=>by
  have e:i=64:=by omega
  subst e
  rw [show ks.drop 64=[] from rfl]
  generalize pw 0 (win ws 64)=W
  rfl
 |m+1,i,h=>by
  have hi:i < ks.length:=by show i < 64;omega
  rw [List.drop_eq_getElem_cons hi,ZFy (ws:=ws) (Zxg hv i) (ZB9 ws i),ZIP]
  have:=ZCa (ws:=ws) (K:=K) hv m (i+1) (by omega)
  rw [show rs ws v (i+1)=rnd (rs ws v i) (ks.getD i 0) (wd ws i) from rfl,show ks.getD i 0=ks[i] by rw [ycu,yw hi];rfl] at this
  exact this
def ZiB (v ws:List Nat):List Nat:=List.zipWith (fun x y=>lo (x+y)) (rs ws v 64) v
theorem Zfc {v ws:List Nat} (h:v.length=8):(ZiB v ws).length=8:=by
 rw [ZiB,List.length_zipWith,Zxg h,h]
 rfl
theorem ZCb {v ws:List Nat}:∀x,x∈ZiB v ws→x < 4294967296:=by
 intro x hx
 unfold ZiB at hx
 rw [List.mem_iff_getElem] at hx
 obtain ⟨i,hi,rfl⟩:=hx
 rw [List.getElem_zipWith]
 exact ZHG _
theorem ZHm {v ws:List Nat} (hv:v.length=8) (hlt:∀x,x∈v→x < 4294967296) (hw:ws.length=16) (hwl:∀x,x∈ws→x < 4294967296):ZHj (pw 0 v) (pw 0 ws)=pw 0 (ZiB v ws):=by
 have e0:ws=win ws 0:=by
  match ws,hw with
  |[a0,a1,a2,a3,a4,a5,a6,a7,a8,a9,a10,a11,a12,a13,a14,a15],_=>
   simp only [yax,ybs,or_false,forall_eq_or_imp,forall_eq] at hwl
   obtain ⟨h0,h1,h2,h3,h4,h5,h6,h7,h8,h9,h10,h11,h12,h13,h14,h15⟩:=hwl
   have hs:∀n,n < 16→wd [a0,a1,a2,a3,a4,a5,a6,a7,a8,a9,a10,a11,a12,a13,a14,a15] n=lo ([a0,a1,a2,a3,a4,a5,a6,a7,a8,a9,a10,a11,a12,a13,a14,a15].getD n 0):=fun n hn=>by rw [wd,dif_pos hn]
   unfold win
   rw [hs 0 (by omega),hs (0+1) (by omega),hs (0+2) (by omega),hs (0+3) (by omega),hs (0+4) (by omega),hs (0+5) (by omega),hs (0+6) (by omega),hs (0+7) (by omega),hs (0+8) (by omega),hs (0+9) (by omega),hs (0+10) (by omega),hs (0+11) (by omega),hs (0+12) (by omega),hs (0+13) (by omega),hs (0+14) (by omega),hs (0+15) (by omega)]
   show _=[lo a0,lo a1,lo a2,lo a3,lo a4,lo a5,lo a6,lo a7,lo a8,lo a9,lo a10,lo a11,lo a12,lo a13,lo a14,lo a15]
   rw [ZbS h0,ZbS h1,ZbS h2,ZbS h3,ZbS h4,ZbS h5,ZbS h6,ZbS h7,ZbS h8,ZbS h9,ZbS h10,ZbS h11,ZbS h12,ZbS h13,ZbS h14,ZbS h15]
 match v,hv with
 |[a,b,c,d,e,f,g,h],hv=>
  have ea:w32 (pw 0 [a,b,c,d,e,f,g,h]) 224=a:=ZgC (l:=[]) (r:=[b,c,d,e,f,g,h]) rfl hlt rfl
  have eb:w32 (pw 0 [a,b,c,d,e,f,g,h]) 192=b:=ZgC (l:=[a]) (r:=[c,d,e,f,g,h]) rfl hlt rfl
  have ec:w32 (pw 0 [a,b,c,d,e,f,g,h]) 160=c:=ZgC (l:=[a,b]) (r:=[d,e,f,g,h]) rfl hlt rfl
  have ed:w32 (pw 0 [a,b,c,d,e,f,g,h]) 128=d:=ZgC (l:=[a,b,c]) (r:=[e,f,g,h]) rfl hlt rfl
  have ee:w32 (pw 0 [a,b,c,d,e,f,g,h]) 96=e:=ZgC (l:=[a,b,c,d]) (r:=[f,g,h]) rfl hlt rfl
  have ef:w32 (pw 0 [a,b,c,d,e,f,g,h]) 64=f:=ZgC (l:=[a,b,c,d,e]) (r:=[g,h]) rfl hlt rfl
  have eg:w32 (pw 0 [a,b,c,d,e,f,g,h]) 32=g:=ZgC (l:=[a,b,c,d,e,f]) (r:=[h]) rfl hlt rfl
  have eh:w32 (pw 0 [a,b,c,d,e,f,g,h]) 0=h:=ZgC (l:=[a,b,c,d,e,f,g]) (r:=[]) rfl hlt rfl
  unfold ZHj
  rw [ea,eb,ec,ed,ee,ef,eg,eh,XY,XY,XY,XY,XY,XY,XY,XY]
  have hr:=ZCa (ws:=ws) (v:=[a,b,c,d,e,f,g,h]) (K:=fun a' b' c' d' e' f' g' h'=>cat (cat (cat (cat (cat (cat (cat (cat 0 (ym a' a)) (ym b' b)) (ym c' c)) (ym d' d)) (ym e' e)) (ym f' f)) (ym g' g)) (ym h' h)) rfl 64 0 rfl
  rw [←e0,show ks.drop 0=ks from rfl,show rs ws [a,b,c,d,e,f,g,h] 0=[a,b,c,d,e,f,g,h] from rfl,ZlI] at hr
  rw [hr]
  unfold ZiB
  generalize rs ws [a,b,c,d,e,f,g,h] 64=q,Zxg (ws:=ws) hv 64=hq
  match q,hq with
  |[a',b',c',d',e',f',g',h'],_=>
   rw [ZlI]
   simp only [List.zipWith_cons_cons,List.zipWith_nil_right,ZB8,cat]
   rfl
theorem Zrn (x:Nat) (l:List Nat) (n:Nat):pk (x::l) n=pk l (n*256+x):=by
 show Zag (ym (Nat.mul n 256) x) (pk l)=_
 rw [XY]
 rfl
def Z9:List Nat→List Nat
 |a::b::c::d::r=>(((a*256+b)*256+c)*256+d)::Z9 r
 |_=>[]
theorem Zze:∀(m:Nat) (l:List Nat) (n:Nat),l.length=4*m→pk l n=pw n (Z9 l)
 |0,[],n,_=>rfl
 |0,_::_,_,h=>by simp at h
 |m+1,[],_,h=>by simp at h
 |m+1,[_],_,h=>by simp at h;omega
 |m+1,[_,_],_,h=>by simp at h;omega
 |m+1,[_,_,_],_,h=>by simp at h;omega
 |m+1,a::b::c::d::r,n,h=>by
  rw [Zrn,Zrn,Zrn,Zrn,Z9]
  rw [Zze m r _ (by simp at h;omega),ZB8]
  have e:(((n*256+a)*256+b)*256+c)*256+d=n*4294967296+(((a*256+b)*256+c)*256+d):=by omega
  rw [e]
theorem Zqi:∀(m:Nat) (l:List Nat),l.length=4*m→(Z9 l).length=m
 |0,[],_=>rfl
 |0,_::_,h=>by simp at h
 |m+1,[],h=>by simp at h
 |m+1,[_],h=>by simp at h;omega
 |m+1,[_,_],h=>by simp at h;omega
 |m+1,[_,_,_],h=>by simp at h;omega
 |m+1,a::b::c::d::r,h=>by
  rw [Z9,yad,Zqi m r (by simp at h;omega)]
theorem ZsV:∀(m:Nat) (l:List Nat),l.length=4*m→(∀x,x∈l→x < 256)→∀x,x∈Z9 l→x < 4294967296
 |0,[],_,_,x,hx=>by simp [Z9] at hx
 |0,_::_,h,_,_,_=>by simp at h
 |m+1,[],h,_,_,_=>by simp at h
 |m+1,[_],h,_,_,_=>by simp at h;omega
 |m+1,[_,_],h,_,_,_=>by simp at h;omega
 |m+1,[_,_,_],h,_,_,_=>by simp at h;omega
 |m+1,a::b::c::d::r,h,hl,x,hx=>by
  rw [Z9] at hx
  have h1:=hl a (by simp)
  have h2:=hl b (by simp)
  have h3:=hl c (by simp)
  have h4:=hl d (by simp)
  rcases yax.1 hx with rfl|hx
  ·omega
  ·exact ZsV m r (by simp at h;omega) (fun y hy=>hl y (by simp [hy])) x hx
theorem Zkz:∀(i:Nat) (l:List Nat) (a b c d:Nat),l[4*i]? =some a→l[4*i+1]? =some b→l[4*i+2]? =some c→l[4*i+3]? =some d→(Z9 l)[i]? =some (((a*256+b)*256+c)*256+d)
 |0,[],_,_,_,_,h,_,_,_=>by simp at h
 |0,[_],_,_,_,_,_,h,_,_=>by simp at h
 |0,[_,_],_,_,_,_,_,_,h,_=>by simp at h
 |0,[_,_,_],_,_,_,_,_,_,_,h=>by simp at h
 |0,a::b::c::d::r,_,_,_,_,h1,h2,h3,h4=>by
  simp at h1 h2 h3 h4
  subst h1 h2 h3 h4
  rfl
 |i+1,[],_,_,_,_,h,_,_,_=>by simp at h
 |i+1,[_],_,_,_,_,h,_,_,_=>by simp [show 4*(i+1)=4*i+3+1 by omega] at h
 |i+1,[_,_],_,_,_,_,h,_,_,_=>by simp [show 4*(i+1)=4*i+2+1+1 by omega] at h
 |i+1,[_,_,_],_,_,_,_,h,_,_,_=>by simp [show 4*(i+1)=4*i+1+1+1+1 by omega] at h
 |i+1,a::b::c::d::r,_,_,_,_,h1,h2,h3,h4=>by
  rw [Z9,yay]
  exact Zkz i r _ _ _ _ (by simpa [show 4*(i+1)=4*i+1+1+1+1 by omega] using h1) (by simpa [show 4*(i+1)+1=4*i+1+1+1+1+1 by omega] using h2)
   (by simpa [show 4*(i+1)+2=4*i+2+1+1+1+1 by omega] using h3) (by simpa [show 4*(i+1)+3=4*i+3+1+1+1+1 by omega] using h4)
def Zfd:Nat→List Nat→List Nat→List Nat
 |0,_,v=>v
 |n+1,l,v=>Zfd n (l.drop 64) (ZiB v (Z9 (l.take 64)))
theorem ZCc:∀(n:Nat) (l v:List Nat),l.length=64*n→(∀x,x∈l→x < 256)→v.length=8→(∀x,x∈v→x < 4294967296)→ZIM n l (pw 0 v)=pw 0 (Zfd n l v)
 |0,l,v,_,_,_,_=>rfl
 |n+1,l,v,h1,h2,h3,h4=>by
  show Zag (ZHj (pw 0 v) (pk (l.take 64) 0)) (ZIM n (l.drop 64))=_
  have hl:(l.take 64).length=4*16:=by rw [List.length_take];omega
  rw [XY,Zze 16 _ 0 hl,ZHm h3 h4 (Zqi 16 _ hl) (ZsV 16 _ hl fun x hx=>h2 x (List.mem_of_mem_take hx))]
  exact ZCc n (l.drop 64) _ (by rw [ybt];omega) (fun x hx=>h2 x (List.mem_of_mem_drop hx)) (Zfc h3) ZCb
theorem Zzf:∀(n:Nat) (l v:List Nat),v.length=8→(Zfd n l v).length=8
 |0,_,_,h=>h
 |n+1,l,v,h=>Zzf n _ _ (Zfc h)
theorem ZCd:∀(n:Nat) (l v:List Nat),(∀x,x∈v→x < 4294967296)→∀x,x∈Zfd n l v→x < 4294967296
 |0,_,_,h=>h
 |n+1,l,v,h=>ZCd n _ _ ZCb
theorem ZsW:∀(n m:Nat) (l r v:List Nat),l.length=64*n→Zfd (n+m) (l++r) v=Zfd m r (Zfd n l v)
 |0,m,l,r,v,h=>by
  have:l=[]:=List.length_eq_zero_iff.1 (by omega)
  subst this
  rw [ybb]
  rfl
 |n+1,m,l,r,v,h=>by
  rw [show n+1+m=(n+m)+1 by omega,Zfd,List.drop_append_of_le_length (by omega),List.take_append_of_le_length (by omega),ZsW n m _ r _ (by rw [ybt];omega)]
  rfl
theorem ZlJ:∀(c:Nat) (l v:List Nat),Zfd (c+1) l v=ZiB (Zfd c l v) (Z9 ((l.drop (64*c)).take 64))
 |0,l,v=>by rw [Nat.mul_zero,List.drop_zero];rfl
 |c+1,l,v=>by
  rw [show Zfd (c+1+1) l v=Zfd (c+1) (l.drop 64) (ZiB v (Z9 (l.take 64))) from rfl,ZlJ c,List.drop_drop,show 64+64*c=64*(c+1) by omega]
  rfl
theorem Zzg (ws:List Nat) {n x:Nat} (hn:n < 16) (h:ws[n]? =some x) (hx:x < 4294967296):wd ws n=x:=by
 rw [wd,dif_pos hn,ycu,h]
 exact ZbS hx
def ZFz (v:List Nat) (k:Nat):UInt8:=yaz (v.getD (k / 4) 0 / 2 ^ (24 - 8*(k % 4)))
theorem ZHn {v:List Nat} (hv:v.length=8) (hlt:∀x,x∈v→x < 4294967296):outs (pw 0 v) ZA0=(yo 32).map (ZFz v):=by
 have hgo:∀(H:Nat) (l:List Nat),outs H l=l.map fun s=>yaz (H / 2 ^ s % 256):=by
  intro H l
  induction l with
  |nil=>rfl
  |cons s r ih=>
   show Zag (Nat.mod (yaa H s) 256) (fun x=>yaz x::outs H r)=_
   rw [XY,ih,yab,show yaa H s=H >>> s from rfl,ycy]
   rfl
 have hb:∀(l r:List Nat) (x j s:Nat),v=l++x::r→j≤24→s=32*r.length+j→yaz (pw 0 v / 2 ^ s % 256)=yaz (x / 2 ^ j):=by
  intro l r x j s e hj hs
  have hall:=hlt
  rw [e] at hall
  have h1:pw 0 v / 2 ^ (32*r.length)=pw 0 l*4294967296+x:=by
   rw [e,ZA2]
   exact ZA1 r _ (fun y hy=>hall y (by simp [hy]))
  rw [hs,ybq, ←Nat.div_div_eq_div_mul,h1]
  have h2:pw 0 l*4294967296+x=2 ^ j*(pw 0 l*2 ^ (24 - j)*256)+x:=by
   rw [show (4294967296:Nat)=2 ^ j*2 ^ (24 - j)*256 by rw [←ybq,show j+(24 - j)=24 by omega]]
   congr 1
   ac_rfl
  rw [h2,Nat.mul_add_div (Nat.two_pow_pos j),ybj (pw 0 l*2 ^ (24 - j)) 256,Nat.mul_add_mod]
  exact UInt8.toNat_inj.1 (by simp)
 match v,hv with
 |[a,b,c,d,e,f,g,h],_=>
  rw [hgo]
  simp only [ZA0,yab,List.map_nil]
  rw [hb [] [b,c,d,e,f,g,h] a 24 248 rfl (by omega) rfl,hb [] [b,c,d,e,f,g,h] a 16 240 rfl (by omega) rfl,hb [] [b,c,d,e,f,g,h] a 8 232 rfl (by omega) rfl,hb [] [b,c,d,e,f,g,h] a 0 224 rfl (by omega) rfl,
   hb [a] [c,d,e,f,g,h] b 24 216 rfl (by omega) rfl,hb [a] [c,d,e,f,g,h] b 16 208 rfl (by omega) rfl,hb [a] [c,d,e,f,g,h] b 8 200 rfl (by omega) rfl,hb [a] [c,d,e,f,g,h] b 0 192 rfl (by omega) rfl,
   hb [a,b] [d,e,f,g,h] c 24 184 rfl (by omega) rfl,hb [a,b] [d,e,f,g,h] c 16 176 rfl (by omega) rfl,hb [a,b] [d,e,f,g,h] c 8 168 rfl (by omega) rfl,hb [a,b] [d,e,f,g,h] c 0 160 rfl (by omega) rfl,
   hb [a,b,c] [e,f,g,h] d 24 152 rfl (by omega) rfl,hb [a,b,c] [e,f,g,h] d 16 144 rfl (by omega) rfl,hb [a,b,c] [e,f,g,h] d 8 136 rfl (by omega) rfl,hb [a,b,c] [e,f,g,h] d 0 128 rfl (by omega) rfl,
   hb [a,b,c,d] [f,g,h] e 24 120 rfl (by omega) rfl,hb [a,b,c,d] [f,g,h] e 16 112 rfl (by omega) rfl,hb [a,b,c,d] [f,g,h] e 8 104 rfl (by omega) rfl,hb [a,b,c,d] [f,g,h] e 0 96 rfl (by omega) rfl,
   hb [a,b,c,d,e] [g,h] f 24 88 rfl (by omega) rfl,hb [a,b,c,d,e] [g,h] f 16 80 rfl (by omega) rfl,hb [a,b,c,d,e] [g,h] f 8 72 rfl (by omega) rfl,hb [a,b,c,d,e] [g,h] f 0 64 rfl (by omega) rfl,
   hb [a,b,c,d,e,f] [h] g 24 56 rfl (by omega) rfl,hb [a,b,c,d,e,f] [h] g 16 48 rfl (by omega) rfl,hb [a,b,c,d,e,f] [h] g 8 40 rfl (by omega) rfl,hb [a,b,c,d,e,f] [h] g 0 32 rfl (by omega) rfl,
   hb [a,b,c,d,e,f,g] [] h 24 24 rfl (by omega) rfl,hb [a,b,c,d,e,f,g] [] h 16 16 rfl (by omega) rfl,hb [a,b,c,d,e,f,g] [] h 8 8 rfl (by omega) rfl,hb [a,b,c,d,e,f,g] [] h 0 0 rfl (by omega) rfl]
  rfl
def Zfe (l:List UInt8):List Nat:=l.map yah++(128::(yr (zs l.length) 0++be8 (8*l.length)))
def Zcd:List Nat:=[1779033703,3144134277,1013904242,2773480762,1359893119,2600822924,528734635,1541459225]
theorem ZsX (l:List UInt8):(Zfe l).length=64*((l.length+72) / 64):=by
 unfold Zfe
 simp only [yj,yp,yad,ycl,be8,List.length_nil,zs]
 omega
theorem ZDx (l:List UInt8):∀x,x∈Zfe l→x < 256:=by
 intro x hx
 unfold Zfe at hx
 simp only [yck,List.mem_map,yax,List.mem_replicate,be8,ybs,or_false] at hx
 rcases hx with ⟨y,_,rfl⟩|rfl|⟨_,rfl⟩|h
 ·exact y.toNat_lt
 ·omega
 ·omega
 ·rcases h with h|h|h|h|h|h|h|h <;> rw [h] <;> exact yaq _ (by omega)
theorem ZA4 (l:List UInt8):sha l=(yo 32).map (ZFz (Zfd ((l.length+72) / 64) (Zfe l) Zcd)):=by
 unfold sha
 rw [XY,XY,show H0=pw 0 Zcd from rfl,show l.map yah++(128::(yr (zs l.length) 0++be8 (8*l.length)))=Zfe l from rfl,
  show Nat.div (ym l.length 72) 64=(l.length+72) / 64 from rfl]
 have hf:∀x,x∈Zcd→x < 4294967296:=by decide
 rw [ZCc _ _ _ (ZsX l) (ZDx l) rfl hf]
 exact ZHn (Zzf _ _ _ rfl) (ZCd _ _ _ hf)
theorem ZJ6 (l:List UInt8):(sha l).length=32:=by rw [ZA4];simp
end Go.Sha
end
section
set_option maxRecDepth 4000
namespace Go.Ev
theorem ZCe {I X:Type} {step:I→Option (I⊕X)} {st:Nat→I} {x:X} (n:Nat) (hs:∀k,k < n→step (st k)=some (.inl (st (k+1)))) (he:step (st n)=some (.inr x)):∀(d k f:Nat),k+d=n→d < f→Zd step f (st k)=some x
 |0,k,f+1,h,_=>by
  have e:k=n:=by omega
  subst e
  unfold Zd
  rw [he,ya]
 |d+1,k,f+1,h,hf=>by
  unfold Zd
  rw [hs k (by omega),ya]
  exact ZCe n hs he d (k+1) f (by omega) (by omega)
theorem ZG {I X:Type} {step:I→Option (I⊕X)} (n:Nat) (st:Nat→I) {x:X} (hs:∀k,k < n→step (st k)=some (.inl (st (k+1)))) (he:step (st n)=some (.inr x)) (hn:n < 18446744073709551616):
 Zd step fuel (st 0)=some x:=ZCe n hs he n 0 fuel (by omega) (by rw [Zej];exact hn)
theorem Zzh {I X:Type} {step:I→Option (I⊕X)} {Post:X→Prop} (n:Nat) (S:Nat→I→Prop) (hs:∀k s,k < n→S k s→(∃t,step s=some (.inl t)∧S (k+1) t)∨∃x,step s=some (.inr x)∧Post x)
 (he:∀s,S n s→∃x,step s=some (.inr x)∧Post x):∀(d k f:Nat) (s:I),k+d=n→d < f→S k s→∃x,Zd step f s=some x∧Post x
 |0,k,f+1,s,h,_,hS=>by
  have e:k=n:=by omega
  subst e
  obtain ⟨x,h1,h2⟩:=he s hS
  unfold Zd
  rw [h1,ya]
  exact ⟨x,rfl,h2⟩
 |d+1,k,f+1,s,h,hf,hS=>by
  unfold Zd
  rcases hs k s (by omega) hS with ⟨t,h1,h2⟩|⟨x,h1,h2⟩
  ·rw [h1,ya]
   exact Zzh n S hs he d (k+1) f t (by omega) (by omega) h2
  ·rw [h1,ya]
   exact ⟨x,rfl,h2⟩
theorem Z4 {I X:Type} {step:I→Option (I⊕X)} (n:Nat) (S:Nat→I→Prop) (Post:X→Prop) {i:I} (h0:S 0 i) (hn:n < 18446744073709551616)
 (hs:∀k s,k < n→S k s→(∃t,step s=some (.inl t)∧S (k+1) t)∨∃x,step s=some (.inr x)∧Post x)
 (he:∀s,S n s→∃x,step s=some (.inr x)∧Post x):∃x,Zd step fuel i=some x∧Post x:=Zzh n S hs he n 0 fuel i (by omega) (by rw [Zej];exact hn) h0
theorem ZY {a b:Nat} (h:a < b):decide ((a:Int) < (b:Int))=true:=decide_eq_true (by omega)
theorem ZQ {a:Nat}:decide ((a:Int) < (a:Int))=false:=decide_eq_false (by omega)
theorem Zu {k:Nat} (h:k < 9223372036854775807):wi ((k:Int)+1)=((k+1:Nat):Int):=by
 rw [Zv (by omega) (by omega)]
 omega
theorem Zr {α:Type} {l:List α} {k:Nat} {y:α} (h:l[k]? =some y):idx l (k:Int)=some y:=Zaj (by omega) (by simpa using h)
theorem ZvI {α:Type} {ls:List (List α)} {k:Nat} {e:List α} (h:ls[k]? =some e):(ls.take (k+1)).flatten=(ls.take k).flatten++e:=by
 rw [List.take_add_one,h]
 simp
theorem ZCf {α:Type} (ls:List (List α)) (k:Nat):(ls.take k).flatten.length≤ls.flatten.length:=by
 have h:=congrArg (fun l=>(List.flatten l).length) (ybg k ls)
 simp only [List.flatten_append,yj] at h
 omega
theorem QU {α:Type} {l:List α} {k:Nat} {e:α} (h:l[k]? =some e):l.take (k+1)=l.take k++[e]:=by
 rw [List.take_add_one,h]
 rfl
theorem Zj {α:Type} {l:List α} {k:Nat} (h:k < l.length):∃e,l[k]? =some e∧e∈l:=⟨l[k],yw h,List.getElem_mem h⟩
end Go.Ev
end
section
set_option maxRecDepth 4000
namespace Go.Proofs.YtjbbdlffilcaaaaGreat
open Go Go.Ev Go.Sha
theorem ZcA (x:UInt32) (n k:Nat) (h:n+k=32) (hn:0 < n) {z:Int} (hz:z=(n:Int)):∃o,ZF fuel x z=some o∧o.toNat=lo (yaa (dbl x.toNat) n):=by
 subst hz
 unfold ZF
 rw [Zv (z:=32 - (n:Int)) (by omega) (by omega),if_pos (decide_eq_true (by omega)),if_pos (decide_eq_true (by omega))]
 refine ⟨_,rfl, ?_⟩
 have e1:min ((n:Int)).toNat 32=n:=by omega
 have e2:min (32 - (n:Int)).toNat 32=k:=by omega
 rw [e1,e2,UInt32.or_comm]
 exact ZHH x h hn
theorem ZIR (a b c d:UInt8):((((ZaE (ybl a.toNat) 24)|||(ZaE (ybl b.toNat) 16))|||(ZaE (ybl c.toNat) 8))|||(ybl d.toNat)).toNat=((a.toNat*256+b.toNat)*256+c.toNat)*256+d.toNat:=by
 have h1:=a.toNat_lt
 have h2:=b.toNat_lt
 have h3:=c.toNat_lt
 have h4:=d.toNat_lt
 have hs:∀(x:UInt8) (n:Nat),n≤24→(ZaE (ybl x.toNat) n).toNat=x.toNat*2 ^ n:=by
  intro x n hn
  have hx:=x.toNat_lt
  unfold ZaE
  rw [ycj,ycj,yac (a:=x.toNat) (by omega)]
  refine yac ?_
  calc x.toNat*2 ^ n < 2 ^ 8*2 ^ n:=Nat.mul_lt_mul_of_pos_right hx (Nat.two_pow_pos n)
   _=2 ^ (8+n):=(ybq ..).symm
   _≤2 ^ 32:=Nat.pow_le_pow_right (by omega) (by omega)
 rw [Zxe,Zxe,Zxe,hs _ _ (by omega),hs _ _ (by omega),hs _ _ (by omega),ycj,yac (a:=d.toNat) (by omega)]
 have k1:Nat.lor (a.toNat*2 ^ 24) (b.toNat*2 ^ 16)=2 ^ 16*(a.toNat*256+b.toNat):=by
  rw [ybj a.toNat,show Nat.lor (2 ^ 24*a.toNat) (b.toNat*2 ^ 16)=2 ^ 24*a.toNat|||b.toNat*2 ^ 16 from rfl, ←ycx (by omega)]
  omega
 have k2:Nat.lor (2 ^ 16*(a.toNat*256+b.toNat)) (c.toNat*2 ^ 8)=2 ^ 8*((a.toNat*256+b.toNat)*256+c.toNat):=by
  rw [show Nat.lor (2 ^ 16*(a.toNat*256+b.toNat)) (c.toNat*2 ^ 8)=2 ^ 16*(a.toNat*256+b.toNat)|||c.toNat*2 ^ 8 from rfl, ←ycx (by omega)]
  omega
 rw [k1,k2,show Nat.lor (2 ^ 8*((a.toNat*256+b.toNat)*256+c.toNat)) d.toNat=2 ^ 8*((a.toNat*256+b.toNat)*256+c.toNat)|||d.toNat from rfl, ←ycx (by omega)]
 omega
theorem ZJL (e f g:UInt32):((e&&&f)^^^((4294967295^^^e)&&&g)).toNat=ch e.toNat f.toNat g.toNat:=by
 rw [←ZJE]
 congr 1
 apply UInt32.toBitVec_inj.1
 apply BitVec.eq_of_getLsbD_eq
 intro i hi
 have h1:(4294967295:UInt32).toBitVec.getLsbD i=true:=by
  rw [show (4294967295:UInt32).toBitVec=BitVec.allOnes 32 from rfl,BitVec.getLsbD_allOnes]
  exact decide_eq_true hi
 simp only [UInt32.toBitVec_xor,UInt32.toBitVec_and,BitVec.getLsbD_xor,BitVec.getLsbD_and,h1]
 cases e.toBitVec.getLsbD i <;> cases f.toBitVec.getLsbD i <;> cases g.toBitVec.getLsbD i <;> rfl
theorem ZJM (a b c:UInt32):(((a&&&b)^^^(a&&&c))^^^(b&&&c)).toNat=mj a.toNat b.toNat c.toNat:=by
 rw [←ZJF]
 congr 1
 apply UInt32.toBitVec_inj.1
 apply BitVec.eq_of_getLsbD_eq
 intro i hi
 simp only [UInt32.toBitVec_xor,UInt32.toBitVec_and,UInt32.toBitVec_or,BitVec.getLsbD_xor,BitVec.getLsbD_and,BitVec.getLsbD_or]
 cases a.toBitVec.getLsbD i <;> cases b.toBitVec.getLsbD i <;> cases c.toBitVec.getLsbD i <;> rfl
theorem ZFA {l:List UInt8} (h:l.length=64):∃o,Ve fuel l=some o∧o.length=64∧∀(i:Nat) x,o[i]? =some x→x.toNat=wd (Z9 (l.map yah)) i:=by
 unfold Ve
 have hset:∀(w:List UInt32) (y:UInt32),y.toNat=wd (Z9 (l.map yah)) w.length→(∀(j:Nat) x,w[j]? =some x→x.toNat=wd (Z9 (l.map yah)) j)→∀(j:Nat) x,(w++[y])[j]? =some x→x.toNat=wd (Z9 (l.map yah)) j:=by
  intro w y hy hw j x hx
  by_cases hj:j < w.length
  ·rw [yaj hj] at hx
   exact hw j x hx
  ·rw [yam (by omega)] at hx
   have:j=w.length:=by
    have:=(yl.1 hx).1
    simp at this
    omega
   subst this
   rw [Nat.sub_self] at hx
   cases hx
   exact hy
 obtain ⟨w0,g1,g2,g3⟩:=Z4 (step:=Xo fuel) 16 (fun k s=>∃w,s=(l,(k:Int),w)∧w.length=k∧∀(j:Nat) x,w[j]? =some x→x.toNat=wd (Z9 (l.map yah)) j) (fun w=>w.length=16∧∀(j:Nat) x,w[j]? =some x→x.toNat=wd (Z9 (l.map yah)) j) (i:=(l,(0:Int),([]:List UInt32))) ⟨_,rfl,rfl,fun j x hx=>by simp at hx⟩ (by omega) (by
  rintro k _ hk ⟨w,rfl,hw,hv⟩
  left
  obtain ⟨x0,q0,_⟩:=Zj (l:=l) (k:=4*k) (by omega)
  obtain ⟨x1,q1,_⟩:=Zj (l:=l) (k:=4*k+1) (by omega)
  obtain ⟨x2,q2,_⟩:=Zj (l:=l) (k:=4*k+2) (by omega)
  obtain ⟨x3,q3,_⟩:=Zj (l:=l) (k:=4*k+3) (by omega)
  unfold Xo
  dsimp only
  rw [Zv (z:=4*(k:Int)) (by omega) (by omega),Zv (z:=4*(k:Int)+1) (by omega) (by omega),Zv (z:=4*(k:Int)+2) (by omega) (by omega),Zv (z:=4*(k:Int)+3) (by omega) (by omega)]
  rw [if_pos (decide_eq_true (by omega)),show 4*(k:Int)=((4*k:Nat):Int) by omega,show ((4*k:Nat):Int)+1=((4*k+1:Nat):Int) by omega,show ((4*k:Nat):Int)+2=((4*k+2:Nat):Int) by omega,show ((4*k:Nat):Int)+3=((4*k+3:Nat):Int) by omega,
   Zr q0,ya,Zr q1,ya,Zr q2,ya,Zr q3,ya,if_pos (Ya (by omega) (by omega)),Zu (by omega)]
  refine ⟨_,rfl,_,rfl,by rw [yj,List.length_singleton];omega,hset w _ ?_ hv⟩
  have mg:∀(k:Nat) (x:UInt8),l[k]? =some x→(l.map yah)[k]? =some x.toNat:=fun k x hx=>by rw [yx,hx];rfl
  have hwg:=Zkz k (l.map yah) _ _ _ _ (mg _ _ q0) (mg _ _ q1) (mg _ _ q2) (mg _ _ q3)
  rw [ZIR,hw]
  have b0:=x0.toNat_lt
  have b1:=x1.toNat_lt
  have b2:=x2.toNat_lt
  have b3:=x3.toNat_lt
  exact (Zzg _ (by omega) hwg (by omega)).symm) (by
  rintro _ ⟨w,rfl,hw,hv⟩
  unfold Xo
  dsimp only
  rw [if_neg (by rw [decide_eq_true_iff];omega)]
  exact ⟨_,rfl,hw,hv⟩)
 rw [g1,ya]
 obtain ⟨w1,k1,k2,k3⟩:=Z4 (step:=Xp fuel) 48 (fun k s=>∃w,s=(((16+k:Nat):Int),w)∧w.length=16+k∧∀(j:Nat) x,w[j]? =some x→x.toNat=wd (Z9 (l.map yah)) j) (fun w=>w.length=64∧∀(j:Nat) x,w[j]? =some x→x.toNat=wd (Z9 (l.map yah)) j) (i:=((16:Int),w0)) ⟨_,rfl,g2,g3⟩ (by omega) (by
  rintro k _ hk ⟨w,rfl,hw,hv⟩
  left
  obtain ⟨e1,he1,_⟩:=Zj (l:=w) (k:=k+1) (by omega)
  obtain ⟨e2,he2,_⟩:=Zj (l:=w) (k:=k+14) (by omega)
  obtain ⟨e3,he3,_⟩:=Zj (l:=w) (k:=k) (by omega)
  obtain ⟨e4,he4,_⟩:=Zj (l:=w) (k:=k+9) (by omega)
  obtain ⟨o1,ho1,p1⟩:=ZcA e1 7 25 rfl (by omega) (z:=7) rfl
  obtain ⟨o2,ho2,p2⟩:=ZcA e1 18 14 rfl (by omega) (z:=18) rfl
  obtain ⟨o3,ho3,p3⟩:=ZcA e2 17 15 rfl (by omega) (z:=17) rfl
  obtain ⟨o4,ho4,p4⟩:=ZcA e2 19 13 rfl (by omega) (z:=19) rfl
  unfold Xp
  dsimp only
  rw [if_pos (decide_eq_true (by omega)),Zv (z:=((16+k:Nat):Int) - 15) (by omega) (by omega),Zv (z:=((16+k:Nat):Int) - 2) (by omega) (by omega),Zv (z:=((16+k:Nat):Int) - 16) (by omega) (by omega),Zv (z:=((16+k:Nat):Int) - 7) (by omega) (by omega)]
  rw [show ((16+k:Nat):Int) - 15=((k+1:Nat):Int) by omega,show ((16+k:Nat):Int) - 2=((k+14:Nat):Int) by omega,show ((16+k:Nat):Int) - 16=(k:Int) by omega,show ((16+k:Nat):Int) - 7=((k+9:Nat):Int) by omega]
  rw [Zr he1,ya,Zr he2,ya,ho1,ya,ho2,ya,ho3,ya,ho4,ya,Zr he3,ya,Zr he4,ya,
   if_pos (Ya (by omega) (by omega)),Zu (by omega)]
  refine ⟨_,rfl,_,rfl,by rw [yj,List.length_singleton];omega,hset w _ ?_ hv⟩
  have hn:=Zxf (Z9 (l.map yah)) k
  rw [←hv _ _ he1, ←hv _ _ he2, ←hv _ _ he3, ←hv _ _ he4] at hn
  rw [hw,Nat.add_comm 16 k,hn,Q7,Q7,Q7,ZJA e1 p1 p2,ZJB e2 p3 p4]
  exact ZJG ..) (by
  rintro _ ⟨w,rfl,hw,hv⟩
  unfold Xp
  dsimp only
  rw [if_neg (by rw [decide_eq_true_iff];omega)]
  exact ⟨_,rfl,hw,hv⟩)
 rw [k1,ya]
 exact ⟨_,rfl,k2,k3⟩
theorem ZFB {st:List UInt32} {l:List UInt8} (hs:st.length=8) (h:l.length=64):∃o,Vf fuel st l=some o∧o.map yai=ZiB (st.map yai) (Z9 (l.map yah)):=by
 unfold Vf
 obtain ⟨w,hw,hwl,hwv⟩:=ZFA h
 obtain ⟨k,hk,hkv⟩:∃k,Zav fuel=some k∧k.map yai=ks:=⟨_,rfl,rfl⟩
 have hkl:k.length=64:=by rw [←yp (f:=yai),hkv];rfl
 generalize hws:Z9 (l.map yah)=ws at hwv
 rw [hw,ya,hk,ya,if_pos (Ya (by omega) (by omega))]
 obtain ⟨x,g1,u,v,rfl,g2,g3⟩:=Z4 (step:=Xq fuel) 64 (fun i s=>∃u v,s=(st,w,k,(i:Int),u,v)∧v.length=8∧v.map yai=rs ws (st.map yai) i) (fun x=>∃u v,x=(st,u,v)∧v.length=8∧v.map yai=rs ws (st.map yai) 64) (i:=(st,w,k,(0:Int),([()]:List Unit),st)) ⟨_,_,rfl,hs,rfl⟩ (by omega) (by
  rintro i _ hi ⟨u,v,rfl,he,hv⟩
  left
  match v,he,hv with
  |[x0,x1,x2,x3,x4,x5,x6,x7],_,hv=>
   obtain ⟨e1,he1,_⟩:=Zj (l:=k) (k:=i) (by omega)
   obtain ⟨e2,he2,_⟩:=Zj (l:=w) (k:=i) (by omega)
   obtain ⟨o1,ho1,p1⟩:=ZcA x4 6 26 rfl (by omega) (z:=6) rfl
   obtain ⟨o2,ho2,p2⟩:=ZcA x4 11 21 rfl (by omega) (z:=11) rfl
   obtain ⟨o3,ho3,p3⟩:=ZcA x4 25 7 rfl (by omega) (z:=25) rfl
   obtain ⟨o4,ho4,p4⟩:=ZcA x0 2 30 rfl (by omega) (z:=2) rfl
   obtain ⟨o5,ho5,p5⟩:=ZcA x0 13 19 rfl (by omega) (z:=13) rfl
   obtain ⟨o6,ho6,p6⟩:=ZcA x0 22 10 rfl (by omega) (z:=22) rfl
   have hb:∀n:Nat,n < 8→inB (n:Int) ([x0,x1,x2,x3,x4,x5,x6,x7]:List UInt32).length=true:=fun n hn=>ZW (by omega) (by simp;omega)
   have b0:=hb 0 (by omega)
   have b1:=hb 1 (by omega)
   have b2:=hb 2 (by omega)
   have b3:=hb 3 (by omega)
   have b4:=hb 4 (by omega)
   have b5:=hb 5 (by omega)
   have b6:=hb 6 (by omega)
   have b7:=hb 7 (by omega)
   unfold Xq
   dsimp only
   generalize ZF fuel=R at ho1 ho2 ho3 ho4 ho5 ho6 ⊢
   rw [if_pos (decide_eq_true (by omega))]
   have c0:inB 0 ([x0,x1,x2,x3,x4,x5,x6,x7]:List UInt32).length=true:=b0
   have c1:inB 1 ([x0,x1,x2,x3,x4,x5,x6,x7]:List UInt32).length=true:=b1
   have c2:inB 2 ([x0,x1,x2,x3,x4,x5,x6,x7]:List UInt32).length=true:=b2
   have c3:inB 3 ([x0,x1,x2,x3,x4,x5,x6,x7]:List UInt32).length=true:=b3
   have c4:inB 4 ([x0,x1,x2,x3,x4,x5,x6,x7]:List UInt32).length=true:=b4
   have c5:inB 5 ([x0,x1,x2,x3,x4,x5,x6,x7]:List UInt32).length=true:=b5
   have c6:inB 6 ([x0,x1,x2,x3,x4,x5,x6,x7]:List UInt32).length=true:=b6
   have c7:inB 7 ([x0,x1,x2,x3,x4,x5,x6,x7]:List UInt32).length=true:=b7
   simp only [c0,c1,c2,c3,c4,c5,c6,c7,if_true,ybu,yay,ya,ho1,ho2,ho3,ho4,ho5,ho6,Zr he1,Zr he2]
   rw [Zu (by omega)]
   refine ⟨_,rfl,_,_,rfl,rfl, ?_⟩
   rw [show rs ws (st.map yai) (i+1)=rnd (rs ws (st.map yai) i) (ks.getD i 0) (wd ws i) from rfl, ←hv]
   have hk1:ks.getD i 0=e1.toNat:=by
    rw [←hkv,ycu,yx,he1]
    rfl
   rw [hk1, ←hwv i e2 he2]
   simp only [yab,List.map_nil]
   rw [ZsU]
   have kt:((x7+((o1^^^o2)^^^o3))+((x4&&&x5)^^^((4294967295^^^x4)&&&x6))+e1+e2).toNat=lo (ym (ym (ym (ym x7.toNat (S1 x4.toNat)) (ch x4.toNat x5.toNat x6.toNat)) e1.toNat) e2.toNat):=by
    rw [Q7,Q7,Q7,Q7,ZJD x4 p1 p2 p3,ZJL]
    exact ZJH ..
   have ka:((x7+((o1^^^o2)^^^o3))+((x4&&&x5)^^^((4294967295^^^x4)&&&x6))+e1+e2+((o4^^^o5)^^^o6)+(((x0&&&x1)^^^(x0&&&x2))^^^(x1&&&x2))).toNat=lo (ym (ym (ym (ym (ym (ym x7.toNat (S1 x4.toNat)) (ch x4.toNat x5.toNat x6.toNat)) e1.toNat) e2.toNat) (S0 x0.toNat)) (mj x0.toNat x1.toNat x2.toNat)):=by
    rw [Q7,Q7,kt,ZJC x0 p4 p5 p6,ZJM]
    exact ZJI ..
   have ke:(x3+(((x7+((o1^^^o2)^^^o3))+((x4&&&x5)^^^((4294967295^^^x4)&&&x6)))+e1+e2)).toNat=lo (ym x3.toNat (ym (ym (ym (ym x7.toNat (S1 x4.toNat)) (ch x4.toNat x5.toNat x6.toNat)) e1.toNat) e2.toNat)):=by
    rw [Q7,kt]
    exact ZJJ ..
   rw [ka,ke]) (by
  rintro _ ⟨u,v,rfl,he,hv⟩
  unfold Xq
  dsimp only
  rw [if_neg (by rw [decide_eq_true_iff];omega)]
  exact ⟨_,rfl,_,_,rfl,he,hv⟩)
 rw [g1,ya]
 have hml:(ZiB (st.map yai) ws).length=8:=Zfc (by rw [yp];exact hs)
 obtain ⟨x,q1,q2⟩:=Z4 (step:=Xr fuel) 8 (fun i s=>∃e,s=(st,(i:Int),u,e)∧e.length=8∧∀(j:Nat) x,e[j]? =some x→if j < i then (ZiB (st.map yai) ws)[j]? =some x.toNat else (rs ws (st.map yai) 64)[j]? =some x.toNat) (fun x=>x.2.map yai=ZiB (st.map yai) ws) (i:=(st,(0:Int),u,v)) ⟨_,rfl,g2,fun j x hx=>by
  rw [if_neg (by omega), ←g3,yx,hx]
  rfl⟩ (by omega) (by
  rintro i _ hi ⟨e,rfl,he,hv⟩
  left
  obtain ⟨e1,he1,_⟩:=Zj (l:=e) (k:=i) (by omega)
  obtain ⟨e2,he2,_⟩:=Zj (l:=st) (k:=i) (by omega)
  unfold Xr
  dsimp only
  rw [if_pos (decide_eq_true (by omega)),if_pos (ZW (by omega) (by omega)),yba,he1,ya,Zr he2,ya,if_pos (ZW (by omega) (by omega)),ya,Zu (by omega)]
  refine ⟨_,rfl,_,rfl,by rw [List.length_set];exact he, ?_⟩
  intro j x hx
  by_cases hji:j=i
  ·subst hji
   rw [ycf (by omega)] at hx
   cases hx
   rw [if_pos (by omega),Q7]
   have k1:=hv _ _ he1
   rw [if_neg (by omega)] at k1
   unfold ZiB
   rw [List.getElem?_zipWith,k1,yx,he2]
   rfl
  ·rw [List.getElem?_set_ne (Ne.symm hji)] at hx
   have k1:=hv j x hx
   by_cases hj:j < i
   ·rw [if_pos hj] at k1
    rw [if_pos (by omega)]
    exact k1
   ·rw [if_neg hj] at k1
    rw [if_neg (by omega)]
    exact k1) (by
  rintro _ ⟨e,rfl,he,hv⟩
  unfold Xr
  dsimp only
  rw [if_neg (by rw [decide_eq_true_iff];omega)]
  refine ⟨_,rfl, ?_⟩
  dsimp only
  apply List.ext_getElem?
  intro j
  rw [yx]
  by_cases hj:j < 8
  ·obtain ⟨x,hx,_⟩:=Zj (l:=e) (k:=j) (by omega)
   have:=hv j x hx
   rw [if_pos hj] at this
   rw [hx,this]
   rfl
  ·rw [yan (by omega),yan (by omega)]
   rfl)
 dsimp only
 rw [q1,ya]
 exact ⟨_,rfl,q2⟩
def rb8 (n:Nat):List UInt8:=(be8 n).map yaz
theorem ZIS (n:UInt64) {k:Nat} (hk:k < 8):(rb8 n.toNat)[k]? =some (w8 ((ZA n (56 - 8*k)).toNat:Int)):=by
 have h:∀m:Nat,w8 ((ZA n m).toNat:Int)=yaz (n.toNat / 2 ^ m % 256):=by
  intro m
  unfold w8 ZA
  rw [yav,yac (Nat.lt_of_le_of_lt (Nat.div_le_self _ _) (ybo n))]
  congr 1
 rw [h]
 match k,hk with
 |0,_=>rfl
 |1,_=>rfl
 |2,_=>rfl
 |3,_=>rfl
 |4,_=>rfl
 |5,_=>rfl
 |6,_=>rfl
 |7,_=>
  show some (yaz (n.toNat % 256))=some (yaz (n.toNat / 2 ^ 0 % 256))
  rw [Nat.pow_zero,Nat.div_one]
theorem ZIT {l:List UInt8} (h:l.length≤4294967296):WQ fuel l=some (l++([128]:List UInt8)++yr (zs l.length) 0++rb8 (8*l.length)):=by
 unfold WQ
 have hlt:l.length % 64 < 64:=yaq _ (by omega)
 rw [if_pos (Ya (by omega) (by omega)),if_pos (Ya (by omega) (by omega))]
 obtain ⟨x,h1,h2⟩:=Z4 (step:=Y6 fuel) (zs l.length) (fun j s=>s=(l,l++([128]:List UInt8)++yr j 0)) (fun x=>x=(l,l++([128]:List UInt8)++yr (zs l.length) 0)) (i:=(l,l++([128]:List UInt8))) (by simp) (by unfold zs;omega) (by
  rintro j _ hj rfl
  left
  unfold Y6
  dsimp only
  have hl:(l++([128]:List UInt8)++yr j 0).length=l.length+1+j:=by rw [yj,yj,ycl];rfl
  have hm:Int.tmod ((l++([128]:List UInt8)++yr j 0).length:Int) 64=(((l.length+1+j) % 64:Nat):Int):=by rw [hl];rfl
  rw [hm]
  unfold zs at hj
  rw [if_pos (by simp;omega),if_pos (Ya (by omega) (by omega))]
  exact ⟨_,rfl,by rw [yz,List.replicate_succ']⟩) (by
  rintro _ rfl
  unfold Y6
  dsimp only
  have hl:(l++([128]:List UInt8)++yr (zs l.length) 0).length=l.length+1+zs l.length:=by rw [yj,yj,ycl];rfl
  have hm:Int.tmod ((l++([128]:List UInt8)++yr (zs l.length) 0).length:Int) 64=(((l.length+1+zs l.length) % 64:Nat):Int):=by rw [hl];rfl
  rw [hm,if_neg (by simp;unfold zs;omega)]
  exact ⟨_,rfl,rfl⟩)
 rw [h1,ya,h2]
 dsimp only
 generalize hp:l++([128]:List UInt8)++yr (zs l.length) 0=p
 have hpl:p.length≤l.length+65:=by
  rw [←hp,yj,yj,ycl]
  unfold zs
  simp
  omega
 have hn:(8*w64 (l.length:Int)).toNat=8*l.length:=by
  rw [UInt64.toNat_mul]
  unfold w64
  rw [yav]
  show 8*((((l.length:Nat):Int) % 18446744073709551616).toNat % 2 ^ 64) % 2 ^ 64=_
  omega
 generalize hN:8*w64 (l.length:Int)=N at hn
 obtain ⟨x,g1,g2⟩:=Z4 (step:=Y7 fuel) 8 (fun k s=>s=(N,56 - 8*(k:Int),p++(rb8 N.toNat).take k)) (fun x=>x=p++rb8 N.toNat) (i:=(N,(56:Int),p)) (by simp) (by omega) (by
  rintro k _ hk rfl
  left
  unfold Y7
  dsimp only
  rw [if_pos (decide_eq_true (by omega)),if_pos (decide_eq_true (by omega)),if_pos (Ya (by simp;omega) (by simp;omega)),Zv (z:=56 - 8*(k:Int) - 8) (by omega) (by omega)]
  refine ⟨_,rfl, ?_⟩
  rw [QU (ZIS N hk),show min (56 - 8*(k:Int)).toNat 64=56 - 8*k by omega,yz,show 56 - 8*((k+1:Nat):Int)=56 - 8*(k:Int) - 8 by omega]) (by
  rintro _ rfl
  unfold Y7
  dsimp only
  rw [if_neg (by rw [decide_eq_true_iff];omega)]
  exact ⟨_,rfl,rfl⟩)
 rw [g1,ya,g2,hn]
theorem ZIU {l:List UInt8} (h:l.length≤4294967296):Wy fuel l=some (sha l):=by
 unfold Wy
 obtain ⟨f,hf,hfl⟩:∃f,Qo fuel=some f∧f.map yai=Zcd:=⟨_,rfl,rfl⟩
 have hf8:f.length=8:=by rw [←yp (f:=yai),hfl];rfl
 rw [ZIT h,ya,hf,ya]
 generalize hE:l++([128]:List UInt8)++yr (zs l.length) 0++rb8 (8*l.length)=E
 have hEm:E.map yah=Zfe l:=by
  unfold Zfe
  rw [←hE]
  simp only [yaf,List.map_replicate,yab,List.map_nil,rb8,yap,yz,List.singleton_append]
  have:be8 (8*l.length)=(be8 (8*l.length)).map (yah ∘ yaz):=by
   simp [be8]
  rw [←this]
  simp
 have hEl:E.length=64*((l.length+72) / 64):=by rw [←yp (f:=yah),hEm,ZsX]
 generalize hz:([0,0,0,0,0,0,0,0,0,0,0,0,0,0,0,0,0,0,0,0,0,0,0,0,0,0,0,0,0,0,0,0]:List UInt8)=z
 have hzl:z.length=32:=by rw [←hz];rfl
 obtain ⟨x,h1,v,rfl,g1,g2⟩:=Z4 (step:=XK fuel) ((l.length+72) / 64) (fun c s=>∃d,s=(E,d,((64*c:Nat):Int),z)∧d.length=8∧d.map yai=Zfd c (E.map yah) Zcd) (fun x=>∃v,x=(v,z)∧v.length=8∧v.map yai=Zfd ((l.length+72) / 64) (E.map yah) Zcd) (i:=(E,f,(0:Int),z)) ⟨_,rfl,hf8,hfl⟩ (by omega) (by
  rintro c _ hc ⟨d,rfl,hd,hv⟩
  left
  unfold XK
  dsimp only
  obtain ⟨m,hm1,hm2⟩:=ZFB (st:=d) (l:=(E.take (64*c+64)).drop (64*c)) hd (by rw [ybt,List.length_take];omega)
  rw [if_pos (decide_eq_true (by omega)),Zv (z:=((64*c:Nat):Int)+64) (by omega) (by omega),if_pos (by simp only [Ze6,yg,decide_eq_true_eq];omega),show (((64*c:Nat):Int)+64).toNat=64*c+64 by omega,yba,hm1,ya]
  refine ⟨_,rfl,_,by rw [show ((64*c:Nat):Int)+64=((64*(c+1):Nat):Int) by omega], ?_, ?_⟩
  ·rw [←yp (f:=yai),hm2]
   exact Zfc (by rw [yp];exact hd)
  ·rw [hm2,ZlJ,hv, ←List.map_drop, ←yca]
   congr 3
   rw [List.drop_take]
   congr 1
   omega) (by
  rintro _ ⟨d,rfl,hd,hv⟩
  unfold XK
  dsimp only
  rw [if_neg (by rw [decide_eq_true_iff];omega)]
  exact ⟨_,rfl,_,rfl,hd,hv⟩)
 rw [h1,ya]
 dsimp only
 generalize hv2:Zfd ((l.length+72) / 64) (E.map yah) Zcd=v2 at g2
 obtain ⟨x,k1,o,rfl,k2,k3⟩:=Z4 (step:=XL fuel) 32 (fun i s=>∃o,s=(v,(i:Int),z,o)∧o.length=32∧∀(j:Nat),j < i→o[j]? =some (Go.Sha.ZFz v2 j)) (fun x=>∃o,x=(z,o)∧o.length=32∧∀(j:Nat),j < 32→o[j]? =some (Go.Sha.ZFz v2 j)) (i:=(v,(0:Int),z,z)) ⟨_,rfl,hzl,fun j hj=>by omega⟩ (by omega) (by
  rintro i _ hi ⟨o,rfl,ho,hv⟩
  left
  unfold XL
  dsimp only
  have e1:Int.tdiv (i:Int) 4=((i / 4:Nat):Int):=rfl
  have e2:Int.tmod (i:Int) 4=((i % 4:Nat):Int):=rfl
  obtain ⟨x1,hx1,_⟩:=Zj (l:=v) (k:=i / 4) (by omega)
  obtain ⟨x2,hx2,_⟩:=Zj (l:=o) (k:=i) (by omega)
  rw [if_pos (decide_eq_true (by omega)),e1,e2,Zv (z:=((i / 4:Nat):Int)) (by omega) (by omega),Zv (z:=8*((i % 4:Nat):Int)) (by omega) (by omega),Zv (z:=24 - 8*((i % 4:Nat):Int)) (by omega) (by omega),Zr hx1,ya,if_pos (decide_eq_true (by omega)),if_pos (ZW (by omega) (by omega)),yba,hx2,ya,Zu (by omega)]
  refine ⟨_,rfl,_,rfl,by rw [List.length_set];exact ho, ?_⟩
  intro j hj
  by_cases hji:j=i
  ·subst hji
   rw [ycf (by omega)]
   congr 1
   unfold Go.Sha.ZFz
   have hx:v2.getD (j / 4) 0=x1.toNat:=by
    rw [←g2,ycu,yx,hx1]
    rfl
   rw [hx,show min (24 - 8*((j % 4:Nat):Int)).toNat 32=24 - 8*(j % 4) by omega,ZvH]
   unfold w8
   have e3:∀m:Nat,(((m:Nat):Int) % 256).toNat=m % 256:=fun m=>by omega
   rw [e3,show yaa x1.toNat (24 - 8*(j % 4))=x1.toNat >>> (24 - 8*(j % 4)) from rfl,ycy]
   exact UInt8.toNat_inj.1 (by simp)
  ·rw [List.getElem?_set_ne (Ne.symm hji)]
   exact hv j (by omega)) (by
  rintro _ ⟨o,rfl,ho,hv⟩
  unfold XL
  dsimp only
  rw [if_neg (by rw [decide_eq_true_iff];omega)]
  exact ⟨_,rfl,_,rfl,ho,hv⟩)
 rw [k1,ya,ZA4, ←hEm,hv2]
 congr 1
 apply List.ext_getElem?
 intro j
 by_cases hj:j < 32
 ·rw [k3 j hj,yx,List.getElem?_range hj]
  rfl
 ·rw [yan (by show o.length≤j;omega),yan (by simp;omega)]
noncomputable def X8 (F:Nat) (a0:List UInt8):Option (List UInt8):=if decide (a0.length≤4294967296)=true then some (sha a0) else Wy F a0
noncomputable def ZlT (F:Nat):Fs yb:={ Qp F with M:=fun x=>X8 F x}
noncomputable def Zff:Fs yb:=ZlT fuel
theorem ZlU:Zff.Ok:=Zm8 (s:=Qp fuel) Zkx fun x=>by
 show X8 fuel x=Wy fuel x
 unfold X8
 split
 ·rename_i h
  exact (ZIU (of_decide_eq_true h)).symm
 ·rfl
theorem ZFC {l:List UInt8} (h:l.length≤4294967296):X8 fuel l=some (sha l):=if_pos (decide_eq_true h)
end Go.Proofs.YtjbbdlffilcaaaaGreat
end
section
set_option maxRecDepth 4000
namespace Go.Proofs.YtjbbdlffilcaaaaGreat
open Go Go.Ev
noncomputable section
def YN (F:Nat) (s:(UInt64×Int×(List UInt8)×(List UInt8))):Option ((UInt64×Int×(List UInt8)×(List UInt8))⊕((List UInt8)×(List UInt8))):=
 if (decide (s.2.1 ≥ 0))=true then
  if (decide (0≤s.2.1))=true then
   let y79:UInt8:=w8 ((ZA s.1 (min s.2.1.toNat 64)).toNat:Int)
   if (apB s.2.2.2.length 1 1)=true then
    some (.inl (s.1,wi (s.2.1 - 8),s.2.2.1,s.2.2.2++([y79]:List UInt8)))
   else
   none
  else
  none
 else
 some (.inr (s.2.2.1,s.2.2.2))
def ZaG:Lp:=⟨[(0,.v .u64),(3,.own 1 .u8),(4,.v (.int .i64))],[.log .u8 5,.log .u8 5],[.u64,(.int .i64),(.sl .u8),(.sl .u8)],[⟨.exit 0,[(3,.own 1 .u8)],[.log .u8 5,.log .u8 5],[(.sl .u8),(.sl .u8)]⟩],Zd (YN fuel) fuel⟩
theorem Zfg:ZaG.Ok yb (Zp yb 168) (Zo yb 168 0):=Zk (fi:={ hi:={ own:=[2,3,9,15,16]},lp:=[]}) (specs:={ l:=[]}) (okS trivial) trivial (by kernel_rfl) (fun v=>by kernel_rfl)
def WD (F:Nat) (a0:UInt64):Option ((List UInt8)):=
 (Zd (YN F) F (a0,(56:Int),([]:List UInt8),([]:List UInt8))).bind fun o80=>
 some o80.2
def ZhN (F:Nat):Fs yb:=⟨168,[.v .u64],[],[.u64],[⟨.ret,[(0,.own 0 .u8)],[.log .u8 5],[(.sl .u8)]⟩],fun x=>WD F x⟩
def Zbc:Fs yb:=ZhN fuel
theorem ZhO:Zbc.Ok:=Zg (fi:={ hi:={ own:=[2,3,9,15,16]},lp:=[(0,ZaG)]}) (specs:={ l:=[]}) (okS trivial) ⟨Zfg,trivial⟩ (by decide+kernel) (fun x=>by kernel_rfl)
def Y8 (F:Nat) (s:((List (List UInt8))×Int×(List UInt8)×(List UInt8))):Option (((List (List UInt8))×Int×(List UInt8)×(List UInt8))⊕((List UInt8)×(List UInt8))):=
 if (decide (s.2.1 < (s.1.length:Int)))=true then
  (idx s.1 s.2.1).bind fun e82=>
  (VB F (w64 (e82.length:Int))).bind fun o83=>
  if (apB s.2.2.2.length o83.length 1)=true then
   (idx s.1 s.2.1).bind fun e84=>
   if (apB ((s.2.2.2++o83).length) e84.length 1)=true then
    some (.inl (s.1,wi (s.2.1+1),s.2.2.1,(s.2.2.2++o83)++e84))
   else
   none
  else
  none
 else
 some (.inr (s.2.2.1,s.2.2.2))
def ZdR:Lp:=⟨[(1,.v (.sl (.sl .u8))),(4,.ref 0 []),(5,.own 1 .u8),(6,.v (.int .i64))],[.var (.v (.arr 32 .u8)) true,.log .u8 5],[(.sl (.sl .u8)),(.int .i64),(.arr 32 .u8),(.sl .u8)],[⟨.exit 0,[(4,.ref 0 []),(5,.own 1 .u8)],[.var (.v (.arr 32 .u8)) true,.log .u8 5],[(.arr 32 .u8),(.sl .u8)]⟩],Zd (Y8 fuel) fuel⟩
theorem ZiC:ZdR.Ok yb (Zp yb 165) (Zo yb 165 0):=Zk (fi:={ hi:={ own:=[5,11,14,28,30,31,36],still:=[10,26,37]},lp:=[]}) (specs:={ l:=[ZdP]}) (okS ⟨Zkt,trivial⟩) trivial (by kernel_rfl) (fun v=>by kernel_rfl)
def V7 (F:Nat) (a0:ByteArray) (a1:(List (List UInt8))):Option ((List UInt8)):=
 (WD F (w64 (a0.size:Int))).bind fun o81=>
 if (decide (a0.size≤maxLen))=true then
  if (apB o81.length a0.data.toList.length 1)=true then
   (Zd (Y8 F) F (a1,(0:Int),([0,0,0,0,0,0,0,0,0,0,0,0,0,0,0,0,0,0,0,0,0,0,0,0,0,0,0,0,0,0,0,0]:List UInt8),o81++a0.data.toList)).bind fun o85=>
   (X8 F o85.2).bind fun o86=>
   some o86
  else
  none
 else
 none
def ZlV (F:Nat):Fs yb:=⟨165,[.v .str,.v (.sl (.sl .u8))],[],[.str,(.sl (.sl .u8))],[⟨.ret,[(0,.v (.arr 32 .u8))],[],[(.arr 32 .u8)]⟩],fun x=>V7 F x.1 x.2⟩
def Zfh:Fs yb:=ZlV fuel
theorem ZlW:Zfh.Ok:=Zg (fi:={ hi:={ own:=[5,11,14,28,30,31,36],still:=[10,26,37]},lp:=[(0,ZdR)]}) (specs:={ l:=[Zbc,Zff]}) (okS ⟨ZhO,ZlU,trivial⟩) ⟨ZiC,trivial⟩ (by decide+kernel) (fun x=>by kernel_rfl)
def YO (F:Nat) (s:(Int×(List UInt8)×(List UInt8))):Option ((Int×(List UInt8)×(List UInt8))⊕((List UInt8)×(List UInt8))):=
 if (decide (s.1 < 32))=true then
  if (inB s.1 32)=true then
   (s.2.1[s.1.toNat]?).bind fun e87=>
   if (apB s.2.2.length 1 1)=true then
    some (.inl (wi (s.1+1),s.2.1,s.2.2++([e87]:List UInt8)))
   else
   none
  else
  none
 else
 some (.inr (s.2.1,s.2.2))
def ZaH:Lp:=⟨[(3,.ref 0 []),(5,.own 1 .u8),(6,.v (.int .i64))],[.var (.v (.arr 32 .u8)) true,.log .u8 5],[(.int .i64),(.arr 32 .u8),(.sl .u8)],[⟨.exit 0,[(5,.own 1 .u8)],[.var (.v (.arr 32 .u8)) true,.log .u8 5],[(.arr 32 .u8),(.sl .u8)]⟩],Zd (YO fuel) fuel⟩
theorem Zfi:ZaH.Ok yb (Zp yb 178) (Zo yb 178 0):=Zk (fi:={ hi:={ own:=[5,7,9,14,19],still:=[4]},lp:=[]}) (specs:={ l:=[]}) (okS trivial) trivial (by kernel_rfl) (fun v=>by kernel_rfl)
def WE (F:Nat) (a0:(List UInt8)) (a1:(List UInt8)):Option ((List UInt8)):=
 if (apB 0 a0.length 1)=true then
  (Zd (YO F) F ((0:Int),a1,a0)).bind fun o88=>
  some o88.2
 else
 none
def ZhP (F:Nat):Fs yb:=⟨178,[.v (.sl .u8),.v (.arr 32 .u8)],[],[(.sl .u8),(.arr 32 .u8)],[⟨.ret,[(0,.v (.sl .u8))],[],[(.sl .u8)]⟩],fun x=>WE F x.1 x.2⟩
def Zbd:Fs yb:=ZhP fuel
theorem ZhQ:Zbd.Ok:=Zg (fi:={ hi:={ own:=[5,7,9,14,19],still:=[4]},lp:=[(0,ZaH)]}) (specs:={ l:=[]}) (okS trivial) ⟨Zfi,trivial⟩ (by decide+kernel) (fun x=>by kernel_rfl)
def ZHL:ByteArray:=⟨#[107,105,116]⟩
def Ye (F:Nat) (a0:(List UInt8)) (a1:UInt8):Option ((List UInt8)):=
 (WE F ([]:List UInt8) a0).bind fun o89=>
 (V7 F ZHL ([o89,([a1]:List UInt8)]:List (List UInt8))).bind fun o90=>
 some o90
def ZkA (F:Nat):Fs yb:=⟨107,[.v (.arr 32 .u8),.v .u8],[],[(.arr 32 .u8),.u8],[⟨.ret,[(0,.v (.arr 32 .u8))],[],[(.arr 32 .u8)]⟩],fun x=>Ye F x.1 x.2⟩
def ZdS:Fs yb:=ZkA fuel
theorem ZkB:ZdS.Ok:=Zg (fi:={ hi:={ still:=[5,6,10]},lp:=[]}) (specs:={ l:=[Zbd,Zfh]}) (okS ⟨ZhQ,ZlW,trivial⟩) trivial (by decide+kernel) (fun x=>by kernel_rfl)
abbrev XE:Ty:=(.st [.u64,.u64,.u64,.u64,.u64,(.arr 32 .u8)])
abbrev Kit:Type:=(UInt64×UInt64×UInt64×UInt64×UInt64×(List UInt8))
abbrev Kit.Cond (x:Kit):UInt64:=x.2.2.2.1
def WR (F:Nat) (a0:(List UInt8)):Option (Kit):=
 (Ye F a0 (1:UInt8)).bind fun o91=>
 (Ys F o91).bind fun o92=>
 (Ye F a0 (2:UInt8)).bind fun o93=>
 (Ys F o93).bind fun o94=>
 (Ye F a0 (3:UInt8)).bind fun o95=>
 (Ys F o95).bind fun o96=>
 (Ye F a0 (4:UInt8)).bind fun o97=>
 (Ys F o97).bind fun o98=>
 (Ye F a0 (5:UInt8)).bind fun o99=>
 (Ys F o99).bind fun o100=>
 (Ye F a0 (6:UInt8)).bind fun o101=>
 some (o92,o94,o96,o98,o100,o101)
def ZlX (F:Nat):Fs yb:=⟨45,[.v (.arr 32 .u8)],[],[(.arr 32 .u8)],[⟨.ret,[(0,.v XE)],[],[XE]⟩],fun x=>WR F x⟩
def Zfj:Fs yb:=ZlX fuel
theorem ZlY:Zfj.Ok:=Zg (fi:={ hi:={ still:=[3,4,6,7,9,10,12,13,15,16,18]},lp:=[]}) (specs:={ l:=[ZdS,ZdO]}) (okS ⟨ZkB,Zkr,trivial⟩) trivial (by decide+kernel) (fun x=>by kernel_rfl)
def Y9 (F:Nat) (s:(UInt64×UInt64×UInt64)):Option ((UInt64×UInt64×UInt64)⊕UInt64):=
 if (decide (s.2.1 > 0))=true then
  if ((s.2.1 % 2)==1)=true then
   some (.inl ((s.1+s.1) % 4611686018427377339,s.2.1 / 2,(s.2.2+s.1) % 4611686018427377339))
  else
  some (.inl ((s.1+s.1) % 4611686018427377339,s.2.1 / 2,s.2.2))
 else
 some (.inr s.2.2)
def Zbe:Lp:=⟨[(0,.v .u64),(1,.v .u64),(5,.v .u64)],[],[.u64,.u64,.u64],[⟨.exit 0,[(5,.v .u64)],[],[.u64]⟩],Zd (Y9 fuel) fuel⟩
theorem Zgf:Zbe.Ok yb (Zp yb 197) (Zo yb 197 0):=Zk (fi:={ hi:={ still:=[4]},lp:=[]}) (specs:={ l:=[]}) (okS trivial) trivial (by kernel_rfl) (fun v=>by kernel_rfl)
def WS (F:Nat) (a0:UInt64) (a1:UInt64):Option (UInt64):=
 (Zd (Y9 F) F (a0,a1,(0:UInt64))).bind fun o102=>
 some o102
def VC (F:Nat):Fs yb:=⟨197,[.v .u64,.v .u64],[],[.u64,.u64],[⟨.ret,[(0,.v .u64)],[],[.u64]⟩],fun x=>WS F x.1 x.2⟩
def ZjA:Fs yb:=VC fuel
theorem ZiD:ZjA.Ok:=Zg (fi:={ hi:={ still:=[4]},lp:=[(0,Zbe)]}) (specs:={ l:=[]}) (okS trivial) ⟨Zgf,trivial⟩ (by decide+kernel) (fun x=>by kernel_rfl)
end
end Go.Proofs.YtjbbdlffilcaaaaGreat
end
section
namespace Go.Ev
def Pr (r:Nat):Prop:=1 < r∧∀k,0 < k→k < r→Nat.gcd k r=1
theorem php:∀(n:Nat) (f:Nat→Nat),(∀i,i≤n→f i < n)→∃i j,i < j∧j≤n∧f i=f j
 |0,f,h=>absurd (h 0 (yi _)) (Nat.not_lt_zero _)
 |n+1,f,h=>by
  by_cases hc:∃i,i≤n∧f i=f (n+1)
  ·obtain ⟨i,h1,h2⟩:=hc
   exact ⟨i,n+1,by omega,yi _,h2⟩
  have hne:∀i,i≤n→f i≠f (n+1):=fun i hi e=>hc ⟨i,hi,e⟩
  have hv:=h (n+1) (yi _)
  obtain ⟨i,j,h1,h2,h3⟩:=php n (fun i=>if f i > f (n+1) then f i - 1 else f i) (fun i hi=>by
   have a:=h i (by omega)
   have b:=hne i hi
   show (if f i > f (n+1) then f i - 1 else f i) < n
   split <;> omega)
  refine ⟨i,j,h1,by omega, ?_⟩
  have a:=hne i (by omega)
  have b:=hne j (by omega)
  have h3:(if f i > f (n+1) then f i - 1 else f i)=(if f j > f (n+1) then f j - 1 else f j):=h3
  split at h3 <;> split at h3 <;> omega
theorem ZkC {h a m:Nat} (ha:h ^ a % m=1 % m) (k:Nat):h ^ (a*k) % m=1 % m:=by
 rw [Nat.pow_mul,Nat.pow_mod,ha, ←Nat.pow_mod,Nat.one_pow]
theorem Zzi {h a b m:Nat} (ha:h ^ a % m=1 % m) (hb:h ^ b % m=1 % m):h ^ (a % b) % m=1 % m:=by
 have e:a=b*(a / b)+a % b:=(Nat.div_add_mod a b).symm
 rw [e,ybq,ybi,ZkC hb, ←ybi,Nat.one_mul] at ha
 exact ha
theorem Zqj {h m:Nat} (a b:Nat) (ha:h ^ a % m=1 % m) (hb:h ^ b % m=1 % m):h ^ (Nat.gcd a b) % m=1 % m:=by
 induction a,b using Nat.gcd.induction with
 |H0 n=>rw [Nat.gcd_zero_left];exact hb
 |H1 a b h0 ih=>
  rw [Nat.gcd_rec]
  exact ih (Zzi hb ha) ha
theorem ZFD {h r m i j:Nat} (hr:h ^ r % m=1 % m) (hi:i < j) (hj:j < r) (e:h ^ i % m=h ^ j % m):h ^ (j - i) % m=1 % m:=by
 have h1:h ^ i*h ^ (r - i)=h ^ r:=by rw [←ybq];congr 1;omega
 have h2:h ^ j*h ^ (r - i)=h ^ (j - i)*h ^ r:=by rw [←ybq, ←ybq];congr 1;omega
 have h3:h ^ j*h ^ (r - i) % m=1 % m:=by rw [ybi, ←e, ←ybi,h1,hr]
 rw [h2,ybi,hr, ←ybi,Nat.mul_one] at h3
 exact h3
theorem ZA5 {h r m i:Nat} (hm:1 < m) (hr:h ^ r % m=1 % m) (hi:i≤r):h ^ i % m≠0:=by
 intro e
 have h1:h ^ i*h ^ (r - i)=h ^ r:=by rw [←ybq];congr 1;omega
 rw [←h1,ybi,e,Nat.zero_mul,Nat.zero_mod,yac hm] at hr
 omega
theorem ZA6 {h r c:Nat} (hr:Pr r) (hc:1 < c) (h1:h ^ r % c=1 % c) (h2:h % c≠1 % c):r < c:=by
 rcases ybz r c with k|k
 ·exact k
 exfalso
 obtain ⟨i,j,a,b,e⟩:=php (c - 1) (fun i=>h ^ i % c - 1) (fun i hi=>by
  have:=yaq (h ^ i) (show c > 0 by omega)
  have:=ZA5 hc h1 (i:=i) (by omega)
  show h ^ i % c - 1 < c - 1
  omega)
 have q1:=ZA5 hc h1 (i:=i) (by omega)
 have q2:=ZA5 hc h1 (i:=j) (by omega)
 have e:h ^ i % c - 1=h ^ j % c - 1:=e
 have h3:=ZFD h1 a (by omega) (show h ^ i % c=h ^ j % c by omega)
 have h4:=Zqj _ _ h3 h1
 rw [hr.2 (j - i) (by omega) (by omega),Nat.pow_one] at h4
 exact h2 h4
theorem ZCg {n r:Nat} (h:Nat) (hr:Pr r) (hn:1 < n) (hs:n≤r*r) (h1:h ^ r % n=1 % n) (h0:0 < h) (h2:Nat.gcd (h - 1) n=1):Pr n:=by
 refine ⟨hn,fun k k0 kn=> ?_⟩
 have dn:Nat.gcd k n ∣ n:=Nat.gcd_dvd_right k n
 have dk:Nat.gcd k n ∣ k:=Nat.gcd_dvd_left k n
 have d0:0 < Nat.gcd k n:=Nat.gcd_pos_of_pos_left _ k0
 have dl:Nat.gcd k n≤k:=Nat.le_of_dvd k0 dk
 generalize Nat.gcd k n=d at*
 by_cases d1:d=1
 ·exact d1
 exfalso
 have great:∀c,1 < c→c ∣ n→r < c:=fun c c1 cn=>by
  refine ZA6 (h:=h) hr c1 ?_ fun e=> ?_
  ·obtain ⟨q,rfl⟩:=cn
   have:=congrArg (· % c) h1
   simp only [Nat.mod_mul_right_mod] at this
   exact this
  ·have k1:c ∣ h - 1:=Nat.dvd_of_mod_eq_zero (Nat.sub_mod_eq_zero_of_mod_eq e)
   have:=Nat.dvd_gcd k1 cn
   rw [h2] at this
   have:=Nat.le_of_dvd (by omega) this
   omega
 obtain ⟨e,rfl⟩:=dn
 have e1:1 < e:=by
  rcases ybz 1 e with h|h
  ·exact h
  ·have:d*e≤d*1:=Nat.mul_le_mul_left _ h
   omega
 have a:=great d (by omega) (Nat.dvd_mul_right ..)
 have b:=great e e1 (Nat.dvd_mul_left ..)
 have:=Nat.mul_le_mul (show r+1≤d from a) (show r+1≤e from b)
 rw [yas,Nat.mul_add] at this
 omega
def ZCh (n:Nat):Nat→Bool
 |0=>true
 |k+1=>(decide (k < 1) || !(n % (k+1)==0))&&ZCh n k
theorem ZsY {n:Nat}:∀{k:Nat},ZCh n k=true→∀d,1 < d→d≤k→¬d ∣ n
 |0,_,d,h1,h2=>by omega
 |k+1,h,d,h1,h2=>by
  simp only [ZCh,yg,Bool.or_eq_true,decide_eq_true_eq,Bool.not_eq_true',beq_eq_false_iff_ne] at h
  rcases ybz d (k+1) with c|c
  ·exact ZsY h.2 d h1 (by omega)
  ·have:d=k+1:=by omega
   subst this
   rcases h.1 with h|h
   ·omega
   ·intro q
    exact h (Nat.mod_eq_zero_of_dvd q)
theorem ZFE {n s:Nat} (hn:1 < n) (hs:n < (s+1)*(s+1)) (h:ZCh n s=true):Pr n:=by
 refine ⟨hn,fun k k0 kn=> ?_⟩
 have dn:Nat.gcd k n ∣ n:=Nat.gcd_dvd_right k n
 have d0:0 < Nat.gcd k n:=Nat.gcd_pos_of_pos_left _ k0
 have dl:Nat.gcd k n≤k:=Nat.le_of_dvd k0 (Nat.gcd_dvd_left k n)
 generalize Nat.gcd k n=d at*
 by_cases d1:d=1
 ·exact d1
 exfalso
 obtain ⟨e,rfl⟩:=dn
 have e1:1 < e:=by
  rcases ybz 1 e with h|h
  ·exact h
  ·have:d*e≤d*1:=Nat.mul_le_mul_left _ h
   omega
 rcases ybz s d with a|a
 ·rcases ybz s e with b|b
  ·have:=Nat.mul_le_mul (show s+1≤d from a) (show s+1≤e from b)
   omega
  ·exact ZsY h e e1 b (Nat.dvd_mul_left ..)
 ·exact ZsY h d (by omega) a (Nat.dvd_mul_right ..)
def pwm (m:Nat):Nat→Nat→Nat→Nat→Nat
 |0,_,_,o=>o
 |f+1,a,n,o=>if n=0 then o else pwm m f (a*a % m) (n / 2) (if n % 2=1 then o*a % m else o)
theorem Zxh {m:Nat}:∀(k a n o:Nat),n < 2 ^ k→pwm m k a n o % m=o*a ^ n % m
 |0,a,n,o,h=>by
  have:n=0:=by rw [Nat.pow_zero] at h;omega
  subst this
  rw [pwm,Nat.pow_zero,Nat.mul_one]
 |k+1,a,n,o,h=>by
  rw [pwm]
  by_cases h0:n=0
  ·rw [if_pos h0,h0,Nat.pow_zero,Nat.mul_one]
  rw [if_neg h0,Zxh k _ _ _ (by rw [Nat.pow_succ] at h;omega)]
  have e:a ^ n=(a*a) ^ (n / 2)*a ^ (n % 2):=by
   rw [←Nat.pow_two, ←Nat.pow_mul, ←ybq]
   congr 1
   omega
  have e2:(a*a % m) ^ (n / 2) % m=(a*a) ^ (n / 2) % m:=(Nat.pow_mod ..).symm
  rw [e]
  split
  ·rename_i h1
   rw [h1,Nat.pow_one,ybi,e2, ←ybi,ybi,Nat.mod_mod, ←ybi]
   congr 1
   rw [Nat.mul_assoc,ybj a]
  ·rename_i h1
   have:n % 2=0:=by omega
   rw [this,Nat.pow_zero,Nat.mul_one,ybi,e2, ←ybi]
theorem ZsZ {m a n z:Nat} (k:Nat) (h:n < 2 ^ k) (e:pwm m k a n 1 % m=z):a ^ n % m=z:=by
 have:=Zxh (m:=m) k a n 1 h
 rw [Nat.one_mul] at this
 rw [←this,e]
def pc0:Nat:=7930907
def pc1:Nat:=11864636873
def pc2:Nat:=1732236983459
def pc3:Nat:=249442125618097
def ord:Nat:=2305843009213688669
def mdl:Nat:=4611686018427377339
theorem pr0:Pr pc0:=ZFE (s:=2816) (by decide) (by decide) (by decide+kernel)
theorem pr1:Pr pc1:=ZCg 409113128 pr0 (by decide) (by decide) (ZsZ 23 (by decide) (by decide+kernel)) (by decide) (by decide+kernel)
theorem pr2:Pr pc2:=ZCg 353522539148 pr1 (by decide) (by decide) (ZsZ 34 (by decide) (by decide+kernel)) (by decide) (by decide+kernel)
theorem pr3:Pr pc3:=ZCg 117107719143424 pr2 (by decide) (by decide) (ZsZ 41 (by decide) (by decide+kernel)) (by decide) (by decide+kernel)
theorem pr4:Pr ord:=ZCg 732368710688439132 pr3 (by decide) (by decide) (ZsZ 48 (by decide) (by decide+kernel)) (by decide) (by decide+kernel)
def WT (a:Nat):Prop:=0 < a∧a < mdl∧a ^ ord % mdl=1
theorem ZHM {a:Nat} (h:a < mdl) (e:a ^ ord % mdl=1):WT a:=by
 refine ⟨?_,h,e⟩
 rcases ybr a with h0|h0
 ·subst h0
  rw [Nat.zero_pow (by decide)] at e
  cases e
 ·exact h0
theorem Zm9:WT 1:=⟨by decide,by decide,by rw [Nat.one_pow];decide⟩
theorem ZFF:WT 4:=⟨by decide,by decide,ZsZ 61 (by decide) (by decide+kernel)⟩
theorem ZIV {a b:Nat} (ha:WT a) (hb:WT b):WT (a*b % mdl):=by
 refine ZHM (yaq _ (by decide)) ?_
 rw [←Nat.pow_mod,Nat.mul_pow,ybi,ha.2.2,hb.2.2]
 decide
theorem ZIW {a:Nat} (ha:WT a) (n:Nat):WT (a ^ n % mdl):=by
 refine ZHM (yaq _ (by decide)) ?_
 rw [←Nat.pow_mod, ←Nat.pow_mul,ybj]
 exact ZkC (m:=mdl) ha.2.2 n
theorem ZHo {a:Nat} (ha:WT a) (n:Nat):a ^ (n % ord) % mdl=a ^ n % mdl:=by
 have e:n=ord*(n / ord)+n % ord:=(Nat.div_add_mod n _).symm
 have h:=ZkC (m:=mdl) (k:=n / ord) ha.2.2
 conv=>rhs;rw [e]
 rw [ybq,ybi,h, ←ybi,Nat.one_mul]
theorem ZIX {k:Nat} (h0:0 < k) (h1:k < ord):4 ^ k % mdl≠1:=by
 intro e
 have:=Zqj (h:=4) (m:=mdl) k _ e ZFF.2.2
 rw [pr4.2 k h0 h1] at this
 revert this
 decide
end Go.Ev
end
section
set_option maxRecDepth 4000
namespace Go.Proofs.YtjbbdlffilcaaaaGreat
open Go Go.Ev
theorem Zpi {z:Nat}:(yv (z % 4611686018427377339)).toNat=z % 4611686018427377339:=by
 rw [yav,yac]
 exact Nat.lt_trans (yaq _ (by decide)) (by decide)
theorem ZFG {a b:UInt64} (ha:a.toNat < 4611686018427377339) (hb:b.toNat < 4611686018427377339):((a+b) % 4611686018427377339).toNat=(a.toNat+b.toNat) % 4611686018427377339:=by
 rw [UInt64.toNat_mod,UInt64.toNat_add,show (4611686018427377339:UInt64).toNat=4611686018427377339 from rfl,yac (a:=a.toNat+b.toNat) (by omega)]
theorem ZkD:∀(k m:Nat) (A B O:UInt64),A.toNat < 4611686018427377339→O.toNat < 4611686018427377339→B.toNat < 2 ^ k→k < m→
 Zd (Y9 fuel) m (A,B,O)=some (yv ((O.toNat+A.toNat*B.toNat) % 4611686018427377339))
 |k,0,_,_,_,_,_,_,h=>by omega
 |0,m+1,A,B,O,hA,hO,h,_=>by
  have h0:B.toNat=0:=by rw [Nat.pow_zero] at h;omega
  have hn:¬B > 0:=by
   intro h2
   have h3:0 < B.toNat:=yby.1 h2
   omega
  have hs:Y9 fuel (A,B,O)=if decide (B > 0)=true then (if ((B % 2)==1)=true then some (.inl ((A+A) % 4611686018427377339,B / 2,(O+A) % 4611686018427377339)) else some (.inl ((A+A) % 4611686018427377339,B / 2,O))) else some (.inr O):=rfl
  unfold Zd
  rw [hs]
  rw [if_neg (by rw [decide_eq_true_iff];exact hn),ya,h0,Nat.mul_zero,Nat.add_zero,yac hO,UInt64.ofNat_toNat]
 |k+1,m+1,A,B,O,hA,hO,h,hm=>by
  have hs:Y9 fuel (A,B,O)=if decide (B > 0)=true then (if ((B % 2)==1)=true then some (.inl ((A+A) % 4611686018427377339,B / 2,(O+A) % 4611686018427377339)) else some (.inl ((A+A) % 4611686018427377339,B / 2,O))) else some (.inr O):=rfl
  unfold Zd
  rw [hs]
  by_cases h2:B > 0
  ·have h3:0 < B.toNat:=yby.1 h2
   have hsh:(B / 2).toNat=B.toNat / 2:=by rw [UInt64.toNat_div];rfl
   have hlt:(B / 2).toNat < 2 ^ k:=by
    rw [hsh]
    rw [Nat.pow_succ] at h
    omega
   have hand:((B % 2)==1)=decide (B.toNat % 2=1):=by
    rw [Bool.eq_iff_iff,beq_iff_eq,decide_eq_true_iff, ←UInt64.toNat_inj,UInt64.toNat_mod]
    rfl
   have hA2:=ZFG hA hA
   have hAl:((A+A) % 4611686018427377339).toNat < 4611686018427377339:=by rw [hA2];exact yaq _ (by decide)
   have hB:B.toNat=2*(B.toNat / 2)+B.toNat % 2:=by omega
   rw [if_pos (decide_eq_true h2),hand]
   by_cases h4:B.toNat % 2=1
   ·have hO2:=ZFG hO hA
    have hOl:((O+A) % 4611686018427377339).toNat < 4611686018427377339:=by rw [hO2];exact yaq _ (by decide)
    rw [if_pos (decide_eq_true h4),ya]
    dsimp only
    rw [ZkD k m _ _ _ hAl hOl hlt (by omega),hA2,hO2,hsh]
    congr 2
    rw [Nat.add_mod,Nat.mod_mod,Nat.mod_mul_mod, ←Nat.add_mod]
    congr 1
    conv=>rhs;rw [hB,h4,Nat.mul_add,Nat.mul_one, ←Nat.mul_assoc]
    rw [Nat.mul_two]
    omega
   ·rw [if_neg (by rw [decide_eq_true_iff];exact h4),ya]
    dsimp only
    rw [ZkD k m _ _ _ hAl hO hlt (by omega),hA2,hsh]
    congr 2
    rw [Nat.add_mod,Nat.mod_mul_mod, ←Nat.add_mod]
    congr 1
    conv=>rhs;rw [hB,show B.toNat % 2=0 by omega,Nat.add_zero, ←Nat.mul_assoc]
    rw [Nat.mul_two]
  ·have h3:B.toNat=0:=by
    rcases ybr B.toNat with h5|h5
    ·exact h5
    ·exact absurd (show (0:UInt64) < B from yby.2 h5) h2
   rw [if_neg (by rw [decide_eq_true_iff];exact h2),ya,h3,Nat.mul_zero,Nat.add_zero,yac hO,UInt64.ofNat_toNat]
noncomputable def Zx (F:Nat) (a0:UInt64) (a1:UInt64):Option UInt64:=if decide (a0.toNat < 4611686018427377339)=true then some (yv (a0.toNat*a1.toNat % 4611686018427377339)) else WS F a0 a1
theorem ZDy (a b:UInt64):WS fuel a b=Zx fuel a b:=by
 unfold Zx
 split
 ·rename_i h
  unfold WS
  rw [ZkD 64 fuel a b 0 (of_decide_eq_true h) (by decide) (ybo _) (by rw [Zej];omega),ya,show (0:UInt64).toNat=0 from rfl,ybb]
 ·rfl
noncomputable def ZjB (F:Nat):Fs yb:={ VC F with M:=fun x=>Zx F x.1 x.2}
noncomputable def Zc6:Fs yb:=ZjB fuel
theorem ZjC:Zc6.Ok:=Zm8 (s:=VC fuel) ZiD fun x=>(ZDy x.1 x.2).symm
end Go.Proofs.YtjbbdlffilcaaaaGreat
end
section
set_option maxRecDepth 4000
namespace Go.Proofs.YtjbbdlffilcaaaaGreat
open Go Go.Ev
noncomputable section
def Xa (F:Nat) (s:(UInt64×UInt64×UInt64)):Option ((UInt64×UInt64×UInt64)⊕UInt64):=
 if (decide (s.2.1 > 0))=true then
  if ((s.2.1 % 2)==1)=true then
   (Zx F s.2.2 s.1).bind fun o103=>
   (Zx F s.1 s.1).bind fun o104=>
   some (.inl (o104,s.2.1 / 2,o103))
  else
  (Zx F s.1 s.1).bind fun o105=>
  some (.inl (o105,s.2.1 / 2,s.2.2))
 else
 some (.inr s.2.2)
def Zbf:Lp:=⟨[(0,.v .u64),(1,.v .u64),(5,.v .u64)],[],[.u64,.u64,.u64],[⟨.exit 0,[(5,.v .u64)],[],[.u64]⟩],Zd (Xa fuel) fuel⟩
theorem Zgg:Zbf.Ok yb (Zp yb 156) (Zo yb 156 0):=Zk (fi:={ hi:={ still:=[4,11,12,14,15]},lp:=[]}) (specs:={ l:=[Zc6]}) (okS ⟨ZjC,trivial⟩) trivial (by kernel_rfl) (fun v=>by kernel_rfl)
def WU (F:Nat) (a0:UInt64) (a1:UInt64):Option (UInt64):=
 (Zd (Xa F) F (a0,a1,(1:UInt64))).bind fun o106=>
 some o106
def VD (F:Nat):Fs yb:=⟨156,[.v .u64,.v .u64],[],[.u64,.u64],[⟨.ret,[(0,.v .u64)],[],[.u64]⟩],fun x=>WU F x.1 x.2⟩
def ZjD:Fs yb:=VD fuel
theorem ZiE:ZjD.Ok:=Zg (fi:={ hi:={ still:=[4,11,12,14,15]},lp:=[(0,Zbf)]}) (specs:={ l:=[]}) (okS trivial) ⟨Zgg,trivial⟩ (by decide+kernel) (fun x=>by kernel_rfl)
end
end Go.Proofs.YtjbbdlffilcaaaaGreat
end
section
set_option maxRecDepth 4000
namespace Go.Proofs.YtjbbdlffilcaaaaGreat
open Go Go.Ev
theorem Zpj:∀(k m:Nat) (A N O:UInt64),A.toNat < 4611686018427377339→O.toNat < 4611686018427377339→N.toNat < 2 ^ k→k < m→Zd (Xa fuel) m (A,N,O)=some (yv (pwm 4611686018427377339 k A.toNat N.toNat O.toNat))
 |k,0,_,_,_,_,_,_,h=>by omega
 |0,m+1,A,N,O,hA,hO,h,_=>by
  have hn:¬N > 0:=by
   intro h2
   have h3:0 < N.toNat:=yby.1 h2
   rw [Nat.pow_zero] at h
   omega
  have hs:Xa fuel (A,N,O)=if decide (N > 0)=true then (if ((N % 2)==1)=true then (Zx fuel O A).bind fun o1=>(Zx fuel A A).bind fun o2=>some (.inl (o2,N / 2,o1)) else (Zx fuel A A).bind fun o2=>some (.inl (o2,N / 2,O))) else some (.inr O):=rfl
  unfold Zd
  rw [hs]
  rw [if_neg (by rw [decide_eq_true_iff];exact hn),ya,pwm,UInt64.ofNat_toNat]
 |k+1,m+1,A,N,O,hA,hO,h,hm=>by
  have hs:Xa fuel (A,N,O)=if decide (N > 0)=true then (if ((N % 2)==1)=true then (Zx fuel O A).bind fun o1=>(Zx fuel A A).bind fun o2=>some (.inl (o2,N / 2,o1)) else (Zx fuel A A).bind fun o2=>some (.inl (o2,N / 2,O))) else some (.inr O):=rfl
  unfold Zd
  rw [hs]
  by_cases h2:N > 0
  ·have hp:0 < N.toNat→pwm 4611686018427377339 (k+1) A.toNat N.toNat O.toNat=pwm 4611686018427377339 k (A.toNat*A.toNat % 4611686018427377339) (N.toNat / 2) (if N.toNat % 2=1 then O.toNat*A.toNat % 4611686018427377339 else O.toNat):=fun h=>by
    rw [pwm,if_neg (by omega)]
   have h3:0 < N.toNat:=yby.1 h2
   have hsh:(N / 2).toNat=N.toNat / 2:=by rw [UInt64.toNat_div];rfl
   have hlt:(N / 2).toNat < 2 ^ k:=by
    rw [hsh]
    rw [Nat.pow_succ] at h
    omega
   have hand:((N % 2)==1)=decide (N.toNat % 2=1):=by
    rw [Bool.eq_iff_iff,beq_iff_eq,decide_eq_true_iff, ←UInt64.toNat_inj,UInt64.toNat_mod]
    rfl
   have ml:∀z:Nat,z % 4611686018427377339 < 4611686018427377339:=fun z=>yaq _ (by decide)
   have e1:Zx fuel A A=some (yv (A.toNat*A.toNat % 4611686018427377339)):=by
    unfold Zx
    rw [if_pos (decide_eq_true hA)]
   have e2:Zx fuel O A=some (yv (O.toNat*A.toNat % 4611686018427377339)):=by
    unfold Zx
    rw [if_pos (decide_eq_true hO)]
   rw [if_pos (decide_eq_true h2),hand,hp h3,e1,e2]
   by_cases h4:N.toNat % 2=1
   ·rw [if_pos (decide_eq_true h4),if_pos h4,ya,ya,ya]
    dsimp only
    rw [Zpj k m _ _ _ (by rw [Zpi];exact ml _) (by rw [Zpi];exact ml _) hlt (by omega),Zpi,Zpi,hsh]
   ·rw [if_neg (by rw [decide_eq_true_iff];exact h4),if_neg h4,ya,ya]
    dsimp only
    rw [Zpj k m _ _ _ (by rw [Zpi];exact ml _) hO hlt (by omega),Zpi,hsh]
  ·have h3:N.toNat=0:=by
    rcases ybr N.toNat with h5|h5
    ·exact h5
    ·exact absurd (show (0:UInt64) < N from yby.2 h5) h2
   rw [if_neg (by rw [decide_eq_true_iff];exact h2),ya,pwm,if_pos h3,UInt64.ofNat_toNat]
noncomputable def YH (F:Nat) (a0:UInt64) (a1:UInt64):Option UInt64:=if decide (a0.toNat < 4611686018427377339)=true then some (yv (pwm 4611686018427377339 64 a0.toNat a1.toNat 1)) else WU F a0 a1
theorem ZDz (a n:UInt64):WU fuel a n=YH fuel a n:=by
 unfold YH
 split
 ·rename_i h
  unfold WU
  rw [Zpj 64 fuel a n 1 (of_decide_eq_true h) (by decide) (ybo _) (by rw [Zej];omega),ya]
  rfl
 ·rfl
noncomputable def ZjE (F:Nat):Fs yb:={ VD F with M:=fun x=>YH F x.1 x.2}
noncomputable def Qq:Fs yb:=ZjE fuel
theorem ZbT:Qq.Ok:=Zm8 (s:=VD fuel) ZiE fun x=>(ZDz x.1 x.2).symm
end Go.Proofs.YtjbbdlffilcaaaaGreat
end
