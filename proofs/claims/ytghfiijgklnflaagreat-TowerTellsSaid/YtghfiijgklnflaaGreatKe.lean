/- Parts of the proof, in one file. -/
import Derived.Test.YtghfiijgklnflaaGreatKd
open Array renaming length_toList → ybo, getElem?_toList → ycd, getElem?_eq_getElem → yce, getElem?_eq_some_iff → yda
open Bool renaming and_eq_true → yi
open Go renaming TypeId → yb, Program → yg, Value → yh, Oper → ym, FuncId → yw, World → yz
open Go.Proofs.Tryz renaming prog → yc
open List renaming length_append → yj, getElem?_eq_some_iff → yo, range → yp, length_take → yv, append_assoc → yx, length_map → yaa, replicate → yac, getElem?_eq_getElem → yad, cons_append → yae, map_cons → yah, getElem?_map → yal, length_set → yan, length_cons → yao, append_nil → yas, getElem?_append_right → yat, map_append → yau, getElem?_append_left → yba, getElem?_cons_succ → ybb, mem_cons_self → ybd, map_map → ybe, length_drop → ybf, mem_cons_of_mem → ybh, getElem?_eq_none → ybi, ext_getElem? → ybk, getElem?_set → ybq, take_of_length_le → ybr, all_eq_true → ybs, getElem?_cons_zero → ybx, range' → yby, mem_of_getElem? → ybz, mem_cons → yci, mem_append → ycp, getElem?_set_self → ycw, length_replicate → ycx, getElem?_set_ne → ycy, getElem?_concat_length → yde, getD_eq_getElem?_getD → ydf
open Nat renaming le_refl → yl, add → yr, shiftRight → yak, mod_eq_of_lt → yap, zero_add → yay, add_mul → yaz, le_trans → ybj, mul_le_mul_right → ybp, mul_comm → ybt, add_assoc → ych, lt_of_lt_of_le → ycv, shiftRight_eq_div_pow → ydg
open Option renaming bind_some → ya, bind_eq_some_iff → yf, map_some → yaf
open Option.some renaming injEq → yq, inj → ybw
open Prod.mk renaming injEq → yab
open UInt32 renaming ofNat → ybv
open UInt8 renaming ofNat → yav
set_option linter.unusedVariables false
set_option linter.unusedSimpArgs false
section
namespace Go.Ev
section
variable{P:yg}
theorem Zyv{x y:Code}{ts ts1 ts2:yL Dv}{H H1 H2:yL Ent}{ex:Ex}(r1:Wt P x ts H .normal ts1 H1)(r2:Wt P y ts1 H1 ex ts2 H2):Wt P (.seq x y) ts H ex ts2 H2:=by
 intro σ a ok hH yK;refine wp_seq (wp_mono (r1 σ a ok hH yK) ?_);rintro e a' w' ⟨rfl,σ1,rfl,e1,to1,ok1,hrep1⟩;refine wp_mono (r2 σ1 a' ok1 e1 hrep1) ?_;rintro e a'' w'' ⟨rfl,σ2,rfl,e2,to2,ok2,hrep2⟩;exact⟨rfl,σ2,rfl,e2,to1.trans to2,ok2,hrep2⟩
theorem ZuZ{x y:Code}{ts ts1:yL Dv}{H H1:yL Ent}{ex:Ex}(hne:ex≠ .normal)(r1:Wt P x ts H ex ts1 H1):Wt P (.seq x y) ts H ex ts1 H1:=by
 intro σ a ok hH yK;refine wp_seq (wp_mono (r1 σ a ok hH yK) ?_);rintro e a' w' ⟨rfl,hq⟩
 cases ex with
 |normal=>exact absurd rfl hne
 |exit id=>exact⟨rfl,hq⟩
 |ret=>exact⟨rfl,hq⟩
theorem Zmb{c:Operand}{x y:Code}{ts ts1:yL Dv}{H H1:yL Ent}{ex:Ex}{b:Bool}(hc:argD P ts 0 c=.p (.bool b))(r1:Wt P (if b then x else y) ts H ex ts1 H1):Wt P (.cond c x y) ts H ex ts1 H1:=by
 intro σ a ok hH yK;have hv:=Zq (P:=P) yK 0 c;rw[hc] at hv;cases b
 ·exact wp_cond_false (YP hv) (r1 σ a ok hH yK)
 ·exact wp_cond_true (YP hv) (r1 σ a ok hH yK)
def ZwG(id:Nat):Ex->Ex
 |.exit i=>if i=id then .normal else .exit i
 |ex=>ex
theorem ZAx{id:Nat}{body:Code}{ts ts1:yL Dv}{H H1:yL Ent}{ex:Ex}(r1:Wt P body ts H ex ts1 H1):Wt P (.block id body) ts H (ZwG id ex) ts1 H1:=by
 intro σ a ok hH yK;refine wp_block (wp_mono (r1 σ a ok hH yK) ?_);rintro e a' w' ⟨rfl,hq⟩
 cases ex with
 |normal=>exact⟨rfl,hq⟩
 |exit id'=>
  simp only[Ex.to,Exit.inBlock,ZwG];split
  ·exact⟨rfl,hq⟩
  ·exact⟨rfl,hq⟩
 |ret=>exact⟨rfl,hq⟩
theorem ZAy{body:Code}{ts ts1:yL Dv}{H H1:yL Ent}{ex:Ex}(r1:Wt P body ts H ex ts1 H1):Wt P (.scope body) ts H ex ts1 H1:=by
 intro σ a ok hH yK;refine wp_scope_straight (wp_mono (r1 σ a ok hH yK) ?_);rintro e a' w' ⟨rfl,hq⟩;cases ex <;> exact⟨rfl,hq⟩
theorem ZDv{ts:yL Dv}{H:yL Ent}:Wt P .skip ts H .normal ts H:=λσ a ok hH yK=>wp_skip ⟨rfl,σ,rfl,hH,To.refl σ,ok,yK⟩
theorem ZAz{n:Nat}{ts:yL Dv}{H:yL Ent}:Wt P (.label n) ts H .normal ts H:=λσ a ok hH yK=>wp_label ⟨rfl,σ,rfl,hH,To.refl σ,ok,yK⟩
theorem ZDw{n:Nat}{ts:yL Dv}{H:yL Ent}:Wt P (.exit n) ts H (.exit n) ts H:=λσ a ok hH yK=>wp_exit ⟨rfl,σ,rfl,hH,To.refl σ,ok,yK⟩
theorem ZFF{ts:yL Dv}{H:yL Ent}:Wt P .ret ts H .ret ts H:=λσ a ok hH yK=>wp_ret ⟨rfl,σ,rfl,hH,To.refl σ,ok,yK⟩
theorem Zu0{c:Code}{ts ts1:yL Dv}{H H1:yL Ent}{ex:Ex}(keep:yL Nat)(r:Wt P c ts H ex ts1 H1):Wt P c ts H ex (maskFrom keep 0 ts1) H1:=by
 intro σ a ok hH yK;refine wp_mono (r σ a ok hH yK) ?_;rintro e a' w' ⟨rfl,σ1,rfl,e1,to1,ok1,hrep1⟩;exact⟨rfl,σ1,rfl,e1,to1,ok1,Qo keep hrep1⟩
def Zyw(n0:Nat)(sl:Slots)(es:yL ESh)(a:yL TD)(h:yL TEnt):yO (yL TV):=
 if once (yp n0++[]) then(WM h (yp n0++[]) (yp n0++[])).bind λh2=>(TD.rns (toIds (yp n0++[])) (Zci (sl.map (·.1)) 0 a)).bind λa2=>
  (Sh.mts (lk h2) (shs sl a.length) a2).bind λq=>(ESh.mts (lk h2) es h2).bind λw=>some (q.2++w.2)
 else none
theorem ZAA{n0:Nat}{sl:Slots}{es:yL ESh}{a:yL TD}{h:yL TEnt}{vs:yL TV}(k:Zyw n0 sl es a h=some vs):
 ∃a3 h3,VY a.length sl es vs=some (a3,h3)/\∀{c:Code}{ts:yL Dv}{H:yL Ent}{ex:Ex},H.length=n0->Wt P c ts H ex (TD.ers (lk h) a) (erH h)->Wt P c ts H ex (TD.ers (lk h3) a3) (erH h3):=by
 unfold Zyw at k;split at k
 ·rename_i ho;obtain⟨h2,h1,k⟩:=yf.1 k;obtain⟨a2,e2,k⟩:=yf.1 k;obtain⟨q,e3,k⟩:=yf.1 k;obtain⟨w,e4,k⟩:=yf.1 k;cases k;obtain⟨g1,g2⟩:=Zk1 e4;have hc:∀id t,Ym (lk h2) id t none=Ym (lk w.1) id t none:=λid t=>by rw[g2]
  refine⟨q.1,w.1, ?_,λ{c ts H ex}hl r=> ?_⟩
  ·unfold VY;rw[mts_fills _ _ _ e3];have:=Zgt e4 [];grind
  ·have r1:=Zu0 (sl.map (·.1)) r;rw[<-Zgu] at r1;have r2:=ZuE [] [] r1 (by rw[hl];exact ho) (by rw[hl];exact W4 (ZbL h1) h1) (by rw[hl];exact rns_er (ZbL h1) _ _ e2);exact ZuF r2 (mts_wk hc _ _ _ e3) (Zn9 hc e4)
 ·cases k
theorem ZAB{n0:Nat}{sl:Slots}{es:yL ESh}{a:yL TD}{h:yL TEnt}{vs:yL TV}(hn:h.length=n0)(k:Zyw n0 sl es a h=some vs):
 ∃a3 h3,VY a.length sl es vs=some (a3,h3)/\∀(σ:Sg)(act:Act),Ok σ->σ.H=erH h->RepT σ (TD.ers (lk h) a) act->∃σ':Sg,σ'.w=σ.w/\σ'.H=erH h3/\To σ σ'/\Ok σ'/\RepT σ' (TD.ers (lk h3) a3) act:=by
 subst hn;unfold Zyw at k;split at k
 ·rename_i ho;obtain⟨h2,h1,k⟩:=yf.1 k;obtain⟨a2,e2,k⟩:=yf.1 k;obtain⟨q,e3,k⟩:=yf.1 k;obtain⟨w,e4,k⟩:=yf.1 k;cases k;obtain⟨g1,g2⟩:=Zk1 e4;have hc:∀id t,Ym (lk h2) id t none=Ym (lk w.1) id t none:=λid t=>by rw[g2]
  refine⟨q.1,w.1, ?_,λσ act ok hH yK=> ?_⟩
  ·unfold VY;rw[mts_fills _ _ _ e3];have:=Zgt e4 [];grind
  ·have r1:=Qo (sl.map (·.1)) yK;rw[<-Zgu] at r1
   have hin:subEnts σ.H (yp σ.H.length++[]) (yp σ.H.length++[])=some (erH h2):=by
    rw[hH,Z1];exact W4 (ZbL h1) h1
   have ho':once (yp σ.H.length++[])=true:=by rw[hH,Z1];exact ho
   have e2':Dv.rns (toIds (yp σ.H.length++[])) (TD.ers (lk h) (Zci (sl.map (·.1)) 0 a))=some (TD.ers (lk h2) a2):=by
    rw[hH,Z1];exact rns_er (ZbL h1) _ _ e2
   have r2:=ZkX (Zcd hin) e2' r1;have to1:=ZvT ok (To.refl σ) ho' hin;have ok1:=ZnQ ok ho' hin;obtain⟨to2,ok2⟩:=ZpP (σ:=Zgo σ (yp σ.H.length++[]) (erH h2)) ok1 (H':=erH w.1) (Zn9 hc e4);exact⟨{ Zgo σ (yp σ.H.length++[]) (erH h2) with H:=erH w.1},rfl,rfl,to1.trans to2,ok2,(mts_wk hc _ _ _ e3).repT (r2.to to2.leaf)⟩
 ·cases k
def ZJA(L:Lk):ESh->TEnt->yO TEnt
 |.rowN _ _ _ _,.rowM u np v st e pre mid post=>(ZJr L u mid).map λy=>.rowN u np v st e (pre++[y]) post
 |_,x=>some x
def ZFG(L:Lk):yL ESh->yL TEnt->yO (yL TEnt)
 |[],h=>some h
 |_::_,[]=>some []
 |s::r,x::h=>match ZJA L s x,ZFG L r h with
  |some y,some ys=>some (y::ys)
  |_,_=>none
theorem ZHY{L:Lk}{s:ESh}{x y:TEnt}(h:ZJA L s x=some y):lkE (some y)=lkE (some x)/\WkE (x.er L) (y.er L):=by
 unfold ZJA at h;split at h
 ·rename_i u np v st e pre mid post;obtain⟨c,h1,rfl⟩:=Zg h;refine⟨?_,ZBK (ZBH h1)⟩;simp only[lkE,yj,yao,List.length_nil];grind
 ·cases h;exact⟨rfl,.refl _⟩
theorem ZBV{L:Lk}:∀{es:yL ESh}{h h':yL TEnt},ZFG L es h=some h'->h'.length=h.length/\(∀j:Nat,lkE (h'[j]?)=lkE (h[j]?))/\WkH (h.map (TEnt.er L)) (h'.map (TEnt.er L))
 |[],h,h',k=>by cases k;exact⟨rfl,λ_=>rfl,WkH.refl _⟩
 |_::_,[],h',k=>by cases k;exact⟨rfl,λ_=>rfl,WkH.refl _⟩
 |s::r,x::h,h',k=>by
  simp only[ZFG] at k;split at k
  ·rename_i y ys h1 h2;cases k;obtain⟨a1,a2⟩:=ZHY h1;obtain⟨b1,b2,b3⟩:=ZBV h2;refine⟨by simp[b1],λj=> ?_,.cons a2 b3⟩;grind
  ·cases k
theorem ZBW{es:yL ESh}{h h':yL TEnt}(k:ZFG (lk h) es h=some h'):h'.length=h.length/\lk h'=lk h/\WkH (erH h) (erH h'):=by
 obtain⟨a,b,c⟩:=ZBV k;have e:lk h'=lk h:=funext b;refine⟨a,e, ?_⟩;unfold erH;rw[e];exact c
def ZDx(n0:Nat)(sl:Slots)(es:yL ESh)(a:yL TD)(h:yL TEnt):yO (yL TV):=(ZFG (lk h) es h).bind λh=>Zyw n0 sl es a h
theorem Zu1{n0:Nat}{sl:Slots}{es:yL ESh}{a:yL TD}{h:yL TEnt}{vs:yL TV}(k:ZDx n0 sl es a h=some vs):
 ∃a3 h3,VY a.length sl es vs=some (a3,h3)/\∀{c:Code}{ts:yL Dv}{H:yL Ent}{ex:Ex},H.length=n0->Wt P c ts H ex (TD.ers (lk h) a) (erH h)->Wt P c ts H ex (TD.ers (lk h3) a3) (erH h3):=by
 obtain⟨h1,k1,k2⟩:=yf.1 k;obtain⟨e1,e2,e3⟩:=ZBW k1;obtain⟨a3,h3,g1,g2⟩:=ZAA (P:=P) k2;refine⟨a3,h3,g1,λhl r=>g2 hl ?_⟩;rw[e2];exact ZuF r (WkL.refl _) e3
theorem Zu2{n0:Nat}{sl:Slots}{es:yL ESh}{a:yL TD}{h:yL TEnt}{vs:yL TV}(hn:h.length=n0)(k:ZDx n0 sl es a h=some vs):
 ∃a3 h3,VY a.length sl es vs=some (a3,h3)/\∀(σ:Sg)(act:Act),Ok σ->σ.H=erH h->RepT σ (TD.ers (lk h) a) act->∃σ':Sg,σ'.w=σ.w/\σ'.H=erH h3/\To σ σ'/\Ok σ'/\RepT σ' (TD.ers (lk h3) a3) act:=by
 obtain⟨h1,k1,k2⟩:=yf.1 k;obtain⟨e1,e2,e3⟩:=ZBW k1;obtain⟨a3,h3,g1,g2⟩:=ZAB (by rw[e1];exact hn) k2;refine⟨a3,h3,g1,λσ act ok hH hr=> ?_⟩;obtain⟨to,ok'⟩:=ZpP ok (H':=erH h1) (by rw[hH];exact e3);obtain⟨σ2,q1,q2,q3,q4,q5⟩:=g2 { σ with H:=erH h1} act ok' rfl (by rw[e2];exact hr.to to.leaf);exact⟨σ2,q1,q2,to.trans q3,q4,q5⟩
structure Lp where
 sl:Slots
 es:List ESh
 I:List Ty
 xs:List XSh
 L:Ty.dens I->Option (XSh.sum xs)
def Lp.Is(P:yg)(n:Nat)(c:Code)(lp:Lp):Prop:=
 ∀v o,lp.L v=some o->∀s,VY n lp.sl lp.es (ofD lp.I v)=some s->∀e vs s',ZAo lp.xs o e vs->VY n e.sl e.es vs=some s'->
  Wt P c (TD.ers (lk s.2) s.1) (erH s.2) e.ex (TD.ers (lk s'.2) s'.1) (erH s'.2)
abbrev Lp.Ok(P:yg)(n:Nat)(body:Code)(lp:Lp):Prop:=lp.Is P n (.loop body)
structure FI where
 hi:HI:={}
 lp:List (Nat×Lp):=[]
 bk:List (Nat×Lp):=[]
 gh:List (Nat×GOp):=[]
 un:Nat:=0
def Code.nl:Code->Nat
 |.seq a b=>Code.nl a+Code.nl b
 |.cond _ a b=>Code.nl a+Code.nl b
 |.block _ a=>Code.nl a
 |.scope a=>Code.nl a
 |.loop a=>Code.nl a+1
 |_=>0
def Code.ns:Code->Nat
 |.seq a b=>Code.ns a+Code.ns b+1
 |.cond _ a b=>Code.ns a+Code.ns b
 |.block _ a=>Code.ns a
 |.scope a=>Code.ns a
 |.loop a=>Code.ns a
 |_=>0
theorem Zck:∀c:Code,(ZO c).length=Code.nl c
 |.seq a b=>by simp only[ZO,yj,Zck a,Zck b,Code.nl]
 |.cond _ a b=>by simp only[ZO,yj,Zck a,Zck b,Code.nl]
 |.block _ a=>by simp only[ZO,Zck a,Code.nl]
 |.scope a=>by simp only[ZO,Zck a,Code.nl]
 |.loop a=>by simp only[ZO,yao,Zck a,Code.nl]
 |.skip=>rfl
 |.region _ _ _=>rfl
 |.rangeFunc _ _ _ _=>rfl
 |.exit _=>rfl
 |.ret=>rfl
 |.label _=>rfl
 |.goto _=>rfl
 |.refuse _=>rfl
def Zq9{O:Type}(step:yL TD->yL TEnt->Kc O->yO O):Nat->yL TD->yL TEnt->Kc O->yO O
 |0,_,_,_=>none
 |k+1,a,h,K=>step a h λex a' h'=>match ex with
  |.normal=>Zq9 step k a' h' K
  |ex=>K ex a' h'
theorem Zp7{O:Type}{body:Code}{N:Nat}{step:yL TD->yL TEnt->Kc O->yO O}
 (hs:∀(a:yL TD)(h:yL TEnt)(K:Kc O)(out:O),a.length=N->step a h K=some out->∃ex a' h',K ex a' h'=some out/\a'.length=N/\Wt P body (TD.ers (lk h) a) (erH h) ex (TD.ers (lk h') a') (erH h')):
 ∀(k:Nat)(a:yL TD)(h:yL TEnt)(K:Kc O)(out:O),a.length=N->Zq9 step k a h K=some out->∃ex a' h',K ex a' h'=some out/\a'.length=N/\Zuz P body (TD.ers (lk h) a) (erH h) ex (TD.ers (lk h') a') (erH h')
 |0,_,_,_,_,_,k=>by cases k
 |n+1,a,h,K,out,hN,k=>by
  unfold Zq9 at k;obtain⟨ex,a1,h1,k1,k2,k3⟩:=hs _ _ _ _ hN k;split at k1
  ·obtain⟨ex2,a2,h2,k4,k5,k6⟩:=Zp7 hs n a1 h1 K out k2 k1;exact⟨ex2,a2,h2,k4,k5,ZuB [] k3 k6⟩
  ·rename_i hne;exact⟨_,a1,h1,k1,k2,ZuA hne k3⟩
def Zpk(m:Nat)(a:yL TD)(h:yL TEnt):yL (Nat×Lp)->yO (Σ bk:Lp,Ty.dens bk.I)
 |[]=>none
 |q::r=>if Nat.beq q.1 m=true then match (ZDx h.length q.2.sl q.2.es a h).bind (toD q.2.I) with
   |some v=>some ⟨q.2,v⟩
   |none=>Zpk m a h r
  else Zpk m a h r
theorem ZhE{m:Nat}{a:yL TD}{h:yL TEnt}{b:Σ bk:Lp,Ty.dens bk.I}:∀{l:yL (Nat×Lp)},Zpk m a h l=some b->(m,b.1)∈l/\∃vs,ZDx h.length b.1.sl b.1.es a h=some vs/\toD b.1.I vs=some b.2
 |[],k=>by cases k
 |q::r,k=>by
  unfold Zpk at k;split at k
  ·rename_i hm;split at k
   ·rename_i v hv;cases k;have e:=Nat.eq_of_beq_eq_true hm;refine⟨?_,yf.1 hv⟩;grind
   ·obtain⟨h1,h2⟩:=ZhE k;grind
  ·obtain⟨h1,h2⟩:=ZhE k;grind
def evT{O:Type}(P:yg)(fi:FI)(specs:Sp P):Code->Nat->Nat->yL TD->yL TEnt->Kc O->yO O
 |.skip,_,_,a,h,K=>K .normal a h
 |.label _,_,_,a,h,K=>K .normal a h
 |.region _ ops draw,_,_,a,h,K=>if draw=true then ZJw P fi.hi specs ops a h λa' h'=>K .normal a' h' else if ZJz ops=true then Zyq P fi.hi specs ops (ops.toList.take (ops.size - 5)) a h λa' h' _=>ZBT P (ops.toList.drop (ops.size - 5)) a' h' λa' h'=>K .normal a' h'
  else Zyq P fi.hi specs ops ops.toList a h λa' h' _=>K .normal a' h'
 |.seq x y,n,m,a,h,K=>ghO (fi.gh.lookup m) a h λa h=>match Zpk m a h fi.bk with
  |none=>evT P fi specs x n (m+1) a h λex a' h'=>match ex with
   |.normal=>evT P fi specs y (n+Code.nl x) (m+1+Code.ns x) a' h' K
   |ex=>K ex a' h'
  |some bk=>(bk.1.L bk.2).bind λo=>xT a.length bk.1.xs o λex a' h'=>match ex with
   |.normal=>evT P fi specs y (n+Code.nl x) (m+1+Code.ns x) a' h' K
   |ex=>K ex a' h'
 |.cond c x y,n,m,a,h,K=>((arT P a 0 c).bind TD.boolT).bind λb=>match c with
  |.tmp t=>if b=true then evT P fi specs x n m (a.set t (ZtO true)) h K else evT P fi specs y (n+Code.nl x) (m+Code.ns x) (a.set t (ZtO false)) h K
  |_=>if b=true then evT P fi specs x n m a h K else evT P fi specs y (n+Code.nl x) (m+Code.ns x) a h K
 |.block id body,n,m,a,h,K=>evT P fi specs body n m a h λex a' h'=>K (ZwG id ex) a' h'
 |.loop body,n,m,a,h,K=>match Zpk n a h fi.lp with
  |some lp=>(lp.1.L lp.2).bind λo=>xT a.length lp.1.xs o K
  |none=>Zq9 (λa h K=>evT P fi specs body (n+1) m a h K) fi.un a h K
 |.scope body,n,m,a,h,K=>evT P fi specs body n m a h K
 |.exit id,_,_,a,h,K=>K (.exit id) a h
 |.ret,_,_,a,h,K=>K .ret a h
 |_,_,_,_,_,_=>none
def Va:Code->yL Code
 |.seq a b=>a::(Va a++Va b)
 |.cond _ a b=>Va a++Va b
 |.block _ a=>Va a
 |.scope a=>Va a
 |.loop a=>Va a
 |_=>[]
theorem Zcl:∀c:Code,(Va c).length=Code.ns c
 |.seq a b=>by simp only[Va,yao,yj,Zcl a,Zcl b,Code.ns]
 |.cond _ a b=>by simp only[Va,yj,Zcl a,Zcl b,Code.ns]
 |.block _ a=>by simp only[Va,Zcl a,Code.ns]
 |.scope a=>by simp only[Va,Zcl a,Code.ns]
 |.loop a=>by simp only[Va,Zcl a,Code.ns]
 |.skip=>rfl
 |.region _ _ _=>rfl
 |.rangeFunc _ _ _ _=>rfl
 |.exit _=>rfl
 |.ret=>rfl
 |.label _=>rfl
 |.goto _=>rfl
 |.refuse _=>rfl
def Zke(P:yg)(fi:FI)(N:Nat)(c:Code)(m:Nat):Prop:=∀(k:Nat)(x:Code),(Va c)[k]? =some x->∀bk,(m+k,bk)∈fi.bk->bk.Is P N x
theorem ZFH{fi:FI}{N:Nat}{x y c:Code}{m:Nat}(e:Va c=Va x++Va y)(h:Zke P fi N c m):Zke P fi N x m:=λk b hk=>h k b (by
 rw[e,yba (yo.1 hk).1];exact hk)
theorem ZDy{fi:FI}{N:Nat}{x y c:Code}{m:Nat}(e:Va c=Va x++Va y)(h:Zke P fi N c m):Zke P fi N y (m+Code.ns x):=λk b hk lp hl=>h (Code.ns x+k) b (by
 rw[e,yat (by rw[Zcl];omega),Zcl];rw[show Code.ns x+k - Code.ns x=k by omega];exact hk) lp (by rw[<-ych];exact hl)
theorem ZFI{fi:FI}{N:Nat}{x y:Code}{m:Nat}(h:Zke P fi N (.seq x y) m):Zke P fi N x (m+1):=λk b hk lp hl=>h (k+1) b (by
 rw[Va,ybb,yba (yo.1 hk).1];exact hk) lp (by rw[show m+(k+1)=m+1+k by omega];exact hl)
theorem Zyx{fi:FI}{N:Nat}{x y:Code}{m:Nat}(h:Zke P fi N (.seq x y) m):Zke P fi N y (m+1+Code.ns x):=λk b hk lp hl=>h (Code.ns x+k+1) b (by
 rw[Va,ybb,yat (by rw[Zcl];omega),Zcl];rw[show Code.ns x+k - Code.ns x=k by omega];exact hk) lp (by rw[show m+(Code.ns x+k+1)=m+1+Code.ns x+k by omega];exact hl)
def ZmF(P:yg)(fi:FI)(N:Nat)(c:Code)(n:Nat):Prop:=∀(k:Nat)(b:Code),(ZO c)[k]? =some (.loop b)->∀lp,(n+k,lp)∈fi.lp->lp.Ok P N b
theorem Zyy{fi:FI}{N:Nat}{x y c:Code}{n:Nat}(e:ZO c=ZO x++ZO y)(h:ZmF P fi N c n):ZmF P fi N x n:=λk b hk=>h k b (by
 rw[e,yba (yo.1 hk).1];exact hk)
theorem Zu3{fi:FI}{N:Nat}{x y c:Code}{n:Nat}(e:ZO c=ZO x++ZO y)(h:ZmF P fi N c n):ZmF P fi N y (n+Code.nl x):=λk b hk lp hl=>h (Code.nl x+k) b (by
 rw[e,yat (by rw[Zck];omega),Zck];rw[show Code.nl x+k - Code.nl x=k by omega];exact hk) lp (by rw[<-ych];exact hl)
theorem V9{O:Type}{fi:FI}{specs:Sp P}{out:O}{N:Nat}(ok:SpOk specs):∀(c:Code)(n m:Nat)(a:yL TD)(h:yL TEnt)(K:Kc O),a.length=N->ZmF P fi N c n->Zke P fi N c m->evT P fi specs c n m a h K=some out->
 ∃ex a' h',K ex a' h'=some out/\a'.length=N/\Wt P c (TD.ers (lk h) a) (erH h) ex (TD.ers (lk h') a') (erH h')
 |.skip,n,m,a,h,K,hN,hl,hb0,k=>⟨_,_,_,k,hN,ZDv⟩
 |.label _,n,m,a,h,K,hN,hl,hb0,k=>⟨_,_,_,k,hN,ZAz⟩
 |.exit _,n,m,a,h,K,hN,hl,hb0,k=>⟨_,_,_,k,hN,ZDw⟩
 |.ret,n,m,a,h,K,hN,hl,hb0,k=>⟨_,_,_,k,hN,ZFF⟩
 |.region id ops draw,n,m,a,h,K,hN,hl,hb0,k=>by
  unfold evT at k
  cases draw with
  |true=>
   rw[yW rfl] at k;obtain⟨a',h',k1,k2,k3⟩:=ZDo ok k
   exact⟨_,_,_,k1,by rw[k2,hN],k3 id⟩
  |false=>
   rw[yX (by decide)] at k;split at k
   ·obtain⟨a',h',k1,k2,k3⟩:=ZDt ok k;exact⟨_,_,_,k1,by rw[k2,hN],k3 id⟩
   ·obtain⟨a',h',hs,k1,k2,k3⟩:=ZDp ok k
    exact⟨_,_,_,k1,by rw[k2,hN],k3 id⟩
 |.seq x y,n,m,a,h,K,hN,hl,hb0,k=>by
  have hx:=Zyy (x:=x) (y:=y) rfl hl;have hy:=Zu3 (x:=x) (y:=y) rfl hl;unfold evT at k;obtain⟨a0,h0,k,hN0,gst⟩:=ZFE k;rw[hN] at hN0
  suffices key:∃ex a' h',K ex a' h'=some out/\a'.length=N/\Wt P (.seq x y) (TD.ers (lk h0) a0) (erH h0) ex (TD.ers (lk h') a') (erH h') by
   obtain⟨ex,a',h',g1,g2,g3⟩:=key;exact⟨ex,a',h',g1,g2,ZHW gst g3⟩
  clear gst;have hN:=hN0;clear hN0;split at k
  ·obtain⟨ex,a1,h1,k1,k2,k3⟩:=V9 ok x _ _ _ _ _ hN hx (ZFI hb0) k;split at k1
   ·obtain⟨ex2,a2,h2,k4,k5,k6⟩:=V9 ok y _ _ _ _ _ k2 hy (Zyx hb0) k1;exact⟨_,_,_,k4,k5,Zyv k3 k6⟩
   ·rename_i hne;exact⟨_,_,_,k1,k2,ZuZ hne k3⟩
  ·rename_i bkv hbk;obtain⟨bk,v⟩:=bkv;obtain⟨hbk,vs,j1,j2⟩:=ZhE hbk;dsimp only at hbk j1 j2 k;obtain⟨o,j3,k⟩:=yf.1 k;obtain⟨e,vs',s,g1,g2,g3⟩:=Zq6 k;obtain⟨a3,h3,j4,j5⟩:=Zu2 rfl j1;have hok:=hb0 0 x rfl bk (by rw[Nat.add_zero];exact hbk);rw[hN] at g2 j4;have e1:=ZhD _ _ _ j2;have r:=hok v o j3 (a3,h3) (by rw[e1];exact j4) e vs' s g1 g2
   have k3:Wt P x (TD.ers (lk h0) a0) (erH h0) e.ex (TD.ers (lk s.2) s.1) (erH s.2):=by
    intro σ act okσ hH yK;obtain⟨σ1,p1,p2,p3,p4,p5⟩:=j5 σ act okσ hH yK;rw[<-p1];refine wp_mono (r σ1 act p4 p2 p5) ?_;rintro e' a' w' ⟨rfl,σ2,q1,q2,q3,q4,q5⟩;exact⟨rfl,σ2,q1,q2,p3.trans q3,q4,q5⟩
   split at g3
   ·rename_i he;rw[he] at k3;obtain⟨ex2,a2,h2,k4,k5,k6⟩:=V9 ok y _ _ _ _ _ (Zl9 g2) hy (Zyx hb0) g3;exact⟨_,_,_,k4,k5,Zyv k3 k6⟩
   ·rename_i hne
    exact⟨_,_,_,g3,Zl9 g2,ZuZ hne k3⟩
 |.cond c x y,n,m,a,h,K,hN,hl,hb0,k=>by
  have hx:=Zyy (x:=x) (y:=y) rfl hl;have hy:=Zu3 (x:=x) (y:=y) rfl hl;have bx:=ZFH (x:=x) (y:=y) rfl hb0;have bY:=ZDy (x:=x) (y:=y) rfl hb0;unfold evT at k;obtain⟨b,k0,k⟩:=yf.1 k;obtain⟨d,k00,k01⟩:=yf.1 k0;have hc:=Zv (L:=lk h) k00;rw[Zix k01] at hc;split at k
  ·rename_i t;cases k00;have e:=Zyo k01;split at k
   ·rename_i hb;subst hb;rw[set_same e] at k;obtain⟨ex,a1,h1,k1,k2,k3⟩:=V9 ok x _ _ _ _ _ hN hx bx k;exact⟨_,_,_,k1,k2,Zmb hc k3⟩
   ·rename_i hb;have hb:b=false:=by simpa using hb
    subst hb;rw[set_same e] at k;obtain⟨ex,a1,h1,k1,k2,k3⟩:=V9 ok y _ _ _ _ _ hN hy bY k;exact⟨_,_,_,k1,k2,Zmb hc k3⟩
  ·split at k
   ·rename_i hb;subst hb;obtain⟨ex,a1,h1,k1,k2,k3⟩:=V9 ok x _ _ _ _ _ hN hx bx k;exact⟨_,_,_,k1,k2,Zmb hc k3⟩
   ·rename_i hb;have hb:b=false:=by simpa using hb
    subst hb;obtain⟨ex,a1,h1,k1,k2,k3⟩:=V9 ok y _ _ _ _ _ hN hy bY k
    exact⟨_,_,_,k1,k2,Zmb hc k3⟩
 |.block id body,n,m,a,h,K,hN,hl,hb0,k=>by
  unfold evT at k;obtain⟨ex,a1,h1,k1,k2,k3⟩:=V9 ok body _ _ _ _ _ hN hl hb0 k
  exact⟨_,_,_,k1,k2,ZAx k3⟩
 |.scope body,n,m,a,h,K,hN,hl,hb0,k=>by
  unfold evT at k;obtain⟨ex,a1,h1,k1,k2,k3⟩:=V9 ok body _ _ _ _ _ hN hl hb0 k
  exact⟨_,_,_,k1,k2,ZAy k3⟩
 |.loop body,n,m,a,h,K,hN,hl,hb0,k=>by
  unfold evT at k;split at k
  ·rename_i lpv hlp;obtain⟨lp,v⟩:=lpv;obtain⟨hlp,vs,j1,j2⟩:=ZhE hlp;dsimp only at hlp j1 j2 k;obtain⟨o,j3,k⟩:=yf.1 k;obtain⟨e,vs',s,g1,g2,g3⟩:=Zq6 k;obtain⟨a3,h3,j4,j5⟩:=Zu2 rfl j1;have hok:=hl 0 body rfl lp (by rw[Nat.add_zero];exact hlp);rw[hN] at g2 j4;have e1:=ZhD _ _ _ j2;have r:=hok v o j3 (a3,h3) (by rw[e1];exact j4) e vs' s g1 g2;refine⟨_,_,_,g3,Zl9 g2, ?_⟩;intro σ act okσ hH yK;obtain⟨σ1,p1,p2,p3,p4,p5⟩:=j5 σ act okσ hH yK;rw[<-p1];refine wp_mono (r σ1 act p4 p2 p5) ?_;rintro e' a' w' ⟨rfl,σ2,q1,q2,q3,q4,q5⟩;exact⟨rfl,σ2,q1,q2,p3.trans q3,q4,q5⟩
  ·have hl1:ZmF P fi N body (n+1):=λk b hk lp hl2=>hl (k+1) b (by rw[ZO,ybb];exact hk) lp (by rw[show n+(k+1)=n+1+k by omega];exact hl2);obtain⟨ex,a1,h1,k1,k2,k3⟩:=Zp7 (λa h K out hN k=>V9 ok body _ _ _ _ K hN hl1 hb0 k) _ _ _ _ _ hN k
   exact⟨ex,a1,h1,k1,k2,ZuC k3⟩
 |.rangeFunc _ _ _ _,_,_,_,_,_,_,_,_,k=>by cases k
 |.goto _,_,_,_,_,_,_,_,_,k=>by cases k
 |.refuse _,_,_,_,_,_,_,_,_,k=>by cases k
theorem Zyz{α:Type}{l:yL α}{i:Nat}{x:α}(h:l[i]? =some x):l.set i x=l:=by
 apply ybk;intro j;rw[ybq];split
 ·rename_i e;subst e;rw[h,yW (yo.1 h).1]
 ·rfl
theorem Zsv{σ σ':Sg}(hl:∀d vs,yG σ d vs->yG σ' d vs){x y:Dv}(hxy:∀vs,yG σ x vs->yG σ' y vs):∀(xs:yL Dv)(i:Nat),xs[i]? =some x->∀vs,repDs σ xs vs->repDs σ' (xs.set i y) vs
 |[],i,h,_,_=>by simp at h
 |z::r,0,h,vs,k=>by
  simp only[ybx,yq] at h;subst h;simp only[repDs,List.set_cons_zero] at k ⊢;obtain⟨us,us',e,h1,h2⟩:=k;refine⟨us,us',e,hxy us h1, ?_⟩;clear e h1
  induction r generalizing us' with
  |nil=>simpa only[repDs] using h2
  |cons w r ih=>
   simp only[repDs] at h2 ⊢;obtain⟨a,b,e,h3,h4⟩:=h2
   exact⟨a,b,e,hl _ _ h3,ih _ h4⟩
 |z::r,i+1,h,vs,k=>by
  simp only[ybb] at h;simp only[repDs,List.set_cons_succ] at k ⊢;obtain⟨us,us',e,h1,h2⟩:=k;exact⟨us,us',e,hl _ _ h1,Zsv hl hxy r i h us' h2⟩
theorem Zsw{x y:Dv}(e:y.size=x.size):∀(xs:yL Dv)(i:Nat),xs[i]? =some x->Dv.sizes (xs.set i y)=Dv.sizes xs
 |[],i,h=>by simp at h
 |z::r,0,h=>by
  simp only[ybx,yq] at h;subst h
  simp only[List.set_cons_zero,Dv.sizes,e]
 |z::r,i+1,h=>by
  simp only[ybb] at h;simp only[List.set_cons_succ,Dv.sizes,Zsw e r i h]
theorem ZyA{n:Nat}:∀{ds:yL TD}{i:Nat}{x:TD},TD.frees n ds=true->ds[i]? =some x->x.free n=true
 |[],i,x,_,h=>by simp at h
 |y::r,0,x,hf,h=>by
  simp only[TD.frees,yi] at hf;simp only[ybx,yq] at h;rw[<-h]
  exact hf.1
 |y::r,i+1,x,hf,h=>by
  simp only[TD.frees,yi] at hf;exact ZyA hf.2 (by simpa using h)
theorem ZHZ{h:yL TEnt}{j id i:Nat}{T:Ty}{v v':yL Unit}{st:Bool}{e:yb}{l:yL T.den}{ds:yL TD}{stt:Bool}
 (hj:h[j]? =some (.rowT T v st e l)) (hid:h[id]? =some (.var (.agg ds) stt)) (hi:ds[i]? =some (.rw j)) (hlt:v.length < v'.length)
 (fh:∀(q:Nat)(x:TEnt),q≠id->h[q]? =some x->x.free j=true) (fd:∀(q:Nat)(x:TD),q≠i->ds[q]? =some x->x.free j=true):
 (∀q t,q≠j->Ym (lk h) q t none=Ym (lk (h.set j (.rowT T v' st e l))) q t none)/\Zai (erH h) (erH (h.set j (.rowT T v' st e l))):=by
 have hc:∀q t,q≠j->Ym (lk h) q t none=Ym (lk (h.set j (.rowT T v' st e l))) q t none:=λq t hq=>by
  unfold Ym lk;rw[getElem?_set_ne' (Ne.symm hq)]
 refine⟨hc,λσ ok hH=> ?_⟩
 have hne:id≠j:=by
  rintro rfl;rw[hj] at hid;cases hid
 have hjl:j < σ.m.length:=by rw[ok.len,hH,Z1];exact(yo.1 hj).1
 have hil:id < σ.m.length:=by rw[ok.len,hH,Z1];exact(yo.1 hid).1
 obtain⟨mj,hmj⟩:∃x,σ.m[j]? =some x:=⟨_,yad hjl⟩;obtain⟨mi,hmi⟩:∃x,σ.m[id]? =some x:=⟨_,yad hil⟩;have eHj:σ.H[j]? =some (.row v.length T.size st e (.p (.arr l.length T.size (l.map T.enc)))):=by rw[hH];exact Yf hj
 have eHi:σ.H[id]? =some (.var ((TD.agg ds).er (lk h)) stt):=by rw[hH];exact Yf hid
 let σa:Sg:={ σ with H:=σ.H.set j (.row v'.length T.size st e (.p (.arr l.length T.size (l.map T.enc))))}
 obtain⟨toa,oka⟩:=XR (σ':=σa) (mi:=mj) (mi':=mj) ok eHj hmj rfl rfl rfl (Zyz hmj).symm rfl rfl rfl (yl _) (λ_ _ _=>rfl) (λ_ _ _ _ _ h=>h) (λ_ _ h=>h) (.inl rfl)
  (λ⟨_,_,h⟩=>by cases h) (λ⟨_,_,h⟩=>by cases h) (λ_ _ _ h=>by cases h) (λleaf=>by
    obtain⟨N,h1,h2⟩:=ok.ent j _ _ eHj hmj;refine⟨N,h1, ?_⟩;rcases h2 with h2|⟨b,cur,cap,a1,a2,a3,a4,a5,a6⟩
    ·exact .inl h2
    ·exact .inr ⟨b,cur,cap,a1,a2,a3,a4,a5,Yk leaf _ _ a6⟩) (λv0 s0 st0 e0 d0 h0=>by
    cases h0;exact⟨_,_,_,rfl,Nat.le_of_lt hlt,λq=>by omega⟩)
 have eHi':σa.H[id]? =some (.var ((TD.agg ds).er (lk h)) stt):=by
  show(σ.H.set j _)[id]? =_;rw[getElem?_set_ne' (Ne.symm hne)];exact eHi
 let σb:Sg:={ σa with H:=σa.H.set id (.var ((TD.agg ds).er (lk (h.set j (.rowT T v' st e l)))) stt)}
 have eHjb:σb.H[j]? =some (.row v'.length T.size st e (.p (.arr l.length T.size (l.map T.enc)))):=by
  show((σ.H.set j _).set id _)[j]? =_;rw[getElem?_set_ne' hne];exact getElem?_set_eq' eHj
 have hj':(h.set j (TEnt.rowT T v' st e l))[j]? =some (.rowT T v' st e l):=getElem?_set_eq' hj;have er1:(TD.rw j).er (lk h)=.rv j v.length T.size 0 l.length:=(Zc0 hj).1;have er2:(TD.rw j).er (lk (h.set j (.rowT T v' st e l)))=.rv j v'.length T.size 0 l.length:=(Zc0 hj').1
 have ers:TD.ers (lk (h.set j (.rowT T v' st e l))) ds=(TD.ers (lk h) ds).set i (.rv j v'.length T.size 0 l.length):=by
  apply ybk;intro q;rw[ybq];by_cases hq:i=q
  ·subst hq;rw[yW rfl,QW hi,er2,yW (by rw[Zce];exact(yo.1 hi).1)]
  ·rw[yX hq]
   cases hx:ds[q]? with
   |none=>
    have:=List.getElem?_eq_none_iff.1 hx
    rw[ybi (by rw[Zce];exact this),ybi (by rw[Zce];exact this)]
   |some x=>rw[QW hx,QW hx,Zcg hc x (fd q x (Ne.symm hq) hx)]
 obtain⟨tob,okb⟩:=XR (σ':=σb) (mi:=mi) (mi':=mi) oka eHi' hmi rfl rfl rfl (Zyz hmi).symm rfl rfl rfl (yl _) (λ_ _ _=>rfl) (λ_ _ _ _ _ h=>h) (λ_ _ h=>h) (.inl rfl)
  (λ_=>⟨rfl,_,_,rfl⟩) (λ⟨_,_,h⟩=>by cases h) (λ_ _ _ h=>by cases h) (λleaf=>by
    obtain⟨b,cs,t,a1,a2,a3,a4⟩:=ok.ent id _ _ eHi hmi
    have hsz:((TD.agg ds).er (lk (h.set j (.rowT T v' st e l)))).size=((TD.agg ds).er (lk h)).size:=by
     simp only[TD.er,Dv.size,ers];exact Zsw (x:=Dv.rv j v.length T.size 0 l.length) (y:=Dv.rv j v'.length T.size 0 l.length) rfl _ _ (by rw[QW hi,er1])
    refine⟨b,cs,t,a1,a2, ?_,by rw[hsz];exact a4⟩;rw[hsz];simp only[TD.er,yG] at a3 ⊢;rw[ers];refine Zsv (σ:=σ) (x:=Dv.rv j v.length T.size 0 l.length) (λd vs hd=>Yk leaf _ _ (Yk toa.leaf _ _ hd)) (λvs hd=> ?_) _ i (by rw[QW hi,er1]) _ a3;simp only[yG] at hd ⊢;obtain⟨A,c,g1,g2,g3,g4,g5,v0,s0,st0,e0,d0,g6,g7,g8⟩:=hd;rw[eHj] at g6;cases g6;obtain⟨g9,g10⟩:=g8 rfl;exact⟨A,c,g1,g2,g3,g4,g5,v'.length,T.size,st,e,_,eHjb,yl _,λ_=>⟨rfl,g10⟩⟩)
 refine⟨σb,rfl, ?_,toa.trans tob,okb⟩;apply ybk;intro q;show((σ.H.set j _).set id _)[q]? =_;by_cases hq:q=id
 ·subst hq;rw[Yf (by rw[getElem?_set_ne' (Ne.symm hne)];exact hid),getElem?_set_eq' eHi'];rfl
 ·by_cases hqj:q=j
  ·subst hqj;rw[Yf hj'];exact eHjb
  ·rw[getElem?_set_ne' (Ne.symm hq),getElem?_set_ne' (Ne.symm hqj),hH];unfold erH;rw[yal,yal,getElem?_set_ne' (Ne.symm hqj)]
   cases hx:h[q]? with
   |none=>rfl
   |some x=>
    rw[yaf,yaf,Zsb hc x (fh q x hq hx)]
theorem ZH0{σ σ1:Sg}(ok:Ok σ)(to:To σ σ1){k j:Nat}{yJ:yL Nat}{H:yL Ent}(hk:k < σ.H.length)(hj:σ.H.length<=j){v v2 s:Nat}{st st2:Bool}{e:yb}{d d2:Dv}
 (ek:σ1.H[k]? =some (.row v s st e d)) (ej:σ1.H[j]? =some (.row v2 s st2 e d2)) (hlt:v < v2) (ho:once ((yp σ.H.length).set k j++yJ)=true) (hr:yJ.contains k=false)
 (hin:subEnts σ1.H ((yp σ.H.length).set k j++yJ) ((yp σ.H.length).set k j++yJ)=some H):To σ (Zgo σ1 ((yp σ.H.length).set k j++yJ) H):=by
 have hp:∀id,id < σ.H.length->id≠k->((yp σ.H.length).set k j++yJ)[id]? =some id:=λid h hne=>by
  rw[yba (by simpa using h),getElem?_set_ne' (Ne.symm hne),List.getElem?_range h]
 have hpk:((yp σ.H.length).set k j++yJ)[k]? =some j:=by
  rw[yba (by simpa using hk)];exact getElem?_set_eq' (List.getElem?_range hk)
 have hf:∀id,id < σ.H.length->id≠k->toIds ((yp σ.H.length).set k j++yJ) id=some id:=λid h hne=>idxOf?_of ho (hp id h hne);have hfk:toIds ((yp σ.H.length).set k j++yJ) j=some k:=idxOf?_of ho hpk
 have hnk:∀q,((yp σ.H.length).set k j++yJ)[q]? ≠some k:=λq hq=>by
  rcases Nat.lt_or_ge q σ.H.length with h|h
  ·by_cases hqk:q=k
   ·subst hqk;rw[hpk] at hq;cases hq;omega
   ·rw[hp q h hqk] at hq;cases hq;exact hqk rfl
  ·rw[yat (by simpa using h)] at hq;have:=ybz hq;rw[Bool.eq_false_iff] at hr;exact hr (by simpa using this)
 have rn:=Zcd hin;refine⟨⟨λb o v h1 h2=> ?_,λid b h1 h2=> ?_,λid s len A c h1=> ?_,λid b h1 h2=> ?_,λid v s st e d h1=> ?_⟩,to.F,to.B,to.os,to.tape,to.output,to.size,λb h1 h2=>to.block b h1 h2,λid b h=> ?_, ?_⟩
 ·obtain⟨h3,h4⟩:=to.leaf.cells b o v h1 h2;exact⟨h3,rn.stab b o v h3 h4⟩
 ·have hlt:id < σ.H.length:=by rw[<-ok.len];exact(yo.1 h1).1
  obtain⟨h3,h4⟩:=to.leaf.var id b h1 h2;by_cases hne:id=k
  ·subst hne;obtain⟨d,st,h4⟩:=h4;rw[ek] at h4;cases h4
  ·exact⟨rn.m _ _ (hf id hlt hne) _ h3,rn.var (hf id hlt hne) h4⟩
 ·have hlt:id < σ.H.length:=by
   obtain⟨e,ys,h2,_⟩:=h1;exact(yo.1 h2).1
  have h3:=to.leaf.front _ _ _ _ _ h1;by_cases hne:id=k
  ·subst hne;obtain⟨e,ys,h4,_⟩:=h3;rw[ek] at h4;cases h4
  ·exact rn.front (hf id hlt hne) h3
 ·have hlt:id < σ.H.length:=by rw[<-ok.len];exact(yo.1 h1).1
  obtain⟨h3,h4⟩:=to.leaf.map id b h1 h2;by_cases hne:id=k
  ·subst hne;obtain⟨d,st,h4⟩:=h4;rw[ek] at h4;cases h4
  ·exact⟨rn.m _ _ (hf id hlt hne) _ h3,rn.map (hf id hlt hne) h4⟩
 ·have hl:id < σ.H.length:=(yo.1 h1).1;obtain⟨v',st',d',h5,h6,h7⟩:=to.leaf.row _ _ _ _ _ _ h1;by_cases hne:id=k
  ·subst hne;rw[ek] at h5;cases h5;obtain⟨d3,h8⟩:=rn.row hfk ej;exact⟨v2,st2,d3,h8,by omega,λq=>by omega⟩
  ·obtain⟨d2,h8⟩:=rn.row (hf id hl hne) h5;refine⟨v',st',d2,h8,h6,λhv=> ?_⟩;obtain⟨h9,h10⟩:=h7 hv;refine⟨?_,h10⟩;have hmm:∃x,σ.m[id]? =some x:=⟨_,yad (by rw[ok.len];exact hl)⟩;obtain⟨x,hx⟩:=hmm;rw[hx];exact rn.m _ _ (hf id hl hne) _ (by rw[h9];exact hx)
 ·obtain⟨x,h1,h2⟩:=ZaR h;rcases to.same x b h2 with h3|h3
  ·have hlt:x < σ.H.length:=by rw[<-ok.len];exact(yo.1 h3).1
   by_cases hne:x=k
   ·subst hne;exact absurd h1 (hnk _)
   ·have:=ZkQ ho _ _ _ h1 (hp x hlt hne);subst this;exact .inl h3
  ·exact .inr h3
 ·show σ.m.length<=(((yp σ.H.length).set k j++yJ).map _).length;rw[ok.len];simp
def ZIH(n:Nat):yO TD->Bool
 |some (.rw j)=>Nat.beq j n
 |_=>false
def sw1(n0 id i k:Nat)(a:yL TD)(h:yL TEnt):yO (yL TD×yL TEnt):=
 match h[id]?,h[k]?,h[n0]? with
 |some (.var (.agg ds) stt),some (.rowT T w st e l),some (.rowT U x st2 e2 m)=>
  if(Nat.ble (id+1) n0&&Nat.ble (k+1) n0&&decide (T.size=U.size)&&decide (e=e2)&&ZIH n0 ds[i]? &&TD.frees n0 a&&(h.set id .gone).all (TEnt.free n0)&&TD.frees n0 (ds.set i .junk)&&
   once ((yp n0).set k n0++yby (n0+1) (h.length - (n0+1)))&& !(yby (n0+1) (h.length - (n0+1))).contains k)=true then
   (WM (h.set n0 (.rowT U (()::(w++x)) st2 e2 m)) ((yp n0).set k n0++yby (n0+1) (h.length - (n0+1))) ((yp n0).set k n0++yby (n0+1) (h.length - (n0+1)))).bind λh2=>
     (TD.rns (toIds ((yp n0).set k n0++yby (n0+1) (h.length - (n0+1)))) a).map λa2=>(a2,h2)
  else none
 |_,_,_=>none
theorem ZFJ{n0 id i k:Nat}{a:yL TD}{h:yL TEnt}{q:yL TD×yL TEnt}(hs:sw1 n0 id i k a h=some q){c:Code}{ts:yL Dv}{H:yL Ent}{ex:Ex}(hn:H.length=n0)
 (r:Wt P c ts H ex (TD.ers (lk h) a) (erH h)):Wt P c ts H ex (TD.ers (lk q.2) q.1) (erH q.2):=by
 unfold sw1 at hs;split at hs
 ·rename_i ds stt T w st e l U x st2 e2 m h1 h2 h3;split at hs
  ·rename_i hb;simp only[yi,yP,Bool.not_eq_true'] at hb;obtain⟨⟨⟨⟨⟨⟨⟨⟨⟨b1,b2⟩,b3⟩,b4⟩,b5⟩,b6⟩,b7⟩,b8⟩,b9⟩,b10⟩:=hb;have b1:=Nat.le_of_ble_eq_true b1;have b2:=Nat.le_of_ble_eq_true b2;subst b4;obtain⟨h',k1,hs⟩:=yf.1 hs;obtain⟨a',k2,rfl⟩:=Zg hs
   have hi:ds[i]? =some (.rw n0):=by
    unfold ZIH at b5;split at b5
    ·rename_i j hj;rw[hj,Nat.eq_of_beq_eq_true b5]
    ·cases b5
   obtain⟨hc,gs⟩:=ZHZ (v':=()::(w++x)) h3 h1 hi (by simp;omega) (λq y hq hy=>by
    have:y∈h.set id .gone:=ybz (i:=q) (by rw[getElem?_set_ne' (Ne.symm hq)];exact hy);exact ybs.1 b7 y this) (λq y hq hy=>ZyA b8 (i:=q) (by rw[getElem?_set_ne' (Ne.symm hq)];exact hy))
   intro σ act ok hH yK;have zB:σ.H.length=n0:=by rw[hH,hn]
   refine wp_mono (r σ act ok hH yK) ?_;rintro e' a1 w' ⟨rfl,σ1,rfl,g1,to1,ok1,hrep1⟩;obtain⟨σ2,e1,e2,to2,ok2⟩:=gs σ1 ok1 g1;have hrep2:=hrep1.to to2.leaf;rw[ers_free hc a b6] at hrep2;have hin:=W4 (ZbL k1) k1;rw[<-e2, <-zB] at hin;rw[<-zB] at b9 b10 k2 b2 h3;have ho:=b9;refine⟨rfl,Zgo σ2 ((yp σ.H.length).set k σ.H.length++yby (σ.H.length+1) (h.length - (σ.H.length+1))) (erH h'),e1,rfl,ZH0 ok (to1.trans to2) b2 (yl _) (v:=w.length) (v2:=(()::(w++x)).length) (s:=T.size) (st:=st) (st2:=st2) (e:=e) (d:=.p (.arr l.length T.size (l.map T.enc))) (d2:=.p (.arr m.length U.size (m.map U.enc))) ?_ ?_ (by simp;omega) ho b10 hin,ZnQ ok2 ho hin, ?_⟩
   ·rw[e2];have:k≠n0:=by omega
    exact Yf (e:=.rowT T w st e l) (by rw[getElem?_set_ne' (Ne.symm this)];exact h2)
   ·rw[e2,b3];exact Yf (e:=.rowT U (()::(w++x)) st2 e m) (by rw[zB] at h3 ⊢;exact getElem?_set_eq' h3)
   ·refine ZkX (Zcd hin) (ts:=TD.ers (lk (h.set n0 (.rowT U (()::(w++x)) st2 e m))) a) ?_ hrep2;rw[zB] at k2 ⊢;exact rns_er (ZbL k1) _ _ k2
  ·cases hs
 ·cases hs
def sws(n0:Nat):yL (Nat×Nat×Nat×Nat)->yL TD->yL TEnt->yO (yL TD×yL TEnt)
 |[],a,h=>some (a,h)
 |x::r,a,h=>(sw1 n0 x.1 x.2.1 x.2.2.1 a h).bind λq=>sws n0 r q.1 q.2
theorem ZyB{n0:Nat}:∀{l:yL (Nat×Nat×Nat×Nat)}{a:yL TD}{h:yL TEnt}{q:yL TD×yL TEnt},sws n0 l a h=some q->∀{c:Code}{ts:yL Dv}{H:yL Ent}{ex:Ex},H.length=n0->
 Wt P c ts H ex (TD.ers (lk h) a) (erH h)->Wt P c ts H ex (TD.ers (lk q.2) q.1) (erH q.2)
 |[],a,h,q,hs,c,ts,H,ex,hn,r=>by
  cases hs
  exact r
 |x::l,a,h,q,hs,c,ts,H,ex,hn,r=>by
  obtain⟨y,h1,h2⟩:=yf.1 hs;exact ZyB h2 hn (ZFJ h1 hn r)
def ZH1(n0 id:Nat):Nat->yL Sh->yL TD->yL (Nat×Nat×Nat×Nat)
 |i,.rw k::ss,.rw j::ds=>if Nat.ble n0 j=true then(id,i,k,j)::ZH1 n0 id (i+1) ss ds else ZH1 n0 id (i+1) ss ds
 |i,_::ss,_::ds=>ZH1 n0 id (i+1) ss ds
 |_,_,_=>[]
def swL(n0:Nat):Nat->yL ESh->yL TEnt->yL (Nat×Nat×Nat×Nat)
 |id,.var (.agg ss) _::es,.var (.agg ds) _::h=>ZH1 n0 id 0 ss ds++swL n0 (id+1) es h
 |id,_::es,_::h=>swL n0 (id+1) es h
 |_,_,_=>[]
def ZKN(n0:Nat)(sl:Slots)(es:yL ESh)(sw:yL (Nat×Nat×Nat×Nat))(a:yL TD)(h:yL TEnt):yO (yL TV):=
 if once (yp n0++sw.map λx=>x.2.2.2) then(WM h (yp n0++sw.map λx=>x.2.2.2) (yp n0++sw.map λx=>x.2.2.2)).bind λh2=>
  (TD.rns (toIds (yp n0++sw.map λx=>x.2.2.2)) (Zci (sl.map (·.1)) 0 a)).bind λa2=>(sws n0 sw a2 h2).bind λq=>if Nat.beq q.1.length a.length=true then ZDx n0 sl es q.1 q.2 else none
 else none
def ZAC(n0:Nat)(sl:Slots)(es:yL ESh)(a:yL TD)(h:yL TEnt):yO (yL TV):=
 match swL n0 0 es h with
 |[]=>ZDx n0 sl es a h
 |x::r=>ZKN n0 sl es (x::r) a h
theorem Zu4{n0:Nat}{sl:Slots}{es:yL ESh}{a:yL TD}{h:yL TEnt}{vs:yL TV}(k:ZAC n0 sl es a h=some vs):
 ∃a3 h3,VY a.length sl es vs=some (a3,h3)/\∀{c:Code}{ts:yL Dv}{H:yL Ent}{ex:Ex},H.length=n0->Wt P c ts H ex (TD.ers (lk h) a) (erH h)->Wt P c ts H ex (TD.ers (lk h3) a3) (erH h3):=by
 unfold ZAC at k;split at k
 ·exact Zu1 k
 ·rename_i x r hx;unfold ZKN at k;split at k
  ·rename_i ho;obtain⟨h2,h1,k⟩:=yf.1 k;obtain⟨a2,e2,k⟩:=yf.1 k;obtain⟨q,e3,k⟩:=yf.1 k;split at k
   ·rename_i hl;obtain⟨a3,h3,g1,g2⟩:=Zu1 (P:=P) k;rw[Nat.eq_of_beq_eq_true hl] at g1;refine⟨a3,h3,g1,λ{c ts H ex}hn rr=>g2 hn (ZyB e3 hn ?_)⟩;have r1:=Zu0 (sl.map (·.1)) rr;rw[<-Zgu] at r1;exact ZuE [] _ r1 (by rw[hn];exact ho) (by rw[hn];exact W4 (ZbL h1) h1) (by rw[hn];exact rns_er (ZbL h1) _ _ e2)
   ·cases k
  ·cases k
end
end Go.Ev
end
section
namespace Go.Ev
def Zf{I X:Type}(step:I->yO (I⊕X)):Nat->I->yO X
 |0,_=>none
 |n+1,i=>(step i).bind λr=>match r with
  |.inl j=>Zf step n j
  |.inr x=>some x
theorem ZFK:∃n:Nat,n=18446744073709551616:=⟨_,rfl⟩
noncomputable def yD:Nat:=Classical.choose ZFK
theorem ZfI:yD=18446744073709551616:=Classical.choose_spec ZFK
section
variable{P:yg}
def ZH2(n0:Nat)(ex:Ex)(a:yL TD)(h:yL TEnt):(l:yL XSh)->yO (XSh.sum l)
 |[]=>none
 |[e]=>if ex=e.ex then(ZAC n0 e.sl e.es a h).bind λvs=>toD e.ty vs else none
 |e::f::r=>match (if ex=e.ex then(ZAC n0 e.sl e.es a h).bind λvs=>toD e.ty vs else none) with
  |some x=>some (Sum.inl x:Ty.dens e.ty⊕XSh.sum (f::r))
  |none=>(ZH2 n0 ex a h (f::r)).map λx=>(Sum.inr x:Ty.dens e.ty⊕XSh.sum (f::r))
theorem Zu5{n0:Nat}{ex:Ex}{a:yL TD}{h:yL TEnt}:∀{l:yL XSh}{o:XSh.sum l},ZH2 n0 ex a h l=some o->∀e vs,ZAo l o e vs->ex=e.ex/\ZAC n0 e.sl e.es a h=some vs
 |[],_,k,_,_,_=>by cases k
 |[e],o,k,x,vs,hs=>by
  obtain⟨rfl,rfl⟩:=hs;have k:(if ex=x.ex then(ZAC n0 x.sl x.es a h).bind λvs=>toD x.ty vs else none)=some o:=k
  split at k
  ·rename_i he;obtain⟨ws,h1,h2⟩:=yf.1 k;exact⟨he,by rw[h1,ZhD _ _ _ h2]⟩
  ·cases k
 |e::f::r,o,k,x,vs,hs=>by
  simp only[ZH2] at k;split at k
  ·rename_i y hy;cases k;obtain⟨rfl,rfl⟩:=hs;split at hy
   ·rename_i he;obtain⟨ws,h1,h2⟩:=yf.1 hy;exact⟨he,by rw[h1,ZhD _ _ _ h2]⟩
   ·cases hy
  ·obtain⟨y,h1,h2⟩:=Zg k;subst h2;exact Zu5 h1 x vs hs
def Zu6(P:yg)(fi:FI)(specs:Sp P)(body:Code)(n N:Nat)(sl:Slots)(es:yL ESh)(I:yL Ty)(xs:yL XSh):Ty.dens I->yO (Ty.dens I⊕XSh.sum xs):=λv=>
 (VY N sl es (ofD I v)).bind λs=>evT P fi specs body (n+1) 0 s.1 s.2 λex a h=>match ex with
   |.normal=>(ZAC s.2.length sl es a h).bind λvs=>(toD I vs).map .inl
   |ex=>(ZH2 s.2.length ex a h xs).map .inr
theorem ZFL{fi:FI}{specs:Sp P}{body:Code}{n N:Nat}{sl:Slots}{es:yL ESh}{I:yL Ty}{xs:yL XSh}(ok:SpOk specs)(hl:ZmF P fi N body (n+1))(hb0:Zke P fi N body 0):
 ∀(f:Nat)(v:Ty.dens I)(o:XSh.sum xs),Zf (Zu6 P fi specs body n N sl es I xs) f v=some o->∀s,VY N sl es (ofD I v)=some s->∀e vs s',ZAo xs o e vs->VY N e.sl e.es vs=some s'->
  Zuz P body (TD.ers (lk s.2) s.1) (erH s.2) e.ex (TD.ers (lk s'.2) s'.1) (erH s'.2)
 |0,_,_,h,_,_,_,_,_,_,_=>by cases h
 |f+1,v,o,h,s,hs,e,vs,s',hx,hs'=>by
  unfold Zf at h;obtain⟨r,h1,h2⟩:=yf.1 h;unfold Zu6 at h1;rw[hs,ya] at h1;obtain⟨ex,a,h3,k1,k2,k3⟩:=V9 ok body _ _ _ _ _ (Zl9 hs) hl hb0 h1;split at k1
  ·obtain⟨ws,g1,k1⟩:=yf.1 k1;obtain⟨w,g2,rfl⟩:=Zg k1;obtain⟨a3,h4,g3,g4⟩:=Zu4 (P:=P) g1;rw[k2] at g3;have r1:=g4 (Z1 _) k3;have:=ZFL ok hl hb0 f w o h2 (a3,h4) (by rw[ZhD _ _ _ g2];exact g3) e vs s' hx hs';exact ZuB [] r1 this
  ·rename_i hne;obtain⟨w,g2,rfl⟩:=Zg k1;cases h2;obtain⟨g5,g6⟩:=Zu5 g2 e vs hx;obtain⟨a3,h4,g3,g4⟩:=Zu4 (P:=P) g6;rw[k2,hs'] at g3;cases g3;subst g5;exact ZuA hne (g4 (Z1 _) k3)
theorem ZKO{fi:FI}{specs:Sp P}{body:Code}{n N:Nat}{sl:Slots}{es:yL ESh}{I:yL Ty}{xs:yL XSh}{step:Ty.dens I->yO (Ty.dens I⊕XSh.sum xs)}(f:Nat)(ok:SpOk specs)(hl:ZmF P fi N body (n+1))(hb0:Zke P fi N body 0)
 (h:∀v,Zu6 P fi specs body n N sl es I xs v=step v):Lp.Ok P N body ⟨sl,es,I,xs,Zf step f⟩:=by
 intro v o hL s hs e vs s' hx hs';have e1:Zu6 P fi specs body n N sl es I xs=step:=funext h;subst e1;exact ZuC (ZFL ok hl hb0 f v o hL s hs e vs s' hx hs')
theorem Zel:∀(c:Code)(k:Nat)(b:Code),(ZO c)[k]? =some (.loop b)->∀j x,(ZO b)[j]? =some x->(ZO c)[k+1+j]? =some x
 |.seq x y,k,b,h,j,z,hz=>by
  simp only[ZO] at h ⊢;rcases Nat.lt_or_ge k (ZO x).length with hl|hl
  ·rw[yba hl] at h;have:=Zel x k b h j z hz;grind
  ·rw[yat hl] at h;have:=Zel y _ b h j z hz
   grind
 |.cond _ x y,k,b,h,j,z,hz=>by
  simp only[ZO] at h ⊢;rcases Nat.lt_or_ge k (ZO x).length with hl|hl
  ·rw[yba hl] at h;have:=Zel x k b h j z hz;grind
  ·rw[yat hl] at h;have:=Zel y _ b h j z hz
   grind
 |.block _ a,k,b,h,j,z,hz=>Zel a k b h j z hz
 |.scope a,k,b,h,j,z,hz=>Zel a k b h j z hz
 |.loop a,k,b,h,j,z,hz=>by
  simp only[ZO] at h ⊢
  cases k with
  |zero=>
   simp only[ybx,yq,Code.loop.injEq] at h;subst h;rw[show 0+1+j=j+1 by omega,ybb]
   exact hz
  |succ k=>
   rw[ybb] at h;rw[show k+1+1+j=(k+1+j)+1 by omega,ybb]
   exact Zel a k b h j z hz
 |.skip,_,_,h,_,_,_=>by simp[ZO] at h
 |.region _ _ _,_,_,h,_,_,_=>by simp[ZO] at h
 |.rangeFunc _ _ _ _,_,_,h,_,_,_=>by simp[ZO] at h
 |.exit _,_,_,h,_,_,_=>by simp[ZO] at h
 |.ret,_,_,h,_,_,_=>by simp[ZO] at h
 |.label _,_,_,h,_,_,_=>by simp[ZO] at h
 |.goto _,_,_,h,_,_,_=>by simp[ZO] at h
 |.refuse _,_,_,h,_,_,_=>by simp[ZO] at h
def Zp8(P:yg)(g:yw)(N:Nat):yL (Nat×Lp)->Prop
 |[]=>True
 |q::r=>q.2.Ok P N (Zbq P g q.1)/\Zp8 P g N r
theorem Zpl{g:yw}{N:Nat}:∀{l:yL (Nat×Lp)}{n:Nat}{lp:Lp},Zp8 P g N l->(n,lp)∈l->lp.Ok P N (Zbq P g n)
 |[],_,_,_,h=>by cases h
 |q::r,n,lp,hk,h=>by
  rcases yci.1 h with h|h
  ·subst h;exact hk.1
  ·exact Zpl hk.2 h
def ZjB(P:yg)(g:yw):Code:=
 match P.funcs[g]? with
 |some fn=>fn.body.getD .skip
 |none=>.skip
theorem Zpm{g:yw}{k:Nat}{b:Code}(h:(ZO (ZjB P g))[k]? =some (.loop b)):Zbq P g k=b:=by
 unfold Zbq ZEF;unfold ZjB at h;split at h
 ·rename_i fn hf;rw[hf];dsimp only
  cases hb:fn.body with
  |none=>rw[hb] at h;simp[ZO] at h
  |some c=>
   rw[hb] at h;dsimp only[Option.getD] at h ⊢;rw[ydf,h];rfl
 ·simp[ZO] at h
theorem ZH3{g:yw}{fi:FI}{N:Nat}(h:Zp8 P g N fi.lp):ZmF P fi N (ZjB P g) 0:=by
 intro k b hk lp hl;rw[yay] at hl;rw[<-Zpm hk];exact Zpl h hl
theorem ZFM{g:yw}{fi:FI}{N k:Nat}(hk:(ZO (ZjB P g))[k]? =some (.loop (Zbq P g k)))(h:Zp8 P g N fi.lp):ZmF P fi N (Zbq P g k) (k+1):=by
 intro j b hj lp hl;have:=Zel _ _ _ hk j _ hj;rw[<-Zpm this];exact Zpl h hl
def Zoe(P:yg)(g k:Nat):Bool:=
 match (ZO (ZjB P g))[k]? with
 |some (.loop _)=>true
 |_=>false
theorem ZtQ{g k:Nat}(h:Zoe P g k=true):(ZO (ZjB P g))[k]? =some (.loop (Zbq P g k)):=by
 unfold Zoe at h;split at h
 ·rename_i b hb;rw[hb,Zpm hb]
 ·cases h
def ZFN(c:Code)(m:Nat):Code:=((Va c)[m]?).getD .skip
def ZyC(P:yg)(N:Nat)(c:Code):yL (Nat×Lp)->Prop
 |[]=>True
 |q::r=>q.2.Is P N (ZFN c q.1)/\ZyC P N c r
theorem Zu7{N:Nat}{c:Code}:∀{l:yL (Nat×Lp)}{m:Nat}{bk:Lp},ZyC P N c l->(m,bk)∈l->bk.Is P N (ZFN c m)
 |[],_,_,_,h=>by cases h
 |q::r,m,bk,hk,h=>by
  rcases yci.1 h with h|h
  ·subst h;exact hk.1
  ·exact Zu7 hk.2 h
theorem ZBX{fi:FI}{N:Nat}{c:Code}(h:ZyC P N c fi.bk):Zke P fi N c 0:=by
 intro k x hk bk hl;rw[yay] at hl;have:=Zu7 h hl;unfold ZFN at this;grind
theorem ZwH{fi:FI}{specs:Sp P}{g k N:Nat}{sl:Slots}{es:yL ESh}{I:yL Ty}{xs:yL XSh}{step:Ty.dens I->yO (Ty.dens I⊕XSh.sum xs)}(ok:SpOk specs)(hl:Zp8 P g N fi.lp:=by exact True.intro)(hk:Zoe P g k=true:=by kernel_rfl)
 (h:∀v,Zu6 P fi specs (Zbq P g k) k N sl es I xs v=step v:=by intro v;kernel_rfl) (hb:ZyC P N (Zbq P g k) fi.bk:=by exact True.intro):Lp.Ok P N (Zbq P g k) ⟨sl,es,I,xs,Zf step yD⟩:=
 ZKO yD ok (ZFM (ZtQ hk) hl) (ZBX hb) h
def ZyD{O:Type}(P:yg)(a:yL TD)(h:yL TEnt):yL ResultVar->(yL TD->yL Hint->yO O)->yO O
 |[],K=>K [] []
 |.tmp t::r,K=>ZyD P a h r λds hs=>K (a.getD t .junk::ds) hs
 |.cell t ty::r,K=>match a.getD t .junk with
  |.ref id yM=>(Zr5 h id).bind λd=>gpT (lk h) yM d λsub hs _=>if okT P ty (sub.er (lk h))=true then ZyD P a h r λds hs'=>K (sub::ds) (hs++hs') else none
  |_=>none
theorem Zmc{O:Type}{a:yL TD}{h:yL TEnt}{out:O}:∀(l:yL ResultVar)(K:yL TD->yL Hint->yO O),ZyD P a h l K=some out->∃ds hs C,K ds hs=some out/\AllP C/\∀yJ,Ztz P (TD.ers (lk h) a) (erH h) l (hs++yJ)=some (C,TD.ers (lk h) ds)
 |[],K,k=>⟨[],[],[],k,zY,λ_=>rfl⟩
 |.tmp t::r,K,k=>by
  obtain⟨ds,hs,C,k1,k2,k3⟩:=Zmc r _ k;refine⟨_,_,C,k1,k2,λyJ=> ?_⟩
  simp only[Ztz,k3 yJ,yaf,ZnW,TD.ers]
 |.cell t ty::r,K,k=>by
  unfold ZyD at k;split at k
  ·rename_i id yM hx;obtain⟨d,h1,k⟩:=yf.1 k;obtain⟨st,h2,h3⟩:=Zgq h1;obtain⟨sub,hs,put,C,g1,g2,g3,_⟩:=Wy _ _ _ _ k;obtain⟨g4,g5⟩:=Zc g1;obtain⟨ds,hs',C',k1,k2,k3⟩:=Zmc r _ g5;refine⟨_,_,C++[Zb2 yM=Vu yM]++C',k1,Zk.2 ⟨Zk.2 ⟨g2,(WF _).symm,ytt⟩,k2⟩,λyJ=> ?_⟩;unfold Ztz;rw[ZnW,hx];dsimp only[TD.er];rw[h3];dsimp only;rw[yx,g3 (hs'++yJ)];dsimp only;rw[yW g4,k3 yJ];rfl
  ·cases k
def ZtR:yL TD->TD
 |[d]=>d
 |ds=>.tup ds
theorem Zra{L:Lk}(ds:yL TD):(ZtR ds).er L=Zrh (TD.ers L ds):=by
 match ds with
 |[]=>rfl
 |[d]=>rfl
 |_::_::_=>rfl
def TD.arg(L:Lk):TD->TD
 |.own id nn t c=>.p (.sl nn t (Ym L id t c))
 |.agg ds=>TD.melt L ds
 |d=>d
theorem ZFO{L:Lk}(d:TD):(d.arg L).er L=(d.er L).arg:=by
 cases d <;> first|rfl|exact ZBw _
def ZJB(h:yL TEnt)(rs:Sh)(es:yL ESh)(n0:Nat)(r:TD):yO (yL Nat):=
 let l:=ZJv h es 0 ((yp n0).map (λi=>(i,i))++Sh.ids rs r)
 ((yp es.length).drop n0).mapM λj=>l.lookup j
def ZH4(h:yL TEnt)(n0:Nat)(ds:yL TD)(e:XSh):yO (Ty.dens e.ty):=
 match e.sl with
 |[(0,rs)]=>(ZJB h rs e.es n0 (ZtR ds)).bind λkeep=>
  if once (yp n0++keep) then(match Dv.rn (toIds (yp n0++keep)) ((ZtR ds).er (lk h)) with
   |some _=>(ZtR ds).rn (toIds (yp n0++keep))
   |none=>(ZtR (ds.map (TD.arg (lk h)))).rn (toIds (yp n0++keep))).bind λr=>
   (WM h (yp n0++keep) (yp n0++keep)).bind λh2=>(Sh.mt (lk h2) rs r).bind λq=>(ESh.mts (lk h2) e.es h2).bind λw=>toD e.ty (q.2++w.2)
  else none
 |_=>none
def ZyE(h:yL TEnt)(n0:Nat)(ds:yL TD):(l:yL XSh)->yO (XSh.sum l)
 |[]=>none
 |[e]=>ZH4 h n0 ds e
 |e::f::r=>match ZH4 h n0 ds e with
  |some x=>some (Sum.inl x:Ty.dens e.ty⊕XSh.sum (f::r))
  |none=>(ZyE h n0 ds (f::r)).map λx=>(Sum.inr x:Ty.dens e.ty⊕XSh.sum (f::r))
theorem Zsx{h:yL TEnt}{n0:Nat}{ds:yL TD}:∀{l:yL XSh}{o:XSh.sum l},ZyE h n0 ds l=some o->∀e vs,ZAo l o e vs->∃x,ZH4 h n0 ds e=some x/\vs=ofD e.ty x
 |[],_,k,_,_,_=>by cases k
 |[e],o,k,x,vs,hs=>by
  obtain⟨rfl,rfl⟩:=hs
  exact⟨o,k,rfl⟩
 |e::f::r,o,k,x,vs,hs=>by
  simp only[ZyE] at k;split at k
  ·rename_i y hy;cases k;obtain⟨rfl,rfl⟩:=hs;grind
  ·obtain⟨y,h1,h2⟩:=Zg k;subst h2;exact Zsx h1 x vs hs
def fnT(P:yg)(fi:FI)(specs:Sp P)(g:yw)(ps:yL Sh)(es:yL ESh)(ins:yL Ty)(xs:yL XSh):Ty.dens ins->yO (XSh.sum xs):=λx=>
 match P.funcs[g]? with
 |some fn=>match fn.body with
  |some c=>(Sh.fills ps (ofD ins x)).bind λq=>(ESh.fills es q.2).bind λw=>if w.2.isEmpty then
    evT P fi specs c 0 0 (q.1++yac (fn.ntmps - q.1.length) .junk) w.1 λex a h=>match ex with
     |.exit _=>none
     |_=>ZyD P a h fn.results.toList λds _=>ZyE h w.1.length ds xs
    else none
  |none=>none
 |none=>none
def ZjC(P:yg)(g:yw):Nat:=
 match P.funcs[g]? with
 |some fn=>fn.ntmps
 |none=>0
theorem ZiA{fi:FI}{specs:Sp P}{g:yw}{ps:yL Sh}{es:yL ESh}{ins:yL Ty}{xs:yL XSh}{M:Ty.dens ins->yO (XSh.sum xs)}(ok:SpOk specs)(hl:Zp8 P g (ZjC P g) fi.lp:=by exact True.intro)(hn:ps.length<=ZjC P g:=by decide+kernel)
 (h:∀x,fnT P fi specs g ps es ins xs x=M x:=by intro v;kernel_rfl) (hb:ZyC P (ZjC P g) (ZjB P g) fi.bk:=by exact True.intro):Fs.Ok (⟨g,ps,es,ins,xs,M⟩:Fs P):=by
 intro x o hM;have hM:M x=some o:=hM;rw[<-h x] at hM;have hl':=ZH3 hl;unfold fnT at hM;split at hM
 ·rename_i fn hf;split at hM
  ·rename_i c hb1;obtain⟨q,h1,hM⟩:=yf.1 hM;obtain⟨w,h2,hM⟩:=yf.1 hM;obtain⟨h3,hM⟩:=Zc hM;have hN:ZjC P g=fn.ntmps:=by unfold ZjC;rw[hf]
   have hc:ZjB P g=c:=by unfold ZjB;rw[hf];dsimp only;rw[hb1];rfl
   rw[hc,hN] at hl' hb;have hb0:=ZBX hb;rw[hN] at hn
   have zB:(q.1++yac (fn.ntmps - q.1.length) TD.junk).length=fn.ntmps:=by
    rw[yj,ycx,Zph h1];omega
   obtain⟨ex,a,hh,k1,k2,k3⟩:=V9 ok c _ _ _ _ _ zB hl' hb0 hM
   have hex:(ex=.ret\/ex=.normal)/\(ZyD P a hh fn.results.toList λds _=>ZyE hh w.1.length ds xs)=some o:=by
    cases ex with
    |exit _=>cases k1
    |normal=>exact⟨.inr rfl,k1⟩
    |ret=>exact⟨.inl rfl,k1⟩
   obtain⟨hex,k1⟩:=hex;obtain⟨ds,hs,C,g1,g2,g3⟩:=Zmc _ _ k1;refine⟨q.1,q.2,w.1,h1, ?_,λe vs s' hsel hfs=> ?_⟩
   ·grind
   obtain⟨o1,g1,hvs⟩:=Zsx g1 e vs hsel;unfold ZH4 at g1;split at g1
   case h_2=>cases g1
   rename_i rs hsl;obtain⟨keep,g4,g1⟩:=yf.1 g1;obtain⟨g5,g1⟩:=Zc g1;obtain⟨r,g6,g1⟩:=yf.1 g1;obtain⟨e2,g7,g1⟩:=yf.1 g1;obtain⟨z,g8,g1⟩:=yf.1 g1;obtain⟨y,g9,g1⟩:=yf.1 g1;obtain⟨b1,b2⟩:=Zk1 g9;have hcc:∀id t,Ym (lk e2) id t none=Ym (lk y.1) id t none:=λid t=>by rw[b2]
   have eo:=ZhD _ _ _ g1
   have efill:s'=([z.1],y.1):=by
    rw[hvs,eo,hsl] at hfs;unfold VY at hfs;rw[show shs [(0,rs)] 1=[rs] from rfl] at hfs
    simp only[Sh.fills,Zjy _ _ _ g8,ya,yaf] at hfs;have:=Zgt g9 [];grind
   subst efill;refine⟨z.1,rfl, ?_⟩
   have hfin:fin P fn (TD.ers (lk hh) a) (erH hh) (erH w.1).length keep hs=some (C,r.er (lk e2),erH e2):=by
    unfold fin;have:=g3 [];rw[yas] at this;rw[this];dsimp only;rw[Z1,g5, <-Zra,show subEnts (erH hh) _ _=some (erH e2) from W4 (ZbL g7) g7]
    split at g6
    ·rename_i r0 hr0;have e4:=Zk2 (ZbL g7) _ _ g6;rw[e4]
    ·rename_i hr0;have e4:=Zk2 (ZbL g7) _ _ g6;rw[Zra,ZP,ybe] at e4
     rw[hr0,show(TD.ers (lk hh) ds).map Dv.arg=ds.map (TD.er (lk hh) ∘ TD.arg (lk hh)) by
      rw[ZP,ybe];exact List.map_congr_left λd _=>(ZFO d).symm,e4]
   have zO:Wt P c (TD.ers (lk w.1) q.1++yac (fn.ntmps - (TD.ers (lk w.1) q.1).length) .junk) (erH w.1) ex (TD.ers (lk hh) a) (erH hh):=by
    have e5:TD.ers (lk w.1) (q.1++yac (fn.ntmps - q.1.length) TD.junk)=TD.ers (lk w.1) q.1++yac (fn.ntmps - (TD.ers (lk w.1) q.1).length) .junk:=by
     rw[Zce,ZP,ZP,yau,List.map_replicate];rfl
    grind
   exact ZxP (Zhw hf hb1 zO hex hfin g2) (Zp3 hcc _ _ _ g8) (Zn9 hcc g9)
  ·cases hM
 ·cases hM
end
theorem ZwI{P:yg}{g:yw}{t:Ty}{xs:yL XSh}{MA:Ty.dens [.sl t]->yO (XSh.sum xs)}{MB:Ty.dens []->yO (XSh.sum xs)}(hA:Fs.Ok (⟨g,[.sl true t],[],[.sl t],xs,MA⟩:Fs P))(hB:Fs.Ok (⟨g,[.nil t],[],[],xs,MB⟩:Fs P))
 (h:MB ()=MA ([]:yL t.den)):Fs.Ok (⟨g,[.v (.sl t)],[],[.sl t],xs,MA⟩:Fs P):=by
 intro l o hM;have key:∀(l:yL t.den),Ty.cast (.sl t) (.sl t) l=some l:=λl=>YS (.sl t) l;obtain⟨a1,R1,H1,f1,f2,f3⟩:=hA l o hM
 have e1:a1=[.p (.sl (some true) t l)]/\R1=[]:=by
  have:Sh.fills [.sl true t] [(⟨.sl t,l⟩:TV)]=some (a1,R1):=f1;simp only[Sh.fills,Sh.fill] at this;grind
 obtain⟨rfl,rfl⟩:=e1;cases f2;refine⟨[.p (.v (.sl t) l)],[],[], ?_,rfl,λe vs s' hs hf=> ?_⟩
 ·show Sh.fills [.v (.sl t)] [(⟨.sl t,l⟩:TV)]=_;simp only[Sh.fills,Sh.fill];rw[key l];rfl
 ·obtain⟨r,r1,r2⟩:=f3 e vs s' hs hf;refine⟨r,r1, ?_⟩;refine ZBp (xs:=l.map t.enc) r2 λhl=> ?_;have hl:l=[]:=List.map_eq_nil_iff.1 hl;subst hl;obtain⟨a2,R2,H2,g1,g2,g3⟩:=hB () o (by rw[<-hM];exact h);cases g1;cases g2;obtain⟨r',r1',r2'⟩:=g3 e vs s' hs hf;rw[r1] at r1';cases r1';exact r2'
def Zsy(n:Int):yO (yL yB):=if(decide (0<=n)&&decide (n.toNat<=bytesBound))=true then some [] else none
theorem ZH5{P:yg}{g:yw}{e:yb}(h:∀n:Nat,n<=bytesBound->Con P g [.p (.sl (some false) 1 []),.p (.int .i64 (n:Int))] [] (.own 0 none 1 []) [.log 1 e []]):
 Fs.Ok (⟨g,[.nil .u8,.v (.int .i64)],[],[.int .i64],[⟨.ret,[(0,.own 0 .u8)],[.log .u8 e],[.sl .u8]⟩],Zsy⟩:Fs P):=by
 intro n o hM
 have key:∀(n:Int),Zsy n=some o->(0<=n/\n.toNat<=bytesBound)/\([]:yL yB)=o:=λn hM=>by
  unfold Zsy at hM;grind
 obtain⟨h1,h2⟩:=key n hM;cases h2;refine⟨[.p (.sl (some false) .u8 []),.p (.v (.int .i64) n)],[],[],rfl,rfl,λx vs s' hs hf=> ?_⟩;obtain⟨rfl,rfl⟩:=hs;cases hf;refine⟨_,rfl, ?_⟩;have:=h (Int.toNat n) h1.2;rw[Int.toNat_of_nonneg h1.1] at this;exact this
mutual
theorem Zpn:∀(s:Sh)(vs w:yL TV)(q:TD×yL TV),s.fill vs=some q->s.fill (vs++w)=some (q.1,q.2++w)
 |.v t,vs,w,q,h=>by
  cases vs with
  |nil=>cases h
  |cons x r=>
   obtain⟨y,h1,rfl⟩:=Zg (show(Ty.cast x.1 t x.2).map (λy=>((TD.p (.v t y),r):TD×yL TV))=some q from h)
   show(Ty.cast x.1 t x.2).map (λy=>((TD.p (.v t y),r++w):TD×yL TV))=_
   rw[h1];rfl
 |.elem t,vs,w,q,h=>by
  cases vs with
  |nil=>cases h
  |cons x r=>
   obtain⟨y,h1,rfl⟩:=Zg (show(Ty.cast x.1 t x.2).map (λy=>((TD.elem (.v t y),r):TD×yL TV))=some q from h)
   show(Ty.cast x.1 t x.2).map (λy=>((TD.elem (.v t y),r++w):TD×yL TV))=_
   rw[h1];rfl
 |.sl nn t,vs,w,q,h=>by
  cases vs with
  |nil=>cases h
  |cons x r=>
   obtain⟨y,h1,rfl⟩:=Zg (α:=(Ty.sl t).den) (show(Ty.cast x.1 (.sl t) x.2).map (λ(y:yL t.den)=>((TD.p (.sl (some nn) t y),r):TD×yL TV))=some q from h)
   show(Ty.cast x.1 (.sl t) x.2).map (λ(y:yL t.den)=>((TD.p (.sl (some nn) t y),r++w):TD×yL TV))=_
   rw[h1];rfl
 |.nil _,vs,w,q,h=>by cases h;rfl
 |.own _ _,vs,w,q,h=>by cases h;rfl
 |.ref _ _,vs,w,q,h=>by cases h;rfl
 |.mp _,vs,w,q,h=>by cases h;rfl
 |.rw _,vs,w,q,h=>by cases h;rfl
 |.rp j s p,vs,w,q,h=>by
  cases vs with
  |nil=>cases h
  |cons x r=>
   obtain⟨y,h1,rfl⟩:=Zg (α:=Int) (show(Ty.cast x.1 (.int .i64) x.2).map (λ(i:Int)=>((TD.rp j (.ix i.toNat s::p),r):TD×yL TV))=some q from h)
   show(Ty.cast x.1 (.int .i64) x.2).map (λ(i:Int)=>((TD.rp j (.ix i.toNat s::p),r++w):TD×yL TV))=_
   rw[h1];rfl
 |.view _ _ _ _ _,vs,w,q,h=>by cases h;rfl
 |.rv _ _ _ _ _,vs,w,q,h=>by cases h;rfl
 |.fn g l,vs,w,q,h=>by
  simp only[Sh.fill] at h ⊢;obtain⟨y,h1,rfl⟩:=Zg h
  rw[fills_more l vs w y h1];rfl
 |.agg l,vs,w,q,h=>by
  simp only[Sh.fill] at h ⊢;obtain⟨y,h1,rfl⟩:=Zg h
  rw[fills_more l vs w y h1];rfl
 |.arr n s l,vs,w,q,h=>by
  simp only[Sh.fill] at h ⊢;obtain⟨y,h1,rfl⟩:=Zg h
  rw[fills_more l vs w y h1];rfl
 |.tup l,vs,w,q,h=>by
  simp only[Sh.fill] at h ⊢;obtain⟨y,h1,rfl⟩:=Zg h
  rw[fills_more l vs w y h1];rfl
 |.iface t x,vs,w,q,h=>by
  simp only[Sh.fill] at h ⊢;obtain⟨y,h1,rfl⟩:=Zg h
  rw[Zpn x vs w y h1];rfl
 |.if2 t u x,vs,w,q,h=>by
  cases vs with
  |nil=>cases h
  |cons z r=>
   simp only[Sh.fill,yae] at h ⊢
   cases hb:Ty.cast z.1 .bool z.2 with
   |none=>rw[hb] at h;cases h
   |some b=>
    rw[hb] at h;obtain⟨y,h1,rfl⟩:=Zg h;show((Sh.fill x (r++w)).map _)=_
    rw[Zpn x r w y h1];rfl
 |.ptr0,vs,w,q,h=>by cases h;rfl
 |.fn0,vs,w,q,h=>by cases h;rfl
 |.if0,vs,w,q,h=>by cases h;rfl
 |.map0,vs,w,q,h=>by cases h;rfl
 |.junk,vs,w,q,h=>by cases h;rfl
theorem fills_more:∀(l:yL Sh)(vs w:yL TV)(q:yL TD×yL TV),Sh.fills l vs=some q->Sh.fills l (vs++w)=some (q.1,q.2++w)
 |[],vs,w,q,h=>by simp only[Sh.fills] at h;cases h;rfl
 |s::r,vs,w,q,h=>by
  simp only[Sh.fills] at h ⊢;obtain⟨a,h1,h⟩:=yf.1 h;obtain⟨b,h2,rfl⟩:=Zg h;rw[Zpn s vs w a h1,ya,fills_more r a.2 w b h2];rfl
end
theorem ZJC{P:yg}{g:yw}{t:Ty}{e:yb}{yJ:yL Sh}{i1 i2:yL Ty}{xs:yL XSh}{M:Ty.dens i2->yO (XSh.sum xs)}(pk:Ty.dens i1->Ty.dens i2)(h:Fs.Ok (⟨g,.own 0 t::yJ,[.log t e],i2,xs,M⟩:Fs P))
 (hp:∀x,ofD i2 (pk x)=ofD i1 x++[⟨.sl t,([]:yL t.den)⟩]) (hf:∀x,∃a,Sh.fills yJ (ofD i1 x)=some (a,[])):Fs.Ok (⟨g,.nil t::yJ,[],i1,xs,λx=>M (pk x)⟩:Fs P):=by
 intro x o hM;obtain⟨args,R,H,f1,f2,f3⟩:=h (pk x) o hM;obtain⟨a,ha⟩:=hf x;have f1:Sh.fills (.own 0 t::yJ) (ofD i2 (pk x))=some (args,R):=f1;rw[hp x] at f1;simp only[Sh.fills,Sh.fill,ya,fills_more yJ _ _ _ ha,yaf,yq,yab,List.nil_append] at f1;obtain⟨rfl,rfl⟩:=f1;have f2:((Ty.cast (.sl t) (.sl t) ([]:yL t.den)).map λ(y:yL t.den)=>((TEnt.log t e y,[]):TEnt×yL TV)).bind (λa=>(ESh.fills [] a.2).map λb=>(a.1::b.1,b.2))=some (H,[]):=f2;have key:Ty.cast (.sl t) (.sl t) ([]:yL t.den)=some ([]:yL t.den):=YS (.sl t) ([]:yL t.den);rw[key] at f2;cases f2;refine⟨.p (.sl (some false) t [])::a,[],[], ?_,rfl,λx' vs s' hs hf'=> ?_⟩
 ·show Sh.fills (.nil t::yJ) (ofD i1 x)=_;simp only[Sh.fills,Sh.fill,ya,ha,yaf]
 ·obtain⟨r,r1,r2⟩:=f3 x' vs s' hs hf';refine⟨r,r1, ?_⟩
  have e1:TD.ers (lk [.log t e []]) (.own 0 none t none::a)=.own 0 none t.size []::TD.ers (lk []) a:=by
   have e0:TD.ers (lk [.log t e []]) a=TD.ers (lk []) a:=(ers_cont (λid t'=>Zn5 (H:=[]) (T:=t) (e:=e) id t') a).symm;rw[TD.ers,e0];congr 1;rw[TD.er,show Ym (lk [.log t e []]) 0 t none=[] from Zf4 (H:=[])]
   rfl
  have r2:Con P g (TD.ers (lk [.log t e []]) (.own 0 none t none::a)) (erH [.log t e []]) (r.er (lk s'.2)) (erH s'.2):=r2;rw[e1] at r2;exact ZxQ (H:=[]) (e:=e) r2
section
variable{P:yg}
theorem fnO(h:HI)(lp:yL (Nat×Lp))(l:yL (Fs P))(a:AllOk l){g:yw}{ps:yL Sh}{es:yL ESh}{ins:yL Ty}{xs:yL XSh}{M:Ty.dens ins->yO (XSh.sum xs)}(hl:Zp8 P g (ZjC P g) lp:=by exact True.intro)(hn:ps.length<=ZjC P g:=by decide+kernel)
 (k:∀x,fnT P { hi:=h,lp:=lp} { l:=l} g ps es ins xs x=M x:=by intro v;kernel_rfl):Fs.Ok (⟨g,ps,es,ins,xs,M⟩:Fs P):=ZiA (okS a) hl hn k
abbrev Lp.okA(L:Lp)(P:yg)(g k:Nat):Prop:=L.Ok P (ZjC P g) (Zbq P g k)
theorem Zy(h:HI)(lp:yL (Nat×Lp))(l:yL (Fs P))(a:AllOk l){g k N:Nat}{sl:Slots}{es:yL ESh}{I:yL Ty}{xs:yL XSh}{step:Ty.dens I->yO (Ty.dens I⊕XSh.sum xs)}(hl:Zp8 P g N lp:=by exact True.intro)(hk:Zoe P g k=true:=by kernel_rfl)
 (h':∀v,Zu6 P { hi:=h,lp:=lp} { l:=l} (Zbq P g k) k N sl es I xs v=step v:=by intro v;kernel_rfl):Lp.Ok P N (Zbq P g k) ⟨sl,es,I,xs,Zf step yD⟩:=ZwH (okS a) hl hk h'
end
def ZBY(h:yL TEnt)(n0:Nat)(r:TD):yL Nat:=
 let got:=Zym h 100000 (r.look++yp n0) []
 ((yp h.length).drop n0).filter got.contains
def ZKP(P:yg)(H:yL TEnt)(t:yb)(d:TD):yO TD:=
 match d with
 |.p x=>some (.p x)
 |d=>(Zkr P tyD t).bind λT=>(ZFl H 100 T d).map λy=>.p (.v T y)
def ZJD(P:yg)(H:yL TEnt):yL yb->yL TD->yO (yL TD)
 |[],[]=>some []
 |t::r,d::ds=>match ZKP P H t d,ZJD P H r ds with
  |some a,some b=>some (a::b)
  |_,_=>none
 |_,_=>none
def ZJE{O:Type}(h:yL TEnt)(n0:Nat)(ds:yL TD)(K:TD->yL TEnt->yO O):yO O:=
 let keep:=ZBY h n0 (ZtR ds)
 if once (yp n0++keep) then(match Dv.rn (toIds (yp n0++keep)) ((ZtR ds).er (lk h)) with
  |some _=>(ZtR ds).rn (toIds (yp n0++keep))
  |none=>(ZtR (ds.map (TD.arg (lk h)))).rn (toIds (yp n0++keep))).bind λr=>
  (WM h (yp n0++keep) (yp n0++keep)).bind λh2=>K r h2
 else none
section
variable{P:yg}
def ZFP(P:yg)(his:yw->HI)(l:yL (Fs P))(mt:yL (yb×String×yw))(ghs:yw->yL (Nat×GOp)):Nat->(O:Type)->yw->yL TD->yL TEnt->(TD->yL TEnt->yO O)->yO O
 |0,_,_,_,_,_=>none
 |n+1,O,g,args,H,K=>match P.funcs[g]? with
  |some fn=>match fn.body with
   |some c=>if decide (args.length<=fn.ntmps)=true then
     evT P { hi:=his g,un:=1000000,gh:=ghs g} ⟨l,ZFP P his l mt ghs n,mt,[]⟩ c 0 0 (args++yac (fn.ntmps - args.length) .junk) H λex a h=>match ex with
      |.exit _=>none
      |_=>ZyD P a h fn.results.toList λds _=>ZJE h H.length ds λr h=>K r h
     else none
   |none=>none
  |none=>none
theorem ZBZ{his:yw->HI}{l:yL (Fs P)}{mt:yL (yb×String×yw)}{ghs:yw->yL (Nat×GOp)}(hl:AllOk l)(hm:MtOk P mt):∀(n:Nat),HdOk P (ZFP P his l mt ghs n)
 |0=>λ_ _ _ _ _ _ h=>by cases h
 |n+1=>λO g args H K out hM=>by
  unfold ZFP at hM;split at hM
  ·rename_i fn hf;split at hM
   ·rename_i c hb1;obtain⟨hn,hM⟩:=Zc hM;have hn:=yF hn
    have zB:(args++yac (fn.ntmps - args.length) TD.junk).length=fn.ntmps:=by
     rw[yj,ycx];omega
    obtain⟨ex,a,hh,k1,k2,k3⟩:=V9 (N:=fn.ntmps) (specs:=⟨l,ZFP P his l mt ghs n,mt,[]⟩) ⟨hl,ZBZ hl hm n,hm,ytt⟩ c _ _ _ _ _ zB (λk b hk lp h=>by cases h) (λk b hk lp h=>by cases h) hM
    have hex:(ex=.ret\/ex=.normal)/\(ZyD P a hh fn.results.toList λds _=>ZJE hh H.length ds K)=some out:=by
     cases ex with
     |exit _=>cases k1
     |normal=>exact⟨.inr rfl,k1⟩
     |ret=>exact⟨.inl rfl,k1⟩
    obtain⟨hex,k1⟩:=hex;obtain⟨ds,hs,C,g1,g2,g3⟩:=Zmc _ _ k1;unfold ZJE at g1;dsimp only at g1;generalize ZBY hh H.length (ZtR ds)=keep at g1;obtain⟨g5,g1⟩:=Zc g1;obtain⟨r,g6,g1⟩:=yf.1 g1;obtain⟨e2,g7,g1⟩:=yf.1 g1;refine⟨_,_,g1, ?_⟩
    have hfin:fin P fn (TD.ers (lk hh) a) (erH hh) (erH H).length keep hs=some (C,r.er (lk e2),erH e2):=by
     unfold fin;have:=g3 [];rw[yas] at this;rw[this];dsimp only;rw[Z1,g5, <-Zra,show subEnts (erH hh) _ _=some (erH e2) from W4 (ZbL g7) g7]
     split at g6
     ·rename_i r0 hr0;have e4:=Zk2 (ZbL g7) _ _ g6;rw[e4]
     ·rename_i hr0;have e4:=Zk2 (ZbL g7) _ _ g6;rw[Zra,ZP,ybe] at e4
      rw[hr0,show(TD.ers (lk hh) ds).map Dv.arg=ds.map (TD.er (lk hh) ∘ TD.arg (lk hh)) by
       rw[ZP,ybe];exact List.map_congr_left λd _=>(ZFO d).symm,e4]
    have zO:Wt P c (TD.ers (lk H) args++yac (fn.ntmps - (TD.ers (lk H) args).length) .junk) (erH H) ex (TD.ers (lk hh) a) (erH hh):=by
     have e5:TD.ers (lk H) (args++yac (fn.ntmps - args.length) TD.junk)=TD.ers (lk H) args++yac (fn.ntmps - (TD.ers (lk H) args).length) .junk:=by
      rw[Zce,ZP,ZP,yau,List.map_replicate];rfl
     rw[<-e5];exact k3
    exact Zhw hf hb1 zO hex hfin g2
   ·cases hM
  ·cases hM
def ZJF(P:yg)(his:yw->HI)(l:yL (Fs P))(mt:yL (yb×String×yw))(n:Nat)(g:yw)(ghs:yw->yL (Nat×GOp):=λ_=>[]):yO Bool:=
 ZFP P his l mt ghs n Bool g [] [] λr h=>match h with
  |[]=>r.boolT
  |_=>none
theorem ZH6{his:yw->HI}{l:yL (Fs P)}{mt:yL (yb×String×yw)}{ghs:yw->yL (Nat×GOp)}{n:Nat}{g:yw}{b:Bool}(hl:AllOk l)(hm:MtOk P mt)(h:ZJF P his l mt n g ghs=some b):Con P g [] [] (.p (.bool b)) []:=by
 obtain⟨r,H',h1,h2⟩:=ZBZ hl hm n _ _ _ _ _ _ h;split at h1
 ·rw[Zix h1] at h2;exact h2
 ·cases h1
theorem ZJG{his:yw->HI}{l:yL (Fs P)}{mt:yL (yb×String×yw)}{ghs:yw->yL (Nat×GOp)}{n:Nat}{g:yw}{b:Bool}(hl:AllOk l)(hm:MtOk P mt)(h:ZJF P his l mt n g ghs=some b):
 Fs.Ok (⟨g,[],[],[],[⟨.ret,[(0,.v .bool)],[],[.bool]⟩],λ_=>some b⟩:Fs P):=by
 intro x o hM;cases hM;refine⟨[],[],[],rfl,rfl,λe vs s' hs hf=> ?_⟩;obtain⟨rfl,rfl⟩:=hs;cases hf;exact⟨_,rfl,ZH6 hl hm h⟩
end
theorem okN{P:yg}(s:Nat->Fs P)(h:(s yD).Ok):(s 18446744073709551616).Ok:=by
 rw[ZfI] at h;exact h
end Go.Ev
end
section
namespace Go.Ev
open Go.RowKit Go.WideShapes Go.ChangeShapes
def YV(P:yg):Nat->yb->Bool
 |0,_=>false
 |n+1,t=>match P.underlying t with
  |some .bool=>true
  |some (.int _)=>true
  |some .string=>true
  |some (.slice e)=>YV P n e&&decide (0 < P.cellsOf e)
  |some (.array m e)=>YV P n e&&P.cellsOf t==m*P.cellsOf e
  |some (.struct fs)=>(fs.toList.all λf=>YV P n f.type)&&P.cellsOf t==(fs.toList.map λf=>P.cellsOf f.type).sum&&
    ((yp fs.toList.length).all λj=>match fs.toList[j]? with|some f=>f.offset==((fs.toList.take j).map λf=>P.cellsOf f.type).sum|none=>true)
  |_=>false
theorem ZwJ(P:yg):Kids P (λt=>∃n,YV P n t=true) where
 pointer:=by
  rintro t e ⟨n,h⟩ hu
  cases n with
  |zero=>simp[YV] at h
  |succ n=>simp[YV,hu] at h
 slice:=by
  rintro t e ⟨n,h⟩ hu
  cases n with
  |zero=>simp[YV] at h
  |succ n=>simp[YV,hu] at h;exact⟨n,h.1⟩
 array:=by
  rintro t e m ⟨n,h⟩ hu
  cases n with
  |zero=>simp[YV] at h
  |succ n=>simp[YV,hu] at h;exact⟨⟨n,h.1⟩,h.2⟩
 struct:=by
  rintro t fs ⟨n,h⟩ hu
  cases n with
  |zero=>simp[YV] at h
  |succ n=>
   simp only[YV,hu,yi,yT,ybs] at h;obtain⟨⟨h1,h2⟩,h3⟩:=h;refine⟨λf hf=>⟨n,h1 f hf⟩,h2,λj f hf=> ?_⟩;have hj:j < fs.toList.length:=(yo.1 hf).1;have:=h3 j (by simpa using hj);rw[hf] at this;simpa using this
 map:=by
  rintro t k e ⟨n,h⟩ hu
  cases n with
  |zero=>simp[YV] at h
  |succ n=>simp[YV,hu] at h
def ZH7(R:yb->Pl->Prop):yL Field->yL Pl->Prop
 |[],[]=>True
 |f::fs,y::ys=>R f.type y/\ZH7 R fs ys
 |_,_=>False
def wtP(P:yg):Nat->yb->Pl->Prop
 |0,_,_=>False
 |n+1,t,x=>match P.underlying t,x with
  |some .bool,.bool _=>True
  |some (.int k),.int k' m=>k'=k/\(Lit.int k m).wf=true
  |some .string,.str s=>s.size<=maxLen
  |some (.slice e),.sl nn s xs=>s=P.cellsOf e/\nn=none/\xs.length<=maxLen/\∀y,y∈xs->wtP P n e y
  |some (.array m e),.arr m' s xs=>m'=m/\s=P.cellsOf e/\xs.length=m/\∀y,y∈xs->wtP P n e y
  |some (.struct fs),.agg xs=>ZH7 (wtP P n) fs.toList xs
  |_,_=>False
def ZwK:Nat->Nat->Prop:=λ_ _=>True
section
variable{H:Type}{enc:yb×yh->H}{P:yg}{w:yz}{base:Nat}{sp:Nat->Bool}{held:Bool}
theorem ZDz:∀{s:Nat}{a:Addr}{cs:yL yh},w.cells? base a s=some cs->cs.length=s/\∀j u,cs[j]? =some u->w.cell? (a.add j)=some u:=by
 intro s a cs h;unfold World.cells? at h;split at h
 ·have hl:cs.length=s:=by simpa using mapM_some_length h
  refine⟨hl,λj u hu=> ?_⟩;have hj:j < s:=by rw[<-hl];exact(yo.1 hu).1
  have:=mapM_some_get h j j (by simp[hj]);grind
 ·cases h
theorem ZB0{e:yb}{n m:Nat}{a:Addr}{s:Nat}(hs:0 < s){elems:yL (DataW H×yL MemPlace)}{len:Nat}(zB:elems.length=len)
 (ih:∀(cs:yL yh)(x:DataW H×yL MemPlace),DataW.trod enc P w base sp held m e cs=some x->cs.length=s->∃pl,wtP P n e pl/\repC w ZwK pl cs)
 (h:∀i,i < len->(w.cells? base (a.add (i*s)) s).bind (DataW.trod enc P w base sp held m e)=elems[i]?):
 ∀k,k<=len->∃(xs:yL Pl)(us:yL yh),xs.length=k/\(∀y,y∈xs->wtP P n e y)/\allSz s xs/\us.length=k*s/\repCs w ZwK xs us/\(∀j u,us[j]? =some u->w.cell? (a.add j)=some u)
 |0,_=>⟨[],[],rfl,(λy hy=>by cases hy),(λy hy=>by cases hy),by simp,by simp[repCs],by simp⟩
 |k+1,hk=>by
  obtain⟨xs,us,h1,h2,h3,h4,h5,h6⟩:=ZB0 hs zB ih h k (by omega);have hk':=h k (by omega);rw[yad (by omega)] at hk';obtain⟨cs,hc,ht⟩:=yf.1 hk';obtain⟨c1,c2⟩:=ZDz hc;obtain⟨pl,p1,p2⟩:=ih cs _ ht c1;have psz:pl.size=s:=by rw[<-W5 _ _ p2,c1]
  refine⟨xs++[pl],us++cs,by simp[h1],λy hy=> ?_,λy hy=> ?_,by simp[h4,c1,yaz],Yt h5 (by simpa[repCs] using p2),λj u hu=> ?_⟩
  ·all_goals grind
  ·rcases ycp.1 hy with hy|hy
   ·exact h3 y hy
   grind
  ·by_cases hj:j < us.length
   ·grind
   ·rw[yat (by omega)] at hu;have:=c2 _ _ hu;rw[Addr.add_add] at this;grind
theorem ZyF{e:yb}{n m:Nat}{s:Nat}{cs:yL yh}{elems:yL (DataW H×yL MemPlace)}{len:Nat}(zB:elems.length=len)(hcs:cs.length=len*s)
 (ih:∀(cs:yL yh)(x:DataW H×yL MemPlace),DataW.trod enc P w base sp held m e cs=some x->cs.length=s->∃pl,wtP P n e pl/\repC w ZwK pl cs)
 (h:∀i,i < len->DataW.trod enc P w base sp held m e ((cs.drop (i*s)).take s)=elems[i]?):
 ∀k,k<=len->∃(xs:yL Pl),xs.length=k/\(∀y,y∈xs->wtP P n e y)/\allSz s xs/\repCs w ZwK xs (cs.take (k*s))
 |0,_=>⟨[],rfl,(λy hy=>by cases hy),(λy hy=>by cases hy),by simp[repCs]⟩
 |k+1,hk=>by
  obtain⟨xs,h1,h2,h3,h5⟩:=ZyF zB hcs ih h k (by omega);have hk':=h k (by omega);rw[yad (by omega)] at hk';have hle:k*s+s<=len*s:=by rw[<-Nat.succ_mul];exact ybp _ hk
  have c1:((cs.drop (k*s)).take s).length=s:=by simp;omega
  obtain⟨pl,p1,p2⟩:=ih _ _ hk' c1;have psz:pl.size=s:=by rw[<-W5 _ _ p2,c1]
  refine⟨xs++[pl],by simp[h1],λy hy=> ?_,λy hy=> ?_, ?_⟩
  ·all_goals grind
  ·rcases ycp.1 hy with hy|hy
   ·exact h3 y hy
   grind
  ·rw[yaz,Nat.one_mul,List.take_add];exact Yt h5 (by simpa[repCs] using p2)
theorem Zu8{n m:Nat}{cs:yL yh}
 (ih:∀(t:yb),YV P n t=true->∀(cs:yL yh)(x:DataW H×yL MemPlace),DataW.trod enc P w base sp held m t cs=some x->∃pl,wtP P n t pl/\repC w ZwK pl cs):
 ∀(fs:yL Field)(o:Nat),(∀f,f∈fs->YV P n f.type=true)->(∀(j:Nat)f,fs[j]? =some f->f.offset=o+((fs.take j).map λf=>P.cellsOf f.type).sum)->
  cs.length=o+(fs.map λf=>P.cellsOf f.type).sum->(∀(j:Nat)f,fs[j]? =some f->∃x,DataW.trod enc P w base sp held m f.type ((cs.drop f.offset).take (P.cellsOf f.type))=some x)->
  ∃(xs:yL Pl),ZH7 (wtP P n) fs xs/\repCs w ZwK xs (cs.drop o)
 |[],o,_,_,hl,_=>⟨[],zY,by simp only[repCs];apply List.drop_eq_nil_of_le;simp at hl;omega⟩
 |f::fs,o,hp,ho,hl,h=>by
  obtain⟨x,hx⟩:=h 0 f rfl;have ho0:=ho 0 f rfl;simp at ho0;rw[ho0] at hx;obtain⟨pl,p1,p2⟩:=ih f.type (hp f (ybd ..)) _ _ hx;simp only[yah,List.sum_cons] at hl
  obtain⟨xs,q1,q2⟩:=Zu8 ih fs (o+P.cellsOf f.type) (λg hg=>hp g (ybh _ hg)) (λj g hg=>by
   have:=ho (j+1) g hg;simp only[List.take_succ_cons,yah,List.sum_cons] at this;omega) (by omega) (λj g hg=>h (j+1) g hg)
  refine⟨pl::xs,⟨p1,q1⟩, ?_⟩;simp only[repCs];refine⟨(cs.drop o).take (P.cellsOf f.type),(cs.drop o).drop (P.cellsOf f.type),(List.take_append_drop ..).symm,p2, ?_⟩;simp_all
theorem ZH8:∀(n m:Nat)(t:yb),YV P n t=true->∀(cs:yL yh)(x:DataW H×yL MemPlace),DataW.trod enc P w base sp held m t cs=some x->∃pl,wtP P n t pl/\repC w ZwK pl cs:=by
 intro n
 induction n with
 |zero=>intro m t h;simp[YV] at h
 |succ n ih=>
  intro m t ht cs x h;unfold YV at ht;split at ht
  ·rename_i hu;obtain⟨b,rfl,_⟩:=DataW.trod_bool hu h;exact⟨.bool b,by simp[wtP,hu],by simp[repC]⟩
  ·rename_i k hu;obtain⟨z,rfl,rfl,hw⟩:=DataW.trod_int hu h;exact⟨.int k z,by simp[wtP,hu,hw],by simp[repC]⟩
  ·rename_i hu;obtain⟨s,rfl,h2⟩:=DataW.trod_string hu h;exact⟨.str s,by simp[wtP,hu];exact h2.2,by simp[repC]⟩
  ·rename_i e hu;simp only[yi,yP] at ht;rcases DataW.trod_slice hu h with⟨rfl,rfl⟩|⟨a,len,cap,elems,yJ,m',rfl,rfl,rfl,_,hle,hcap,zB,hel,_⟩
   ·exact⟨.sl none (P.cellsOf e) [],by simp[wtP,hu],by simp only[repC];exact⟨(λy hy=>by cases hy),none,0,rfl,yl _,Nat.zero_le _,Yp _,λ_=>rfl,λh=>absurd rfl h⟩⟩
   ·obtain⟨xs,us,h1,h2,h3,h4,h5,h6⟩:=ZB0 (n:=n) ht.2 zB (λcs x hx _=>ih m' e ht.1 cs x hx) hel len (yl _);refine⟨.sl none (P.cellsOf e) xs,by simp only[wtP,hu];exact⟨zY,zY,by omega,h2⟩, ?_⟩;simp only[repC];refine⟨h3,some a,cap,by rw[h1],by omega,hcap,Yp _,by simp,λhne=> ?_⟩
    have hpos:0 < us.length:=by
     rw[h4];have:0 < len:=by rw[<-h1];exact List.length_pos_iff.2 hne
     simp_all
    have hc0:=h6 0 us[0] (yad hpos);obtain⟨b,o,spot⟩:=a
    have hspot:spot=none:=by
     cases spot with
     |none=>rfl
     |some z=>
      exfalso;unfold World.cell? at hc0;split at hc0
      ·simp[Addr.add] at hc0
      ·cases hc0
    subst hspot;exact⟨b,o,us,rfl,h5,λj u hu=>⟨by have:=h6 j u hu;rwa [Addr.add_lit] at this,ytt⟩⟩
  ·rename_i k e hu;simp only[yi,yT] at ht;obtain⟨elems,m',rfl,rfl,hl,zB,hel⟩:=DataW.trod_array hu h;obtain⟨xs,h1,h2,h3,h4⟩:=ZyF (n:=n) (s:=P.cellsOf e) zB (by rw[hl,ht.2]) (λcs x hx _=>ih m' e ht.1 cs x hx) hel k (yl _);rw[ybr (by rw[hl,ht.2];exact yl _)] at h4;exact⟨.arr k (P.cellsOf e) xs,by simp only[wtP,hu];exact⟨zY,zY,h1,h2⟩,by simp only[repC];exact⟨h1,h3,h4⟩⟩
  ·rename_i fs hu;simp only[yi,yT,ybs] at ht;obtain⟨⟨t1,t2⟩,t3⟩:=ht;obtain⟨elems,m',rfl,rfl,hl,zB,hel⟩:=DataW.trod_struct hu h
   obtain⟨xs,q1,q2⟩:=Zu8 (n:=n) (m:=m') (cs:=cs) (λt ht cs x hx=>ih m' t ht cs x hx) fs.toList 0 t1 (λj f hf=>by
    have hj:j < fs.toList.length:=(yo.1 hf).1;have:=t3 j (by simpa using hj);rw[hf] at this;simpa using this) (by rw[hl,t2];omega) (λj f hf=>by
    have hj:j < fs.toList.length:=(yo.1 hf).1;have:=hel j f (by simpa using hf);rw[yad (by rw[zB];simpa using hj)] at this;exact⟨_,this⟩)
   exact⟨.agg xs,by simp only[wtP,hu];exact q1,by simp only[repC];simpa using q2⟩
  ·cases ht
end
end Go.Ev
namespace Go.Ev
open Go.RowKit Go.WideShapes Go.ChangeShapes
def ZH9(P:yg)(n:Nat):yL yb->yL Pl->Prop
 |[],[]=>True
 |t::ts,x::xs=>wtP P n t x/\ZH9 P n ts xs
 |_,_=>False
section
variable{H:Type}{enc:yb×yh->H}{P:yg}
def sg0(W:yz):Sg:={ F:=ZwK,B:=λb=>W.heap.size<=b,m:=[],H:=[],w:=W}
theorem ZJH(W:yz):Ok (sg0 W) where
 len:=rfl
 inj i j b h:=by simp[sg0] at h
 lt i b h:=by simp[sg0] at h
 ent i e a h:=by simp[sg0] at h
 new b h:=h
 own i b h:=by simp[sg0] at h
theorem ZFQ(W:yz)(b o:Nat):(sg0 W).stab b o:=⟨.inl trivial,λid e h=>by simp[sg0] at h⟩
theorem Zsz{W:yz}{x:Pl}{v:yh}{cs:yL yh}(hx:repC W ZwK x cs)(hc:v.cells.toList=cs)(hv:x.isAgg=true->∃a,v=.agg a)(hn:x.isAgg=false->cs=[v]):yH (sg0 W) (.p x) v:=by
 have hm:repC W (sg0 W).stab x cs:=ZbE (λb o u h _=>⟨h,ZFQ W b o⟩) x cs hx;refine⟨λha=> ?_,λha=> ?_⟩
 ·obtain⟨a,rfl⟩:=hv ha;refine⟨a,rfl, ?_⟩;simp only[yG];have:a.toList=cs:=by rw[<-hc];rfl
  rw[this];exact hm
 ·simp only[yG];have e:=hn ha;rw[<-e];exact hm
theorem ZJI:∀{n:Nat}{t:yb}{x:Pl},wtP P n t x->x.isAgg=WT P t
 |0,_,_,h=>by simp[wtP] at h
 |n+1,t,x,h=>by
  unfold wtP at h;split at h <;> rename_i hu <;> first|(simp[Pl.isAgg,WT,hu];done)|exact h.elim
theorem ZB1{W:yz}{n:Nat}(hval:∀(t:yb)(v:yh),WT P t=true->Value.okWide P W .any 0 t v->∃a,v=.agg a):
 ∀(ts:yL yb)(vs:yL yh)(ds:yL (DataW H))(ps:yL MemPlace),(∀t,t∈ts->YV P n t=true)->(∀(j:Nat)t v,ts[j]? =some t->vs[j]? =some v->(WT P t=true->∃a,v=.agg a)/\(WT P t=false->v.cells.toList=[v]))->
  DataW.TrodAll enc P W 0 (λ_=>true) true ts vs ds ps->∃xs,ZH9 P n ts xs/\repVs (sg0 W) (xs.map .p) vs
 |[],[],[],_,_,_,_=>⟨[],zY,by simp[repVs]⟩
 |[],_::_,_,_,_,_,h=>by simp[DataW.TrodAll] at h
 |[],[],_::_,_,_,_,h=>by simp[DataW.TrodAll] at h
 |_::_,[],_,_,_,_,h=>by simp[DataW.TrodAll] at h
 |_::_,_::_,[],_,_,_,h=>by simp[DataW.TrodAll] at h
 |t::ts,v::vs,d::ds,ps,hp,hv,h=>by
  obtain⟨p,q,⟨yD,h1⟩,h2,rfl⟩:=h;obtain⟨x,x1,x2⟩:=ZH8 n yD t (hp t (ybd ..)) _ _ h1;obtain⟨xs,xs1,xs2⟩:=ZB1 hval ts vs ds q (λu hu=>hp u (ybh _ hu)) (λj u w' hj hw=>hv (j+1) u w' hj hw) h2;obtain⟨v1,v2⟩:=hv 0 t v rfl rfl;refine⟨x::xs,⟨x1,xs1⟩, ?_⟩;simp only[yah,repVs];have ha:=ZJI x1;exact⟨v,vs,rfl,Zsz x2 rfl (λe=>v1 (by rw[<-ha];exact e)) (λe=>v2 (by rw[<-ha];exact e)),xs2⟩
theorem ZmG{W W':yz}{sp':Nat->Bool}{n:Nat}:∀(ts:yL yb)(vs:yL yh)(ds:yL (DataW H))(ps:yL MemPlace),(∀t,t∈ts->YV P n t=true)->
 DataW.TrodAll enc P W 0 (λ_=>true) true ts vs ds ps->(∀p∈ps,W.sameAt W' p)->(∀p∈ps,sp' p.block=true)->DataW.TrodAll enc P W' 0 sp' true ts vs ds ps
 |[],[],[],_,_,h,_,_=>h
 |[],_::_,_,_,_,h,_,_=>by simp[DataW.TrodAll] at h
 |[],[],_::_,_,_,h,_,_=>by simp[DataW.TrodAll] at h
 |_::_,[],_,_,_,h,_,_=>by simp[DataW.TrodAll] at h
 |_::_,_::_,[],_,_,h,_,_=>by simp[DataW.TrodAll] at h
 |t::ts,v::vs,d::ds,ps,hp,h,hs,hb=>by
  obtain⟨p,q,⟨yD,h1⟩,h2,rfl⟩:=h;refine⟨p,q,⟨yD, ?_⟩,ZmG ts vs ds q (λu hu=>hp u (ybh _ hu)) h2 (λz hz=>hs z (List.mem_append_right _ hz)) (λz hz=>hb z (List.mem_append_right _ hz)),rfl⟩
  exact DataW.trod_stays (ZwJ P) (λ{t e}⟨n,hn⟩hu=>by
   cases n with
   |zero=>simp[YV] at hn
   |succ n=>simp[YV,hu] at hn;exact hn.2) (by simp) ⟨n,hp t (ybd ..)⟩ h1 (λz hz=>hs z (List.mem_append_left _ hz)) (λz hz=>hb z (List.mem_append_left _ hz))
theorem ZyG{W:yz}{σ':Sg}(h:To (sg0 W) σ'):Below W.heap.size W σ'.w:=
 ⟨h.os,h.tape,h.output,h.size,λb hb=>h.block b hb (λid=>by simp[sg0])⟩
theorem ZsA{f:Func}{s:ChangeSpec}{apart fresh handsOn again:Bool}{W W':yz}{args:Array yh}{v:yh}{ds gs:yL (DataW H)}{before pa pv:yL MemPlace}
 (hW:DataW.Whole enc P f.params.toList s.vars apart W args.toList ds gs before)
 (hres:∀(b:Nat)(sp:Nat->Bool)(hd:Bool),DataW.TrodAll enc P W' b sp hd f.resultTypes.toList (v.resultList f.resultTypes.size) (s.fn H (ds++gs)).results [])
 (yQ:∀sp:Nat->Bool,(∀p∈before,sp p.block=true)->DataW.TrodAll enc P W' 0 sp true f.params.toList args.toList (s.fn H (ds++gs)).args pa)
 (hvars:∀sp:Nat->Bool,(∀p∈before,sp p.block=true)->DataW.TrodVars enc P W' sp s.vars (s.fn H (ds++gs)).vars pv)
 (hps:before=pa++pv) (hb:Below W.heap.size W W')
 (hok:∀(j:Nat)(t:yb)(r:yh),f.resultTypes[j]? =some t->(v.resultList f.resultTypes.size)[j]? =some r->Value.okWide P W' .any 0 t r):
 s.post enc P f apart fresh handsOn again W args v W':=by
 have hlt:∀p∈before,p.block < W.heap.size:=λp hp=>hW.lt p hp;have hold:∀p∈before,(λb=>decide (b < W.heap.size)) p.block=true:=λp hp=>by simpa using hlt p hp
 refine⟨ds,gs,before,[],pa,pv,hW,hres _ _ _,yQ _ hold,hvars _ hold,World.keptBut_mono (λp hp=>⟨hp, ?_⟩) (hb.frame (· ∈before)),λ_=> ?_⟩
 ·grind
 ·obtain⟨_,_,_,_,_,hz,hn⟩:=hW;refine⟨hok,_,_,([]++pa)++pv,⟨[]++pa,pv,trodAll_append (yQ _ (λ_ _=>rfl)) (hres _ _ _),hvars _ (λ_ _=>rfl),rfl, ?_, ?_⟩, ?_⟩
  ·intro b off hp;have hin:MemPlace.cell b off∈before:=by rw[hps];simpa using hp
   rw[hb.frozen (hlt _ hin)];exact hz b off hin
  all_goals grind
theorem ZwL{f:yw}{fn:Func}{s:ChangeSpec}{n:Nat}{tb:yb}(hr:fn.resultTypes= #[tb])(ht:P.underlying tb=some .bool)(hv:s.vars=[])
 (hs:∀ds:yL (DataW H),ds.length=fn.params.toList.length->s.fn H ds={ results:=[.lit (.bool true)],args:=ds}) (hp:∀t,t∈fn.params.toList->YV P n t=true)
 (W:yz) (base:Nat) (args:Array yh) (ds gs:yL (DataW H)) (before:yL MemPlace)
 (hval:∀(j:Nat)t v,fn.params[j]? =some t->args[j]? =some v->Value.okWide P W .any base t v) (hW:DataW.Whole enc P fn.params.toList s.vars false W args.toList ds gs before)
 (hc:∀xs:yL Pl,ZH9 P n fn.params.toList xs->repVs (sg0 W) (xs.map .p) args.toList->Con P f (xs.map .p) [] (.p (.bool true)) []):
 Calls P f args W λe W'=>∃v,e=.returned v/\s.post enc P fn false true false false W args v W':=by
 have hW':=hW;obtain⟨p,q,hA,hV,rfl,hfz,hnd⟩:=hW;rw[hv] at hV
 obtain⟨rfl,rfl⟩:gs=[]/\q=[]:=by
  cases gs with
  |nil=>exact⟨rfl,hV⟩
  |cons g r=>simp[DataW.TrodVars] at hV
 have zB:=trodAll_length hA
 obtain⟨xs,x1,x2⟩:=ZB1 (enc:=enc) (P:=P) (W:=W) (n:=n) (λt v ha hok=>by
  unfold Value.okWide at hok;unfold WT at ha;split at hok
  ·obtain⟨cs,rfl,_⟩:=hok;exact⟨cs,rfl⟩
  ·obtain⟨cs,rfl,_⟩:=hok;exact⟨cs,rfl⟩
  ·rename_i h1 h2;split at ha
   ·rename_i fs hu;exact absurd hu (h1 fs)
   ·rename_i k e hu;exact absurd hu (h2 k e)
   ·cases ha) fn.params.toList args.toList ds p hp (λj t v hj hvv=>by
  have hok:=hval j t v (by simpa using hj) (by simpa using hvv);refine⟨λha=> ?_,λha=> ?_⟩
  ·unfold Value.okWide at hok;unfold WT at ha;split at hok
   ·obtain⟨cs,rfl,_⟩:=hok;exact⟨cs,rfl⟩
   ·obtain⟨cs,rfl,_⟩:=hok;exact⟨cs,rfl⟩
   ·rename_i h1 h2;split at ha
    ·rename_i fs hu;exact absurd hu (h1 fs)
    ·rename_i k e hu;exact absurd hu (h2 k e)
    ·cases ha
  ·obtain⟨m,hm⟩:∃m,YV P (m+1) t=true:=by
    have:=hp t (ybz hj)
    cases n with
    |zero=>simp[YV] at this
    |succ n=>exact⟨n,this⟩
   unfold Value.okWide at hok;unfold YV at hm;unfold WT at ha;split at hm <;> rename_i hu <;> simp only[hu] at hok ha
   all_goals first
    |(cases ha;done)
    |(cases hm;done)
    |(unfold Cell.okWide Cell.ok at hok;simp only[hu] at hok;cases v <;> first|rfl|(simp at hok;done))) hA
 have hcall:=hc xs x1 x2 (sg0 W) args.toList (ZJH W) rfl x2;rw[Array.toArray_toList] at hcall;refine Calls.mono hcall ?_;rintro e W' ⟨v,σ',rfl,rfl,hH,hto,hok,yK⟩;have hbv:v=.bool true:=by simpa[yH,Dv.isAgg,Pl.isAgg,yG,repC] using yK
 subst hbv;have hb:=ZyG hto;simp only[yas] at hW';have hlt:=hW'.lt
 have hsame:∀z∈p,W.sameAt σ'.w z:=by
  intro z hz;have hz':=hlt z hz
  cases z with
  |cell b o=>exact hb.cell (p:=⟨b,o,none⟩) hz'
  |map b=>exact hb.block b hz'
 have hfn:=hs ds zB.2;refine⟨_,rfl,ZsA (pa:=p) (pv:=[]) hW' (λb sp hd=> ?_) (λsp h=> ?_) (λsp h=> ?_) (by simp) hb ?_⟩
 ·rw[yas,hfn,hr];exact trodAll_cons_mk (shut_bool ht _) trodAll_mk0
 ·rw[yas,hfn];exact ZmG fn.params.toList args.toList ds p hp hA hsame h
 ·rw[yas,hfn,hv];rfl
 ·intro j t r hj hjr;rw[hr] at hj hjr
  cases j with
  |zero=>
   simp at hj;subst hj;have:r=.bool true:=by simpa[Value.resultList] using hjr.symm
   subst this
   exact okWide_bool_mk ht _
  |succ j=>simp at hj
end
end Go.Ev
namespace Go.Ev
end Go.Ev
end
section
namespace Go.Ev
mutual
def Ty.Wf:(t:Ty)->t.den->Prop
 |.int k,n=>(Lit.int k n).wf=true
 |.u8,_=>True
 |.u32,_=>True
 |.u64,_=>True
 |.bool,_=>True
 |.str,s=>s.size<=maxLen
 |.sl t,l=>List.length l<=maxLen/\∀x,List.Mem x l->Ty.Wf t x
 |.arr n t,l=>List.length l=n/\∀x,List.Mem x l->Ty.Wf t x
 |.st fs,x=>Ty.Wfs fs x
def Ty.Wfs:(fs:yL Ty)->Ty.dens fs->Prop
 |[],_=>True
 |[t],x=>Ty.Wf t x
 |t::u::r,x=>Ty.Wf t x.1/\Ty.Wfs (u::r) x.2
end
mutual
def ZAD(P:yg):Nat->yb->Ty->Bool
 |0,_,_=>false
 |n+1,t,T=>match P.underlying t,T with
  |some (.int .u8),.u8=>true
  |some (.int .u32),.u32=>true
  |some (.int .u64),.u64=>true
  |some (.int k),.int k'=>decide (k=k')
  |some .bool,.bool=>true
  |some .string,.str=>true
  |some (.slice e),.sl T'=>P.cellsOf e==T'.size&&ZAD P n e T'
  |some (.array m e),.arr m' T'=>m==m'&&(P.cellsOf e==T'.size&&ZAD P n e T')
  |some (.struct fs),.st Ts=>tyOks P n fs.toList Ts
  |_,_=>false
def tyOks(P:yg):Nat->yL Field->yL Ty->Bool
 |0,_,_=>false
 |_+1,[],[]=>true
 |n+1,f::fs,T::Ts=>ZAD P n f.type T&&tyOks P n fs Ts
 |_+1,_,_=>false
end
theorem ZKQ{m:Int}(h:(Lit.int .u8 m).wf=true):∃b:yB,m=(b.toNat:Int):=by
 simp only[Lit.wf,yi,yP] at h;have h1:(0:Int)<=m:=h.1;have h2:m<=255:=h.2;refine⟨yav m.toNat, ?_⟩;have:(yav m.toNat).toNat=m.toNat:=by simp;omega
 rw[this];omega
theorem ZJJ{m:Int}(h:(Lit.int .u32 m).wf=true):∃b:yV,m=(b.toNat:Int):=by
 simp only[Lit.wf,yi,yP] at h;have h1:(0:Int)<=m:=h.1;have h2:m<=4294967295:=h.2;refine⟨ybv m.toNat, ?_⟩;have:(ybv m.toNat).toNat=m.toNat:=by simp;omega
 rw[this];omega
theorem ZJK{m:Int}(h:(Lit.int .u64 m).wf=true):∃b:yU,m=(b.toNat:Int):=by
 simp only[Lit.wf,yi,yP] at h;have h1:(0:Int)<=m:=h.1;have h2:m<=18446744073709551615:=h.2;refine⟨UInt64.ofNat m.toNat, ?_⟩;have:(UInt64.ofNat m.toNat).toNat=m.toNat:=by simp;omega
 rw[this];omega
theorem ZAE{α β:Type}{f:α->β}{R:α->Prop}:∀{ys:yL β},(∀y,y∈ys->∃x,y=f x/\R x)->∃l:yL α,ys=l.map f/\∀x,List.Mem x l->R x
 |[],_=>⟨[],rfl,λx hx=>by cases hx⟩
 |y::ys,h=>by
  obtain⟨x,rfl,hx⟩:=h y (ybd ..);obtain⟨l,rfl,hl⟩:=ZAE (λz hz=>h z (ybh _ hz))
  exact⟨x::l,rfl,λz hz=>by
   cases hz with
   |head=>exact hx
   |tail _ hz=>exact hl z hz⟩
mutual
theorem Zu9{P:yg}:∀(m n:Nat)(t:yb)(T:Ty)(x:Pl),ZAD P m t T=true->wtP P n t x->∃v:T.den,T.Wf v/\x=T.enc v
 |0,_,_,_,_,h,_=>by simp[ZAD] at h
 |_+1,0,_,_,_,_,h=>by simp[wtP] at h
 |m+1,n+1,t,T,x,h,hw=>by
  unfold ZAD at h;split at h
  ·rename_i hu;unfold wtP at hw;rw[hu] at hw;cases x <;> try exact hw.elim
   obtain⟨rfl,h2⟩:=hw;obtain⟨b,rfl⟩:=ZKQ h2;exact⟨b,zY,rfl⟩
  ·rename_i hu;unfold wtP at hw;rw[hu] at hw;cases x <;> try exact hw.elim
   obtain⟨rfl,h2⟩:=hw;obtain⟨b,rfl⟩:=ZJJ h2;exact⟨b,zY,rfl⟩
  ·rename_i hu;unfold wtP at hw;rw[hu] at hw;cases x <;> try exact hw.elim
   obtain⟨rfl,h2⟩:=hw;obtain⟨b,rfl⟩:=ZJK h2;exact⟨b,zY,rfl⟩
  ·rename_i k k' hu;have h:=yF h;subst h;unfold wtP at hw;rw[hu] at hw;cases x <;> try exact hw.elim
   obtain⟨rfl,h2⟩:=hw;exact⟨_,h2,rfl⟩
  ·rename_i hu;unfold wtP at hw;rw[hu] at hw;cases x <;> try exact hw.elim
   exact⟨_,zY,rfl⟩
  ·rename_i hu;unfold wtP at hw;rw[hu] at hw;cases x <;> try exact hw.elim
   exact⟨_,hw,rfl⟩
  ·rename_i e T' hu;simp only[yi,yT] at h;unfold wtP at hw;rw[hu] at hw;cases x <;> try exact hw.elim
   obtain⟨rfl,rfl,h3,h4⟩:=hw
   obtain⟨l,rfl,h5⟩:=ZAE λy hy=>(by
    obtain⟨v,a,b⟩:=Zu9 m n e T' y h.2 (h4 y hy);exact⟨v,b,a⟩:∃v:T'.den,y=T'.enc v/\T'.Wf v)
   refine⟨l,⟨by simpa using h3,h5⟩, ?_⟩;rw[h.1];rfl
  ·rename_i m0 e m' T' hu;simp only[yi,yT] at h;obtain⟨rfl,h⟩:=h;unfold wtP at hw;rw[hu] at hw;cases x <;> try exact hw.elim
   obtain⟨rfl,rfl,h3,h4⟩:=hw
   obtain⟨l,rfl,h5⟩:=ZAE λy hy=>(by
    obtain⟨v,a,b⟩:=Zu9 m n e T' y h.2 (h4 y hy);exact⟨v,b,a⟩:∃v:T'.den,y=T'.enc v/\T'.Wf v)
   refine⟨l,⟨by simpa using h3,h5⟩, ?_⟩;rw[h.1];rfl
  ·rename_i fs Ts hu;unfold wtP at hw;rw[hu] at hw;cases x <;> try exact hw.elim
   rename_i xs;obtain⟨v,h1,rfl⟩:=wt_tys m n fs.toList Ts xs h hw;exact⟨v,h1,rfl⟩
  ·cases h
theorem wt_tys{P:yg}:∀(m n:Nat)(fs:yL Field)(Ts:yL Ty)(xs:yL Pl),tyOks P m fs Ts=true->ZH7 (wtP P n) fs xs->∃v:Ty.dens Ts,Ty.Wfs Ts v/\xs=Ty.encs Ts v
 |0,_,_,_,_,h,_=>by simp[tyOks] at h
 |m+1,n,[],[],[],h,hw=>⟨(),zY,rfl⟩
 |m+1,n,[],[],_::_,h,hw=>hw.elim
 |m+1,n,[],_::_,_,h,hw=>by cases h
 |m+1,n,_::_,[],_,h,hw=>by cases h
 |m+1,n,_::_,_::_,[],h,hw=>hw.elim
 |m+1,n,f::fs,[T],x::xs,h,hw=>by
  simp only[tyOks,yi] at h;obtain⟨v,h1,rfl⟩:=Zu9 m n f.type T x h.1 hw.1
  cases fs with
  |nil=>cases xs with
   |nil=>exact⟨v,h1,rfl⟩
   |cons _ _=>exact hw.2.elim
  |cons _ _=>
   cases m with
   |zero=>exact absurd h.2 (by simp[tyOks])
   |succ m=>exact absurd h.2 (by simp[tyOks])
 |m+1,n,f::fs,T::U::Ts,x::xs,h,hw=>by
  simp only[tyOks,yi] at h;obtain⟨v,h1,rfl⟩:=Zu9 m n f.type T x h.1 hw.1;obtain⟨w,h2,rfl⟩:=wt_tys m n fs (U::Ts) xs h.2 hw.2;exact⟨(v,w),⟨h1,h2⟩,rfl⟩
end
theorem Zva{I X:Type}{step:I->yO (I⊕X)}(Inv:I->Prop)(mu:I->Nat)(Post:X->Prop)
 (h:∀i,Inv i->(∃j,step i=some (.inl j)/\Inv j/\mu j < mu i)\/(∃x,step i=some (.inr x)/\Post x)):∀(n:Nat)(i:I),Inv i->mu i < n->∃x,Zf step n i=some x/\Post x
 |0,i,_,hn=>by omega
 |n+1,i,hi,hn=>by
  unfold Zf;rcases h i hi with⟨j,h1,h2,h3⟩|⟨x,h1,h2⟩
  ·rw[h1,ya];exact Zva Inv mu Post h n j h2 (by omega)
  ·rw[h1,ya];exact⟨x,rfl,h2⟩
theorem Qa{I X:Type}{step:I->yO (I⊕X)}(Inv:I->Prop)(mu:I->Nat)(Post:X->Prop)
 (h:∀i,Inv i->(∃j,step i=some (.inl j)/\Inv j/\mu j < mu i)\/(∃x,step i=some (.inr x)/\Post x)) (i:I) (hi:Inv i) (hm:mu i < 18446744073709551616):∃x,Zf step yD i=some x/\Post x:=by
 refine Zva Inv mu Post h yD i hi ?_;rw[ZfI];exact hm
theorem Yj{z:Int}(h1: -9223372036854775808<=z)(h2:z<=9223372036854775807):wi z=z:=by
 simp only[wi,IntKind.wrap,IntKind.signed,IntKind.bits];simp;omega
theorem Zof{α:Type}{l:yL α}{i:Int}{y:α}(h0:0<=i)(h:l[i.toNat]? =some y):idx l i=some y:=by
 unfold idx;rw[yW h0,h]
theorem ZdI{α:Type}{l:yL α}{i:Nat}(h:i < l.length):∃y,l[i]? =some y:=⟨_,yad h⟩
theorem Xr{i:Int}{n:Nat}(h1:0<=i)(h2:i < (n:Int)):inB i n=true:=by simp[inB,h1,h2]
theorem ZF{n m b:Nat}(h1:(n+m)*b<=140737488355328)(h2:n+m<=9223372036854775807):apB n m b=true:=by
 unfold apB;rw[yi];exact⟨yY h1,yY h2⟩
def tdv:(ts:yL Ty)->Ty.dens ts->yL TD
 |[],_=>[]
 |[t],x=>[.p (.v t x)]
 |t::u::r,x=>.p (.v t x.1)::tdv (u::r) x.2
theorem ZB2:∀(ts:yL Ty)(x:Ty.dens ts),Sh.fills (ts.map .v) (ofD ts x)=some (tdv ts x,[])
 |[],_=>rfl
 |[t],x=>by
  rw[show ofD [t] x=[⟨t,x⟩] from rfl,yah,List.map_nil,Sh.fills,Sh.fill]
  have e:=YS t x;dsimp only;rw[e]
  rfl
 |t::u::r,x=>by
  have h:=ZB2 (u::r) x.2;have e:=YS t x.1;rw[show ofD (t::u::r) x=⟨t,x.1⟩::ofD (u::r) x.2 from rfl,yah,Sh.fills,Sh.fill]
  dsimp only;rw[e,yaf,ya,h];rfl
theorem ZFR{L:Lk}:∀(ts:yL Ty)(x:Ty.dens ts),TD.ers L (tdv ts x)=(Ty.encs ts x).map .p
 |[],_=>rfl
 |[t],x=>rfl
 |t::u::r,x=>by
  rw[show tdv (t::u::r) x=.p (.v t x.1)::tdv (u::r) x.2 from rfl,ZP,yah, <-ZP,ZFR (u::r) x.2]
  rfl
theorem ZIa{P:yg}{g:yw}{ts:yL Ty}{M:Ty.dens ts->yO Bool}(hok:Fs.Ok (⟨g,ts.map .v,[],ts,[⟨.ret,[(0,.v .bool)],[],[.bool]⟩],M⟩:Fs P)){x:Ty.dens ts}(h:M x=some true):
 Con P g ((Ty.encs ts x).map .p) [] (.p (.bool true)) []:=by
 obtain⟨args,R,H,h1,h2,h3⟩:=hok x true h;have e:=(ZB2 ts x).symm.trans (show Sh.fills (ts.map .v) (ofD ts x)=some (args,R) from h1)
 cases e;cases h2
 obtain⟨r,h4,h5⟩:=h3 _ [⟨.bool,true⟩] ([.p (.v .bool true)],[]) ⟨rfl,rfl⟩ (by
  simp only[VY,shs];rfl)
 cases h4;rw[<-ZFR (L:=lk [])];exact h5
theorem Zng{P:yg}{s:Fs P}(h:s.Ok){M:Ty.dens s.ins->yO (XSh.sum s.xs)}(e:∀x,M x=s.M x):Fs.Ok (P:=P) { s with M:=M}:=by
 have:M=s.M:=funext e;subst this;exact h
def ZsB(P:yg)(m:Nat):yL yb->yL Ty->Bool
 |[],[]=>true
 |t::ts,T::Ts=>ZAD P m t T&&ZsB P m ts Ts
 |_,_=>false
theorem ZB3{P:yg}{m n:Nat}:∀{ts:yL yb}{Ts:yL Ty}{xs:yL Pl},ZsB P m ts Ts=true->ZH9 P n ts xs->∃v:Ty.dens Ts,Ty.Wfs Ts v/\xs=Ty.encs Ts v
 |[],[],[],_,_=>⟨(),zY,rfl⟩
 |[],[],_::_,_,h=>h.elim
 |[],_::_,_,h,_=>by cases h
 |_::_,[],_,h,_=>by cases h
 |_::_,_::_,[],_,h=>h.elim
 |t::ts,[T],x::xs,h,hw=>by
  simp only[ZsB,yi] at h;obtain⟨v,h1,rfl⟩:=Zu9 m n t T x h.1 hw.1
  cases ts with
  |nil=>cases xs with
   |nil=>exact⟨v,h1,rfl⟩
   |cons _ _=>exact hw.2.elim
  |cons _ _=>exact absurd h.2 (by simp[ZsB])
 |t::ts,T::U::Ts,x::xs,h,hw=>by
  simp only[ZsB,yi] at h;obtain⟨v,h1,rfl⟩:=Zu9 m n t T x h.1 hw.1;obtain⟨w,h2,rfl⟩:=ZB3 (Ts:=U::Ts) h.2 hw.2;exact⟨(v,w),⟨h1,h2⟩,rfl⟩
def ZFS:yL Hint:=[.raw,.raw,.raw,.raw,.raw,.raw,.raw,.b false,.raw,.raw,.raw,.raw,.bare,.raw,.raw,.bare,.snap,.raw,.raw,.raw,.raw,.raw,.raw,.raw]
def ZAF(i N:Nat)(xs:yL Pl):yL Pl:=(xs.drop (0+(i+1))).take (N - (i+1))
def Zk6(i N:Nat)(xs:yL Pl):Nat:=i+(ZAF i N xs).length
def ZFT(i N:Nat)(xs:yL Pl):yL Prop:=[0<=(i:Int),(i:Int)<=(i:Int)+1,(i:Int)+1<=(N:Int),(N:Int)<=(N:Int),((i:Int)==(i:Int)+1)=false,0<=(i:Int),(i:Int)<=(N:Int),0<=(i:Int)+1,(i:Int)+1<=(N:Int),
 0+(i+1)+(N - (i+1))<=N,0 < N,Zk6 i N xs<=N,0<=(Zk6 i N xs:Int),(Zk6 i N xs:Int)<=(N:Int),0+N<=N,N - Zk6 i N xs=1,0+Zk6 i N xs+1<=N]
theorem ZwM{i:Nat}{xs:yL Pl}(h:i < xs.length):ZAF i xs.length xs=xs.drop (i+1)/\Zk6 i xs.length xs=xs.length - 1:=by
 have e:ZAF i xs.length xs=xs.drop (i+1):=by
  unfold ZAF;rw[yay,ybr (by rw[ybf];exact yl _)]
 refine⟨e, ?_⟩;unfold Zk6;rw[e,ybf];omega
theorem ZIb{i:Nat}{xs:yL Pl}(h:i < xs.length):AllP (ZFT i xs.length xs):=by
 obtain⟨_,e⟩:=ZwM h;unfold ZFT;rw[e];exact⟨by omega,by omega,by omega,Int.le_refl _,beq_eq_false_iff_ne.2 (by omega),by omega,by omega,by omega,by omega,by omega,by omega,by omega,by omega,by omega,by omega,by omega,by omega,ytt⟩
theorem ZFU{i:Nat}{xs:yL Pl}(h:i < xs.length)(z:Pl):((xs.take i++(ZAF i xs.length xs++xs.drop (Zk6 i xs.length xs))).set (0+Zk6 i xs.length xs) z).take (Zk6 i xs.length xs)=xs.eraseIdx i:=by
 obtain⟨e1,e2⟩:=ZwM h;rw[e1,e2,yay,List.eraseIdx_eq_take_drop_succ, <-yx]
 have hl:(xs.take i++xs.drop (i+1)).length=xs.length - 1:=by
  rw[yj,yv,ybf];omega
 rw[List.set_append_right _ _ (by omega),List.take_append_of_le_length (by omega),ybr (by omega)]
theorem ZIc{P:yg}{g:yw}{s:Nat}{e:yb}{z:Pl}(h:∀(i N:Nat)(xs:yL Pl),evF P g [.rv 0 1 s 0 N,.p (.int .i64 (i:Int)),.p (.int .i64 ((i:Int)+1))] [.row 1 s true e (.p (.arr N s xs))] ZFS []=
 some (ZFT i N xs,.rv 0 1 s 0 (Zk6 i N xs),[.row 1 s true e (.p (.arr N s ((xs.take i++(ZAF i N xs++xs.drop (Zk6 i N xs))).set (0+Zk6 i N xs) z)))])){i:Nat}{xs:yL Pl}(hi:i < xs.length):
 Con P g [.rv 0 1 s 0 xs.length,.p (.int .i64 (i:Int)),.p (.int .i64 ((i:Int)+1))] [.row 1 s true e (.p (.arr xs.length s xs))] (.rv 0 1 s 0 (xs.eraseIdx i).length) [.row 1 s true e (.p (.arr (xs.eraseIdx i).length s (xs.eraseIdx i)))]:=by
 obtain⟨_,e2⟩:=ZwM hi
 have hl:(xs.eraseIdx i).length=Zk6 i xs.length xs:=by
  rw[e2,List.length_eraseIdx,yW hi]
 rw[hl];refine ZHj ZFS [] (ZFT i xs.length xs) (h i xs.length xs) (ZIb hi) (Wk.refl _) ?_;rw[<-ZFU hi z];exact .cons (.shr (by omega)) .nil
def ZAG{t:Ty}(i j:Int)(v:yL Unit)(l:yL t.den):yO (yL Unit×yL t.den):=if(decide (0<=i)&&decide (j=i+1)&&(decide (v.length=1)&&decide (i < (l.length:Int))))=true then some (v,l.eraseIdx i.toNat) else none
theorem Zmd{α β:Type}(f:α->β):∀(l:yL α)(i:Nat),(l.eraseIdx i).map f=(l.map f).eraseIdx i
 |[],_=>rfl
 |_::_,0=>rfl
 |x::l,i+1=>by
  show f x::(l.eraseIdx i).map f=f x::(l.map f).eraseIdx i;rw[Zmd f l i]
theorem ZJL{P:yg}{g:yw}{t:Ty}{e:yb}{z:Pl}(h:∀(i N:Nat)(xs:yL Pl),evF P g [.rv 0 1 t.size 0 N,.p (.int .i64 (i:Int)),.p (.int .i64 ((i:Int)+1))] [.row 1 t.size true e (.p (.arr N t.size xs))] ZFS []=
 some (ZFT i N xs,.rv 0 1 t.size 0 (Zk6 i N xs),[.row 1 t.size true e (.p (.arr N t.size ((xs.take i++(ZAF i N xs++xs.drop (Zk6 i N xs))).set (0+Zk6 i N xs) z)))])):
 Fs.Ok (⟨g,[.rw 0,.v (.int .i64),.v (.int .i64)],[.row t true e],[.int .i64,.int .i64,.sl (.st []),.sl t],[⟨.ret,[(0,.rw 0)],[.row t true e],[.sl (.st []),.sl t]⟩],λx=>ZAG x.1 x.2.1 x.2.2.1 x.2.2.2⟩:Fs P):=by
 rintro⟨i,j,v,l0⟩ o hM;obtain⟨l,rfl⟩:∃l:yL t.den,l=l0:=⟨l0,rfl⟩
 have key:∀(i j:Int)(v:yL Unit)(l:yL t.den)(o:yL Unit×yL t.den),ZAG i j v l=some o->∃k:Nat,i=(k:Int)/\j=(k:Int)+1/\v=[()]/\k < l.length/\o=(v,l.eraseIdx k):=λi j v l o hM=>by
  unfold ZAG at hM;obtain⟨h1,h2⟩:=Zc (α:=yL Unit×yL t.den) hM;rw[yi,yi,yi,yP,yP,yP,yP] at h1;obtain⟨u,hu⟩:=List.length_eq_one_iff.1 h1.2.1;exact⟨i.toNat,by omega,by omega,hu,by omega,(ybw h2).symm⟩
 obtain⟨k,rfl,rfl,rfl,hk,rfl⟩:=key i j v l o hM;have c1:Ty.cast (.sl (.st [])) (.sl (.st [])) ([()]:yL Unit)=some ([()]:yL Unit):=YS (.sl (.st [])) ([()]:yL Unit);have c2:∀l:yL t.den,Ty.cast (.sl t) (.sl t) l=some l:=λl=>YS (.sl t) l;refine⟨[.rw 0,.p (.v (.int .i64) (k:Int)),.p (.v (.int .i64) ((k:Int)+1))],[⟨.sl (.st []),([()]:yL Unit)⟩,⟨.sl t,l⟩],[.rowT t [()] true e l],rfl, ?_,λxx vs s' hs hf=> ?_⟩
 ·show((Ty.cast (.sl (.st [])) (.sl (.st [])) ([()]:yL Unit)).bind λ(v:yL Unit)=>(Ty.cast (.sl t) (.sl t) l).map λ(l:yL t.den)=>((TEnt.rowT t v true e l,([]:yL TV)):TEnt×yL TV)).bind (λa=>(ESh.fills [] a.2).map λb=>(a.1::b.1,b.2))=_;rw[c1,c2];rfl
 ·obtain⟨rfl,rfl⟩:=hs
  have e2:VY 1 [(0,.rw 0)] [.row t true e] [⟨.sl (.st []),([()]:yL Unit)⟩,⟨.sl t,l.eraseIdx k⟩]=some ([.rw 0],[.rowT t [()] true e (l.eraseIdx k)]):=by
   show(((Ty.cast (.sl (.st [])) (.sl (.st [])) ([()]:yL Unit)).bind λ(v:yL Unit)=>(Ty.cast (.sl t) (.sl t) (l.eraseIdx k)).map λ(l:yL t.den)=>((TEnt.rowT t v true e l,([]:yL TV)):TEnt×yL TV)).bind (λa=>(ESh.fills [] a.2).map λb=>(a.1::b.1,b.2))).bind (λw=>if w.2.isEmpty then some ([TD.rw 0],w.1) else none)=_
   rw[c1,c2];rfl
  have e3:=hf.symm.trans e2;cases e3;refine⟨_,rfl, ?_⟩;have r1:∀l:yL t.den,TD.er (lk [TEnt.rowT t [()] true e l]) (.rw 0)=.rv 0 1 t.size 0 l.length:=λl=>(Zwr (v:=[()]) rfl).1;show Con P g [TD.er (lk [TEnt.rowT t [()] true e l]) (.rw 0),.p (.int .i64 (k:Int)),.p (.int .i64 ((k:Int)+1))] [.row 1 t.size true e (.p (.arr l.length t.size (l.map t.enc)))] (TD.er (lk [TEnt.rowT t [()] true e (l.eraseIdx k)]) (.rw 0)) [.row 1 t.size true e (.p (.arr (l.eraseIdx k).length t.size ((l.eraseIdx k).map t.enc)))];rw[r1,r1,Zmd];have hc:=ZIc h (i:=k) (xs:=l.map t.enc) (by rw[yaa];exact hk);rw[<-Zmd,yaa,yaa,Zmd] at hc;exact hc
theorem ZId{P:yg}{g:yw}{t:Ty}{xs:yL XSh}{MA M:Ty.dens [.sl t]->yO (XSh.sum xs)}(hA:Fs.Ok (⟨g,[.sl true t],[],[.sl t],xs,MA⟩:Fs P))
 (h1:M ([]:yL t.den)=none) (h2:∀(x:t.den)(l:yL t.den),M (x::l)=MA (x::l)):Fs.Ok (⟨g,[.v (.sl t)],[],[.sl t],xs,M⟩:Fs P):=by
 intro l o hM;have key:∀(l:yL t.den),Ty.cast (.sl t) (.sl t) l=some l:=λl=>YS (.sl t) l
 have h3:∀l:yL t.den,M l=some o->MA l=some o/\l≠[]:=λl hl=>by
  cases l with
  |nil=>rw[h1] at hl;cases hl
  |cons x l=>exact⟨by rw[<-h2];exact hl,by simp⟩
 obtain⟨hMA,hne⟩:=h3 l hM;obtain⟨a1,R1,H1,f1,f2,f3⟩:=hA l o hMA
 have e1:a1=[.p (.sl (some true) t l)]/\R1=[]:=by
  have:Sh.fills [.sl true t] [(⟨.sl t,l⟩:TV)]=some (a1,R1):=f1;simp only[Sh.fills,Sh.fill] at this;rw[key l] at this;have this:some (([.p (.sl (some true) t l)]:yL TD),([]:yL TV))=some (a1,R1):=this;cases this;exact⟨rfl,rfl⟩
 obtain⟨rfl,rfl⟩:=e1;cases f2;refine⟨[.p (.v (.sl t) l)],[],[], ?_,rfl,λe vs s' hs hf=> ?_⟩
 ·show Sh.fills [.v (.sl t)] [(⟨.sl t,l⟩:TV)]=_;simp only[Sh.fills,Sh.fill];rw[key l];rfl
 ·obtain⟨r,r1,r2⟩:=f3 e vs s' hs hf;exact⟨r,r1,ZBp (xs:=List.map t.enc l) r2 λhl=>absurd (List.map_eq_nil_iff.1 hl) hne⟩
structure Md(N b0:Nat)(σ σ':Sg):Prop where
 leaf:Leaf σ σ'
 F:∀b o,σ'.F b o->σ.F b o
 B:∀b,σ'.B b->σ.B b
 os:σ'.w.os=σ.w.os
 tape:σ'.w.tape=σ.w.tape
 output:σ'.w.output=σ.w.output
 size:σ.w.heap.size<=σ'.w.heap.size
 block:∀b,b < N->b≠b0->(∀id:Nat,σ.m[id]? ≠some (some b))->σ'.w.heap[b]? =σ.w.heap[b]?
 same:∀id b:Nat,σ'.m[id]? =some (some b)->σ.m[id]? =some (some b)\/N<=b
theorem Md.of_to{N b0:Nat}{σ σ':Sg}(h:To σ σ')(hN:N<=σ.w.heap.size):Md N b0 σ σ' where
 leaf:=h.leaf
 F b o k:=by rw[h.F] at k;exact k
 B b k:=by rw[h.B] at k;exact k
 os:=h.os
 tape:=h.tape
 output:=h.output
 size:=h.size
 block b k1 _ k2:=h.block b (ycv k1 hN) k2
 same id b k:=by
  rcases h.same id b k with q|q
  ·exact .inl q
  ·exact .inr (ybj hN q)
theorem Md.trans{N b0:Nat}{a b c:Sg}(h:Md N b0 a b)(k:Md N b0 b c):Md N b0 a c where
 leaf:=h.leaf.trans k.leaf
 F x o q:=h.F x o (k.F x o q)
 B x q:=h.B x (k.B x q)
 os:=k.os.trans h.os
 tape:=k.tape.trans h.tape
 output:=k.output.trans h.output
 size:=ybj h.size k.size
 block x h1 h2 h3:=(k.block x h1 h2 (λid q=>by
  rcases h.same id x q with r|r
  ·exact h3 id r
  ·omega)).trans (h.block x h1 h2 h3)
 same id x q:=by
  rcases k.same id x q with r|r
  ·exact h.same id x r
  ·exact .inr r
structure Pv(b0:Nat)(σ:Sg)(b:Nat):Prop where
 B:¬σ.B b
 F:∀o,¬σ.F b o
 lt:b < σ.w.heap.size
 un:∀id:Nat,σ.m[id]? ≠some (some b)
 ne:b≠b0
theorem Pv.to{b0 b:Nat}{σ σ':Sg}(h:Pv b0 σ b)(to:To σ σ'):Pv b0 σ' b where
 B:=by rw[to.B];exact h.B
 F o:=by rw[to.F];exact h.F o
 lt:=ycv h.lt to.size
 un id q:=by
  rcases to.same id b q with r|r
  ·exact h.un id r
  ·have:=h.lt;omega
 ne:=h.ne
theorem Pv.not_stab{b0 b o:Nat}{σ:Sg}(h:Pv b0 σ b):¬σ.stab b o:=λq=>q.1.elim (h.F o) h.B
def RowIn(σ:Sg)(s:Nat)(e:yb)(xs:yL Pl)(v:yh)(b:Nat):Prop:=
 ∃c cur,v=.slice (some ⟨b,0,none⟩) xs.length c/\σ.w.heap[b]? =some (.cells cur e (0,0))/\cur.size=c*s/\xs.length<=c/\c<=maxLen/\allSz s xs/\repCs σ.w σ.stab xs (cur.toList.take (xs.length*s))
theorem RowIn.leaf{σ σ':Sg}{s:Nat}{e:yb}{xs:yL Pl}{v:yh}{b:Nat}(h:RowIn σ s e xs v b)(l:Leaf σ σ')(hb:σ'.w.heap[b]? =σ.w.heap[b]?):RowIn σ' s e xs v b:=by
 obtain⟨c,cur,h1,h2,h3,h4,h5,h6,h7⟩:=h;exact⟨c,cur,h1,by rw[hb];exact h2,h3,h4,h5,h6,repCs_mono l.cells _ _ h7⟩
structure MR(N b0 s:Nat)(e:yb)(σ:Sg)(gs:List (Pl×List Pl×Nat))(es:Array MapEntry)(clock:Nat):Prop where
 ge:N<=σ.w.heap.size
 F:∀b o,σ.F b o->b < N
 heap:σ.w.heap[b0]? =some (.map es clock)
 un:∀id:Nat,σ.m[id]? ≠some (some b0)
 len:es.size=gs.length
 ent:∀(q:Nat)g en,gs[q]? =some g->es[q]? =some en->yH σ (.p g.1) en.key/\RowIn σ s e g.2.1 en.val g.2.2/\en.born < clock/\Pv b0 σ g.2.2/\N<=g.2.2
 born:∀(q q':Nat)en en',es[q]? =some en->es[q']? =some en'->en.born=en'.born->q=q'
 dist:∀(q q':Nat)g g',gs[q]? =some g->gs[q']? =some g'->g.2.2=g'.2.2->q=q'
theorem Zog{w:yz}{b:Nat}{x:Obj}(h:w.heap[b]? =some x):b < w.heap.size:=(yda.1 h).1
theorem MR.to{N b0 s:Nat}{e:yb}{σ σ':Sg}{gs:yL (Pl×yL Pl×Nat)}{es:Array MapEntry}{clock:Nat}(h:MR N b0 s e σ gs es clock)(to:To σ σ'):MR N b0 s e σ' gs es clock where
 ge:=ybj h.ge to.size
 F b o q:=h.F b o (by rw[to.F] at q;exact q)
 heap:=(to.block b0 (Zog h.heap) h.un).trans h.heap
 un id q:=by
  rcases to.same id b0 q with r|r
  ·exact h.un id r
  ·have:=Zog h.heap;omega
 len:=h.len
 ent q g en h1 h2:=by
  obtain⟨a1,a2,a3,a4,a5⟩:=h.ent q g en h1 h2;exact⟨WK to.leaf a1,a2.leaf to.leaf (to.block _ a4.lt a4.un),a3,a4.to to,a5⟩
 born:=h.born
 dist:=h.dist
theorem ZsC{σ:Sg}{w':yz}{B':Nat->Prop}(hc:∀(b o:Nat)(v:yh),σ.w.cell? ⟨b,o,none⟩=some v->σ.stab b o->w'.heap[b]? =σ.w.heap[b]? /\(σ.B b->B' b))
 (hm:∀id b:Nat,σ.m[id]? =some (some b)->w'.heap[b]? =σ.w.heap[b]?):Leaf σ { σ with w:=w',B:=B'}:=by
 refine⟨λb o v h1 h2=> ?_,λid b h1 h2=>⟨h1,h2⟩,λid s len A c h=> ?_,λid b h1 h2=>⟨h1,h2⟩,λid v s st e d h=>⟨v,st,d,h,yl _,λ_=>⟨rfl,λb cur hb hc'=>⟨cur, ?_,rfl⟩⟩⟩⟩
 ·obtain⟨q1,q2⟩:=hc b o v h1 h2;exact⟨by rw[World.cell?_of_block (w:=σ.w) q1];exact h1,h2.1.imp id q2,h2.2⟩
 ·obtain⟨e,ys,h1,h2,h3⟩:=h;refine⟨e,ys,h1,h2,λq=> ?_⟩;rcases h3 q with h4|⟨b,cur,h4,h5,h6,h7⟩
  ·exact .inl h4
  ·exact .inr ⟨b,cur,h4,h5,by show w'.heap[b]? =_;rw[hm id b h4];exact h6,h7⟩
 ·show w'.heap[b]? =_;rw[hm id b hb];exact hc'
theorem ZAH{σ:Sg}{w':yz}{B':Nat->Prop}(ok:Ok σ)(leaf:Leaf σ { σ with w:=w',B:=B'})(hm:∀id b:Nat,σ.m[id]? =some (some b)->w'.heap[b]? =σ.w.heap[b]?)(hs:σ.w.heap.size<=w'.heap.size)
 (hB:∀b,w'.heap.size<=b->B' b) (hB2:∀id b:Nat,σ.m[id]? =some (some b)->B' b):Ok { σ with w:=w',B:=B'} where
 len:=ok.len
 inj:=ok.inj
 lt i b h:=ycv (ok.lt i b h) hs
 ent i e a h1 h2:=Zab leaf (λb hb=>hm i b (by rw[<-hb];exact h2)) (ok.ent i e a h1 h2)
 new:=hB
 own:=hB2
structure More(P:yg)(b0 s:Nat)(e t u ty:yb)(σ:Sg)(v S:yh)(b:Nat)(ys:List Pl)(v':yh)(w':yz)(b':Nat)(B':Nat->Prop):Prop where
 run:(Builtin.append_ #[t,u] ty #[v,S]).run P σ.w=.ok v' w'
 leaf:Leaf σ { σ with w:=w',B:=B'}
 ok:Ok { σ with w:=w',B:=B'}
 row:RowIn { σ with w:=w',B:=B'} s e ys v' b'
 pv:Pv b0 { σ with w:=w',B:=B'} b'
 other:∀x,x≠b->x < σ.w.heap.size->w'.heap[x]? =σ.w.heap[x]?
 blk:b'=b\/σ.w.heap.size<=b'
 B:∀x,B' x->σ.B x
 os:w'.os=σ.w.os
 tape:w'.tape=σ.w.tape
 output:w'.output=σ.w.output
 size:σ.w.heap.size<=w'.heap.size
theorem Zp9{σ:Sg}(ok:Ok σ){id b x:Nat}(h:σ.m[id]? =some (some b))(hx:σ.w.heap.size<=x):b≠x:=by
 have:=ok.lt id b h;omega
theorem ZB4{σ:Sg}{b o:Nat}{v:yh}(h:σ.w.cell? ⟨b,o,none⟩=some v):b < σ.w.heap.size:=Wu h
theorem ZyH{P:yg}{b0 s:Nat}{e t u ty:yb}{σ:Sg}(ok:Ok σ)(hb0:b0 < σ.w.heap.size)(hF:∀o,¬σ.F σ.w.heap.size o){v S:yh}{b:Nat}{ys:yL Pl}{cs:Array yh}{c:Nat}
 (run:(Builtin.append_ #[t,u] ty #[v,S]).run P σ.w=.ok (.slice (some ⟨σ.w.heap.size,0,none⟩) ys.length c) (σ.w.drew.alloc (.cells cs e))) (hcs:cs.size=c*s) (hle:ys.length<=c) (hcm:c<=maxLen) (zL:allSz s ys)
 (hr:repCs σ.w σ.stab ys (cs.toList.take (ys.length*s))):
 More P b0 s e t u ty σ v S b ys (.slice (some ⟨σ.w.heap.size,0,none⟩) ys.length c) (σ.w.drew.alloc (.cells cs e)) σ.w.heap.size (λx=>σ.B x/\x≠σ.w.heap.size):=by
 have hg:=Y8 σ.w (.cells cs e) none;have zU:∀x,x < σ.w.heap.size->(σ.w.drew.alloc (.cells cs e)).heap[x]? =σ.w.heap[x]? :=λx hx=>hg.block x hx (by simp);have hnew:(σ.w.drew.alloc (.cells cs e)).heap[σ.w.heap.size]? =some (.cells cs e (0,0)):=heap_alloc_new σ.w.drew _;have leaf:Leaf σ { σ with w:=σ.w.drew.alloc (.cells cs e),B:=λx=>σ.B x/\x≠σ.w.heap.size}:=ZsC (λx o v h1 h2=>⟨zU x (ZB4 h1),λh=>⟨h,by have:=ZB4 h1;omega⟩⟩) (λid x h=>zU x (ok.lt id x h));have hlt:=Zog hnew
 exact{ run:=run,leaf:=leaf,ok:=ZAH ok leaf (λid x h=>zU x (ok.lt id x h)) hg.size (λx hx=>⟨ok.new x (by have:=hg.size;omega),by omega⟩) (λid x h=>⟨ok.own id x h,Zp9 ok h (yl _)⟩),
         row:=⟨c,cs,rfl,hnew,hcs,hle,hcm,zL,repCs_mono leaf.cells _ _ hr⟩,
         pv:=⟨λh=>h.2 rfl,hF,hlt,λid q=>Zp9 ok q (yl _) rfl,by omega⟩,
         other:=λx _ hx=>zU x hx,blk:=.inr (yl _),B:=λx h=>h.1,os:=hg.os,tape:=hg.tape,output:=hg.output,size:=hg.size}
theorem ZFV{P:yg}{b0 s:Nat}{e t u ty:yb}{i:TypeInfo}{σ:Sg}(ok:Ok σ)(hb0:b0 < σ.w.heap.size)(hF:∀o,¬σ.F σ.w.heap.size o)(ht:P.underlying t=some (.slice e))(hi:P.info? e=some i)(hz:zOk i=true)
 (hs:i.size=s) {xs:yL Pl} {v S:yh} {b:Nat} {y:Pl} (hr:RowIn σ s e xs v b) (hp:Pv b0 σ b) (hsrc:ZmB P σ s u S [y]) (hb:(xs.length+1)*i.bytes<=bytesBound) (hm:xs.length+1<=maxLen):
 ∃v' w' b' B',More P b0 s e t u ty σ v S b (xs++[y]) v' w' b' B':=by
 obtain⟨c,cur,rfl,h2,h3,h4,h5,h6,h7⟩:=hr;obtain⟨zV,hS,hrn,zL⟩:=hsrc;subst hs;have hnl:zV.length=1*i.size:=hS.cells;have hone:∀v,v∈zV->v.oneCell'=true:=repCs_one _ _ hrn;have hall2:allSz i.size (xs++[y]):=WU h6 (zL (by simp))
 have hus:(cur.toList.take (xs.length*i.size)).length=xs.length*i.size:=by
  have hcl:cur.toList.length=c*i.size:=by simpa using h3
  rw[yv,hcl];exact Nat.min_eq_left (ybp _ h4)
 have hrr:repCs σ.w σ.stab (xs++[y]) (cur.toList.take (xs.length*i.size)++zV):=Yt h7 hrn;have zB:(xs++[y]).length=xs.length+1:=by simp
 obtain⟨z,hzz,hzs⟩:=Zb8 hz;rcases Nat.lt_or_ge c (xs.length+1) with hgr|hroom
 ·have hold:(Builtin.firstCells i.size xs.length (.slice (some ⟨b,0,none⟩) xs.length c)).run P σ.w.drew=.ok (cur.toList.take (xs.length*i.size)).toArray σ.w.drew:=by
   refine run_firstCells_some _ _ _ ⟨b,_,none⟩ _ c _ hus (λj v hv=> ?_);rw[Addr.add_mk,yay]
   have hv2:cur[j]? =some v:=by
    rw[List.getElem?_take] at hv;split at hv
    ·rw[<-ycd];exact hv
    ·cases hv
   rw[cell_of_row σ.w.drew b j cur e (0,0) h2];exact hv2
  have zO:=Zhs (P:=P) (ty:=ty) ht hi hzz hS hold hgr hm hb;have hge:=grownCap_ge σ.w (xs.length+1) c e;have hcm:=grownCap_le_maxLen σ.w (xs.length+1) c e hm;have hl1:xs.length+[y].length=(xs++[y]).length:=by simp
  rw[hl1] at zO;refine⟨_,_,_,_,ZyH ok hb0 hF zO ?_ (by rw[zB];exact hge) (by rw[zB];exact hcm) hall2 ?_⟩
  ·simp only[Array.size_append,List.size_toArray,size_zeroCells,hzs,hus,hnl, <-yaz,zB];congr 1;have:xs.length+1<=grownCap σ.w (xs.length+1) c e:=hge;omega
  ·have e1:(cur.toList.take (xs.length*i.size)++zV).length=(xs++[y]).length*i.size:=by rw[yj,hus,hnl,zB,yaz]
   rw[<-e1];simp only[Array.toList_append,List.take_left',yx];rw[<-yx,List.take_left' rfl];exact hrr
 ·have zO:=Zhr (P:=P) (ty:=ty) ht hi hS hone h2 hroom h3;let ncur:Array yh:=(cur.toList.take (xs.length*i.size)++zV++cur.toList.drop (xs.length*i.size+zV.length)).toArray;have zU:(σ.w.setRow b ncur).heap[b]? =some (.cells ncur e (0,0)):=setRow_heap σ.w b cur _ e _ h2;have hoth:∀j,j≠b->(σ.w.setRow b ncur).heap[j]? =σ.w.heap[j]? :=λj hj=>setRow_other σ.w b j _ hj;have hfit:xs.length*i.size+zV.length<=cur.size:=by rw[hnl,h3, <-yaz];exact ybp _ hroom
  have hncs:ncur.size=c*i.size:=by
   simp only[ncur,List.size_toArray,yj,ybf,ybo,hus];omega
  have htk:ncur.toList.take ((xs++[y]).length*i.size)=cur.toList.take (xs.length*i.size)++zV:=by
   have e1:(cur.toList.take (xs.length*i.size)++zV).length=(xs++[y]).length*i.size:=by rw[yj,hus,hnl,zB,yaz]
   rw[<-e1];exact List.take_left
  have leaf:Leaf σ { σ with w:=σ.w.setRow b ncur,B:=σ.B}:=ZsC (λx o v h1 h2'=>⟨hoth x (λq=>by subst q;exact hp.not_stab h2'),λh=>h⟩) (λid x h=>hoth x (λq=>by subst q;exact hp.un id h));have hsz:(σ.w.setRow b ncur).heap.size=σ.w.heap.size:=by simp
  have hl1:xs.length+[y].length=(xs++[y]).length:=by simp
  rw[hl1] at zO;have ok2:Ok { σ with w:=σ.w.setRow b ncur,B:=σ.B}:=ZAH ok leaf (λid x h=>hoth x (λq=>by subst q;exact hp.un id h)) (by rw[hsz];exact yl _) (λx hx=>ok.new x (by rw[<-hsz];exact hx)) ok.own;refine⟨_,_,b,σ.B,zO,leaf,ok2,⟨c,ncur,rfl,zU,hncs,by rw[zB];exact hroom,h5,hall2,by rw[htk];exact repCs_mono leaf.cells _ _ hrr⟩,⟨hp.B,hp.F, ?_,hp.un,hp.ne⟩,λx hx _=>hoth x hx,.inl rfl,λx h=>h,rfl,rfl,rfl, ?_⟩
  ·show b < (σ.w.setRow b ncur).heap.size;rw[hsz];exact hp.lt
  ·exact Nat.le_of_eq hsz.symm
theorem ZFW{P:yg}{b0 s:Nat}{e t u ty:yb}{i:TypeInfo}{σ:Sg}{a:Act}{ts:yL Dv}(ok:Ok σ)(yK:RepT σ ts a)(hb0:b0 < σ.w.heap.size)(hF:∀o,¬σ.F σ.w.heap.size o)(ht:P.underlying t=some (.slice e))(hi:P.info? e=some i)(hz:zOk i=true)
 (hs:i.size=s) (hne:i.size≠0) {S:Operand} {y:Pl} {b:Nat} (hsrc:ZmB P σ s u (a.eval S) [y]) (hb:1*i.bytes<=bytesBound) (hm:1<=maxLen):
 ∃v' w' b' B',More P b0 s e t u ty σ (.slice none 0 0) (a.eval S) b [y] v' w' b' B':=by
 subst hs;have hce:P.cellsOf e=i.size:=by simp[Program.cellsOf,hi]
 rcases Vy (P:=P) (ty:=ty) ok yK ht hi hz hne (by rw[hce];exact hsrc) (by simpa using hb) (by simpa using hm) with⟨h,_⟩|⟨zV,yJ,hys,zL,hr,hge,hcm,hcs,zO⟩
 ·cases h
 ·have hnl:zV.length=[y].length*i.size:=by rw[repCs_size _ _ hr,sizes_all zL]
  refine⟨_,_,_,_,ZyH ok hb0 hF zO hcs hge hcm zL ?_⟩;rw[<-hnl];simp only[Array.toList_append,List.take_left'];exact hr
theorem ZB5{P:yg}{σ:Sg}{kt:yb}{k:Pl}{F:yL MapEntry->Nat->yO (Nat×yh)->Prop}(hF:Finder P σ kt k F):∀(ks:yL Pl)(es:yL MapEntry)(i:Nat),
 (∀(j:Nat)key en,ks[j]? =some key->es[j]? =some en->yH σ (.p key) en.key/\fitP P 20 kt key)->ks.length=es.length->
 (∀q,ks[q]? =some k->(∀j,j < q->ks[j]? ≠some k)->∃en,es[q]? =some en/\F es i (some (i+q,en.val)))/\((∀j:Nat,ks[j]? ≠some k)->F es i none)
 |[],[],i,_,_=>⟨λq h _=>by simp at h,λ_=>hF.nil i⟩
 |[],_::_,_,_,h=>by simp at h
 |_::_,[],_,_,h=>by simp at h
 |x::ks,e::es,i,hr,hl=>by
  obtain⟨r1,r2⟩:=hr 0 x e rfl rfl;obtain⟨a1,a2⟩:=ZB5 hF ks es (i+1) (λj key en h1 h2=>hr (j+1) key en h1 h2) (by simpa using hl);refine⟨λq hq hb=> ?_,λhn=> ?_⟩
  ·cases q with
   |zero=>
    have hk:x=k:=by simpa using hq
    exact⟨e,rfl,hF.eq e es i x r2 r1 hk.symm⟩
   |succ q=>
    have hne:k≠x:=λh=>hb 0 (Nat.zero_lt_succ q) (by rw[h];rfl);obtain⟨en,b1,b2⟩:=a1 q (by simpa using hq) (λj hj=>by have:=hb (j+1) (Nat.succ_lt_succ hj);simpa using this);exact⟨en,b1,by have:=hF.ne e es i x _ r2 r1 hne b2;rwa [show i+1+q=i+(q+1) by omega] at this⟩
  ·have hne:k≠x:=λh=>hn 0 (by rw[h];rfl);exact hF.ne e es i x _ r2 r1 hne (a2 λj=>by have:=hn (j+1);simpa using this)
theorem ZB6{σ:Sg}(ok:Ok σ){b0:Nat}{es es':Array MapEntry}{clock clock':Nat}(hb:σ.w.heap[b0]? =some (.map es clock))(un:∀id:Nat,σ.m[id]? ≠some (some b0)):
 Leaf σ { σ with w:={ σ.w with heap:=σ.w.heap.setIfInBounds b0 (.map es' clock')}}/\Ok { σ with w:={ σ.w with heap:=σ.w.heap.setIfInBounds b0 (.map es' clock')}}:=by
 obtain⟨g1,g2⟩:=Go.MapKept.heap_set (w:=σ.w) (o':=.map es' clock') hb;have hm:∀id b:Nat,σ.m[id]? =some (some b)->(σ.w.heap.setIfInBounds b0 (.map es' clock'))[b]? =σ.w.heap[b]? :=λid b h=>g2 b (λq=>by subst q;exact un id h)
 have leaf:Leaf σ { σ with w:={ σ.w with heap:=σ.w.heap.setIfInBounds b0 (.map es' clock')},B:=σ.B}:=ZsC (λb o v h1 h2=>⟨g2 b (λq=>by
  subst q;simp[World.cell?,hb] at h1),λh=>h⟩) hm
 exact⟨leaf,ZAH ok leaf hm (by simp) (λb h=>ok.new b (by simpa using h)) ok.own⟩
inductive GPut(gs:List (Pl×List Pl×Nat))(k p:Pl)(b':Nat):List (Pl×List Pl×Nat)->Prop where
 |old (q:Nat) (xs:List Pl) (b:Nat) (h:gs[q]? =some (k,xs,b)) (hn:∀j g,j < q->gs[j]? =some g->g.1≠k):GPut gs k p b' (gs.set q (k,xs++[p],b'))
 |new (hn:∀(j:Nat)g,gs[j]? =some g->g.1≠k):GPut gs k p b' (gs++[(k,[p],b')])
theorem Zvb(k:Pl):∀(gs:yL (Pl×yL Pl×Nat)),(∃(q:Nat)(xs:yL Pl)(b:Nat),gs[q]? =some (k,xs,b)/\∀(j:Nat)(g:Pl×yL Pl×Nat),j < q->gs[j]? =some g->g.1≠k)\/∀(j:Nat)(g:Pl×yL Pl×Nat),gs[j]? =some g->g.1≠k
 |[]=>.inr λj g h=>by simp at h
 |x::r=>by
  by_cases hx:x.1=k
  ·exact .inl ⟨0,x.2.1,x.2.2,by rw[<-hx];rfl,λj g h=>absurd h (Nat.not_lt_zero j)⟩
  ·rcases Zvb k r with⟨q,xs,b,h1,h2⟩|h
   ·refine .inl ⟨q+1,xs,b,by simpa using h1,λj g hj hg=> ?_⟩
    cases j with
    |zero=>cases hg;exact hx
    |succ j=>exact h2 j g (Nat.lt_of_succ_lt_succ hj) (by simpa using hg)
   ·refine .inr λj g hg=> ?_
    cases j with
    |zero=>cases hg;exact hx
    |succ j=>exact h j g (by simpa using hg)
theorem ZDA{es:Array MapEntry}{q:Nat}{en:MapEntry}(h:es[q]? =some en)(hb:∀(q':Nat)en',es[q']? =some en'->en'.born=en.born->q'=q):
 (es.findIdx? λe=>(e.born:Int)==(en.born:Int))=some q:=by
 have hlt:q < es.size:=(yda.1 h).1;rw[Array.findIdx?_eq_some_iff_getElem];refine⟨hlt, ?_,λj hj=> ?_⟩
 ·rw[(yda.1 h).2];simp
 ·have hj2:j < es.size:=by omega
  have h2:es[j]? =some es[j]:=yce hj2;simp only[yT];intro he;have:=hb j es[j] h2 (by exact_mod_cast he);omega
section
variable{P:yg}{a:Act}{σ:Sg}{ts:yL Dv}
theorem ZDB{ops:Array ym}{Q:Exit->Act->yz->Prop}{p t0 t1 t2 t3 tm:Nat}{o1 o2 o3 o4 o5:ym}(g1:ops[p]? =some o1)(g2:ops[p+1]? =some o2)(g3:ops[p+2]? =some o3)(g4:ops[p+3]? =some o4)(g5:ops[p+4]? =some o5)
 (n1:o1.guard=none) (n2:o2.guard=none) (n3:o3.guard=none) (n4:o4.guard=none) (n5:o5.guard=none) {t tt u t5 kt et e:yb} {k y:Operand} {c:Call}
 (h1:o1.op=.mapEntry t (.tmp tm) k) (d1:o1.dst=some t0) (h2:o2.op=.extract (.tmp t0) 0) (d2:o2.dst=some t1) (h3:o3.op=.call c) (hc:c.callee=.builtin .append) (ha:c.args.toList=[.tmp t1,y]) (hty:c.argTypes.toList=[tt,u]) (d3:o3.dst=some t2)
 (h4:o4.op=.extract (.tmp t0) 1) (d4:o4.dst=some t3) (h5:o5.op=.entryStore t5 (.tmp tm) (.tmp t3) (.tmp t2)) (d5:o5.dst=none) (q01:t0≠t1) (q02:t0≠t2) (q23:t2≠t3) (m0:tm≠t0) (m1:tm≠t1) (m2:tm≠t2) (m3:tm≠t3) (l0:t0 < ts.length) (l1:t1 < ts.length) (l2:t2 < ts.length) (l3:t3 < ts.length)
 (ok:Ok σ) (yK:RepT σ ts a) {N b0 s:Nat} {gs:yL (Pl×yL Pl×Nat)} {es:Array MapEntry} {clock:Nat} (hmr:MR N b0 s e σ gs es clock) (hraw:a.eval (.tmp tm)=.map (some b0)) {kk pp:Pl} {s0:Nat} {i:TypeInfo} (hu:P.underlying t=some (.map kt et)) (hk:argD P ts kt k=.p kk)
 (hkt:keyTy P kt=true) (hfit:fitP P 20 kt kk) (hfits:∀(j:Nat)g,gs[j]? =some g->fitP P 20 kt g.1) (hzt:hasZero P et=true) (hzd:zeroD P et=.p (.sl (some false) s0 [])) (htt:P.underlying tt=some (.slice e)) (hi:P.info? e=some i) (hz:zOk i=true) (hne:i.size≠0) (hs:i.size=s)
 (hsrc:srcOf P (P.cellsOf e) u (argD P ((ts.set t0 .junk).set t1 .junk) u y)=some [pp]) (hbd:∀(j:Nat)g,gs[j]? =some g->(g.2.1.length+1)*i.bytes<=bytesBound/\g.2.1.length+1<=maxLen) (hb1:1*i.bytes<=bytesBound)
 (hQ:∀a' σ' gs' es' clock' b',GPut gs kk pp b' gs'->MR N b0 s e σ' gs' es' clock'->σ'.H=σ.H->σ'.m=σ.m->Md N b0 σ σ'->Ok σ'->RepT σ' ((((ts.set t0 .junk).set t1 .junk).set t2 .junk).set t3 .junk) a'->(∀x,x≠t0->x≠t1->x≠t2->x≠t3->a'.eval (.tmp x)=a.eval (.tmp x))->Q .normal a' σ'.w):wpOps P ops Q [p,p+1,p+2,p+3,p+4] a σ.w:=by
 have hkv:=Zq (P:=P) yK kt k;rw[hk] at hkv;have hb0:=hmr.heap;obtain⟨F,hF,hrunF⟩:=Zgm (P:=P) hkt hfit hkv;have hchk:=Qn (em:=false) 20 kt kk _ hfit hkv 9980;have hesl:es.toList.length=gs.length:=by rw[ybo];exact hmr.len
 obtain⟨fi1,fi2⟩:=ZB5 hF (gs.map (·.1)) es.toList 0 (λj key en k1 k2=>by
  rw[yal] at k1
  cases hg:gs[j]? with
  |none=>rw[hg] at k1;cases k1
  |some g=>
   rw[hg] at k1;cases k1;exact⟨(hmr.ent j g en hg (by rw[<-ycd];exact k2)).1,hfits j g hg⟩) (by rw[yaa,hesl])
 obtain⟨zv,hzv,hzr⟩:∃z,(zeroValue et).run P σ.w=.ok z σ.w/\yH σ (zeroD P et) z:=by
  unfold hasZero at hzt;split at hzt
  ·rename_i i hi
   cases hzz:i.zero with
   |none=>simp[hzz] at hzt
   |some z=>
    refine⟨z,by simp[zeroValue,typeInfo,hi,hzz], ?_⟩;unfold zeroD;rw[hi];simp only[hzz];exact Zaa
  ·cases hzt
 rw[hzd] at hzr;have hzn:=ZnI hzr;subst hzn
 have step1:∃(es1:Array MapEntry)(clock1 q:Nat)(en1:MapEntry)(v:yh)(ys:yL Pl)(b:Nat),(Instr.mapEntry t (a.eval (.tmp tm)) (a.eval k)).run P σ.w=.ok (.tuple #[v,goInt en1.born]) { σ.w with heap:=σ.w.heap.setIfInBounds b0 (.map es1 clock1)}/\
  es1[q]? =some en1/\yH σ (.p kk) en1.key/\en1.born < clock1/\clock<=clock1/\(∀j,j≠q->es1[j]? =es[j]?)/\(∀q' en',es1[q']? =some en'->en'.born=en1.born->q'=q)/\
  ((∃xs,ys=xs++[pp]/\gs[q]? =some (kk,xs,b)/\(∀j g,j < q->gs[j]? =some g->g.1≠kk)/\RowIn σ s e xs v b/\Pv b0 σ b/\N<=b/\es1.size=es.size)\/(ys=[pp]/\v=.slice none 0 0/\(∀(j:Nat)g,gs[j]? =some g->g.1≠kk)/\q=es.size/\es1.size=es.size+1)):=by
  rcases Zvb kk gs with⟨q,xs,b,e1,e2⟩|e1
  ·obtain⟨en,f1,f2⟩:=fi1 q (by rw[yal,e1];rfl) (λj hj h=>by
    rw[yal] at h
    cases hg:gs[j]? with
    |none=>rw[hg] at h;cases h
    |some g=>rw[hg] at h;exact e2 j g hj hg (ybw h))
   rw[yay] at f2;have g5:=hrunF _ _ f2;have f1':es[q]? =some en:=by rw[<-ycd];exact f1
   obtain⟨r1,r2,r3,r4,r5⟩:=hmr.ent q _ en e1 f1';have hsame:en.key=a.eval k:=Zm4 (Zgl 20 kt kk hfit) r1 hkv
   have hbits:Instr.sameBits 10000 en.key (a.eval k)=true:=by
    rw[hsame];exact Zup (Zgl 20 kt kk hfit) hkv
   have hes:(es.modify q λe=>{ e with key:=a.eval k})=es:=by
    apply Array.ext_getElem?;intro j;rw[Array.getElem?_modify];by_cases hj:q=j
    ·subst hj;rw[yW rfl,f1'];simp only[yaf, <-hsame]
    ·rw[yX hj]
   refine⟨es,clock,q,en,en.val,xs++[pp],b, ?_,f1',r1,r3,yl _,λ_ _=>rfl,λq' en' h h'=>hmr.born q' q en' en h f1' h',.inl ⟨xs,rfl,e1,e2,r2,r4,r5,rfl⟩⟩;rw[hraw];simp only[Instr.mapEntry,Sem.run_bind,run_underlying hu,Result.andThen_ok,VU hb0,hchk,g5,Instr.keyThatStays,f1',yaf,Option.getD_some,hbits,if_true,Sem.run_pure,hes,Go.MapKept.run_setObj_map _ hb0]
  ·have g5:=hrunF _ _ (fi2 λj h=>by
    rw[yal] at h
    cases hg:gs[j]? with
    |none=>rw[hg] at h;cases h
    |some g=>rw[hg] at h;exact e1 j g hg (ybw h))
   have hlast:(es.push { key:=a.eval k,val:=.slice none 0 0,born:=clock})[es.size]? =some { key:=a.eval k,val:=.slice none 0 0,born:=clock}:=by simp
   have hold:∀j,j≠es.size->(es.push { key:=a.eval k,val:=.slice none 0 0,born:=clock})[j]? =es[j]? :=λj hj=>by
    rw[Array.getElem?_push,yX hj]
   refine⟨es.push { key:=a.eval k,val:=.slice none 0 0,born:=clock},clock+1,es.size,_,.slice none 0 0,[pp],0, ?_,hlast,hkv,Nat.lt_succ_self _,Nat.le_succ _,hold,λq' en' h h'=> ?_,.inr ⟨rfl,rfl,e1,rfl,by simp⟩⟩
   ·rw[hraw];simp only[Instr.mapEntry,Sem.run_bind,run_underlying hu,Result.andThen_ok,VU hb0,hchk,g5,hzv,Sem.run_pure,Go.MapKept.run_setObj_map _ hb0]
   ·by_cases hj:q'=es.size
    ·exact hj
    ·rw[hold q' hj] at h;have hlt:q' < gs.length:=by rw[<-hmr.len];exact(yda.1 h).1
     have:=(hmr.ent q' _ en' (yad hlt) h).2.2.1;simp only at h';omega
 obtain⟨es1,clock1,q,en1,v,ys,b,run1,e1q,e1k,e1c,e1cc,e1o,e1b,e1⟩:=step1;obtain⟨leaf1,ok1⟩:=ZB6 (es':=es1) (clock':=clock1) ok hb0 hmr.un;obtain⟨w1a,w1b⟩:=Go.MapKept.heap_set (w:=σ.w) (o':=.map es1 clock1) hb0;let σ1:Sg:={ σ with w:={ σ.w with heap:=σ.w.heap.setIfInBounds b0 (.map es1 clock1)}};have leaf1:Leaf σ σ1:=leaf1;have ok1:Ok σ1:=ok1;have w1a:σ1.w.heap[b0]? =some (.map es1 clock1):=w1a;have w1b:∀x,x≠b0->σ1.w.heap[x]? =σ.w.heap[x]? :=w1b;have sz1:σ1.w.heap.size=σ.w.heap.size:=by show(σ.w.heap.setIfInBounds b0 (.map es1 clock1)).size=_;simp
 have x1:(execOp a.eval o1).run P σ.w=.ok (.value (.tuple #[v,goInt en1.born])) σ1.w:=by simp[execOp,h1,run1];rfl
 refine VB g1 n1 x1 ?_;rw[d1];have r1:RepT σ1 (ts.set t0 .junk) (a.put (some t0) (.tuple #[v,goInt en1.born])):=ZaT (yK.to leaf1);have k1:(a.put (some t0) (.tuple #[v,goInt en1.born])).eval (.tmp tm)=.map (some b0):=by rw[YO m0];exact hraw
 generalize ha1:a.put (some t0) (.tuple #[v,goInt en1.born])=a1 at r1 k1 ⊢;have ht0:t0 < a.tmps.size:=by rw[yK.size];exact l0
 have v1:a1.eval (.tmp t0)=.tuple #[v,goInt en1.born]:=by rw[<-ha1];exact Zcj ht0
 have x2:(execOp a1.eval o2).run P σ1.w=.ok (.value v) σ1.w:=by
  have:(Instr.extract (a1.eval (.tmp t0)) 0).run P σ1.w=.ok v σ1.w:=by rw[v1];simp[Instr.extract]
  simp[execOp,h2,this]
 refine VB g2 n2 x2 ?_;rw[d2];have r2:RepT σ1 ((ts.set t0 .junk).set t1 .junk) (a1.put (some t1) v):=ZaT r1;have k2:(a1.put (some t1) v).eval (.tmp tm)=.map (some b0):=by rw[YO m1];exact k1
 have s1:t1 < a1.tmps.size:=by rw[r1.size,yan];exact l1
 generalize ha2:a1.put (some t1) v=a2 at r2 k2 ⊢;have v2:a2.eval (.tmp t1)=v:=by rw[<-ha2];exact Zcj s1
 have v20:a2.eval (.tmp t0)=.tuple #[v,goInt en1.born]:=by rw[<-ha2,YO q01];exact v1
 have hce:P.cellsOf e=i.size:=by simp[Program.cellsOf,hi]
 have hF1:∀o,¬σ1.F σ1.w.heap.size o:=λo h=>by
  have h1:=hmr.F _ _ h;have h2:=hmr.ge;omega
 have hb1lt:b0 < σ1.w.heap.size:=Zog w1a
 have hso:ZmB P σ1 s u (a2.eval y) [pp]:=by
  have:=Zac (P:=P) r2 hsrc;rw[hce,hs] at this;exact this
 have step3:∃v' w' b' B' bb,More P b0 s e tt u o3.type σ1 v (a2.eval y) bb ys v' w' b' B'/\bb≠b0/\(∀j g,j≠q->gs[j]? =some g->g.2.2≠bb)/\(N<=bb):=by
  rcases e1 with⟨xs,rfl,f1,f2,f3,f4,f5,f6⟩|⟨rfl,rfl,f2,f3,f4⟩
  ·have hbb:=hbd q _ f1;obtain⟨v',w',b',B',hm⟩:=ZFV (P:=P) (u:=u) (ty:=o3.type) (S:=a2.eval y) (y:=pp) ok1 hb1lt hF1 htt hi hz hs (f3.leaf leaf1 (w1b _ f4.ne)) ⟨f4.B,f4.F,by show b < σ1.w.heap.size;rw[sz1];exact f4.lt,f4.un,f4.ne⟩ hso hbb.1 hbb.2;exact⟨v',w',b',B',b,hm,f4.ne,λj g hj hg h=>hj (hmr.dist j q g _ hg f1 h),f5⟩
  ·obtain⟨v',w',b',B',hm⟩:=ZFW (P:=P) (u:=u) (ty:=o3.type) (S:=y) (y:=pp) (b:=σ1.w.heap.size) ok1 r2 hb1lt hF1 htt hi hz hs hne hso hb1 (by simp[maxLen]);refine⟨v',w',b',B',_,hm,by omega,λj g hj hg h=> ?_,by rw[sz1];exact hmr.ge⟩;have hlt:j < es.size:=by rw[hmr.len];exact(yo.1 hg).1
   have:=(hmr.ent j g _ hg (yce hlt)).2.2.2.1.lt;rw[sz1] at h;omega
 obtain⟨v3,w3,b3,B3,bb,hm,hbb0,hbbo,hbbN⟩:=step3;let σ3:Sg:={ σ1 with w:=w3,B:=B3};have x3:(execOp a2.eval o3).run P σ1.w=.ok (.value v3) σ3.w:=Yl (σ:=σ1) (w':=w3) h3 hc ha hty (by rw[v2];exact hm.run);refine VB g3 n3 x3 ?_;rw[d3];have r3:RepT σ3 (((ts.set t0 .junk).set t1 .junk).set t2 .junk) (a2.put (some t2) v3):=ZaT (r2.to hm.leaf);have k3:(a2.put (some t2) v3).eval (.tmp tm)=.map (some b0):=by rw[YO m2];exact k2
 have s2:t2 < a2.tmps.size:=by rw[r2.size,yan,yan];exact l2
 generalize ha3:a2.put (some t2) v3=a3 at r3 k3 ⊢;have v30:a3.eval (.tmp t0)=.tuple #[v,goInt en1.born]:=by rw[<-ha3,YO q02];exact v20
 have v32:a3.eval (.tmp t2)=v3:=by rw[<-ha3];exact Zcj s2
 have x4:(execOp a3.eval o4).run P σ3.w=.ok (.value (goInt en1.born)) σ3.w:=by
  have:(Instr.extract (a3.eval (.tmp t0)) 1).run P σ3.w=.ok (goInt en1.born) σ3.w:=by rw[v30];simp[Instr.extract]
  simp[execOp,h4,this]
 refine VB g4 n4 x4 ?_;rw[d4];have r4:RepT σ3 ((((ts.set t0 .junk).set t1 .junk).set t2 .junk).set t3 .junk) (a3.put (some t3) (goInt en1.born)):=ZaT r3;have k4:(a3.put (some t3) (goInt en1.born)).eval (.tmp tm)=.map (some b0):=by rw[YO m3];exact k3
 have s3:t3 < a3.tmps.size:=by rw[r3.size,yan,yan,yan];exact l3
 generalize ha4:a3.put (some t3) (goInt en1.born)=a4 at r4 k4 ⊢;have v43:a4.eval (.tmp t3)=goInt en1.born:=by rw[<-ha4];exact Zcj s3
 have v42:a4.eval (.tmp t2)=v3:=by rw[<-ha4,YO q23];exact v32
 have w3a:σ3.w.heap[b0]? =some (.map es1 clock1):=(hm.other b0 (Ne.symm hbb0) hb1lt).trans w1a;have hfi:=ZDA e1q e1b;let en5:MapEntry:={ en1 with val:=v3};let es5:Array MapEntry:=es1.modify q λe=>{ e with val:=v3};obtain⟨leaf5,ok5⟩:=ZB6 (es':=es5) (clock':=clock1) (σ:=σ3) hm.ok w3a hmr.un;obtain⟨w5a,w5b⟩:=Go.MapKept.heap_set (w:=σ3.w) (o':=.map es5 clock1) w3a;let σ5:Sg:={ σ3 with w:={ σ3.w with heap:=σ3.w.heap.setIfInBounds b0 (.map es5 clock1)}};have leaf5:Leaf σ3 σ5:=leaf5;have ok5:Ok σ5:=ok5;have w5b:∀x,x≠b0->σ5.w.heap[x]? =σ3.w.heap[x]? :=w5b;have sz5:σ5.w.heap.size=σ3.w.heap.size:=by show(σ3.w.heap.setIfInBounds b0 (.map es5 clock1)).size=_;simp
 have x5:(execOp a4.eval o5).run P σ3.w=.ok .skip σ5.w:=by
  have:(Instr.entryStore t5 (a4.eval (.tmp tm)) (a4.eval (.tmp t3)) (a4.eval (.tmp t2))).run P σ3.w=.ok () σ5.w:=by
   rw[k4,v43,v42];simp only[Instr.entryStore,goInt,asInt,asIntOf,Sem.run_bind,VU w3a,Result.andThen_ok,Sem.run_pure,hfi,Go.MapKept.run_setObj_map _ w3a];rfl
  simp[execOp,h5,this]
 refine Zsr g5 n5 x5 ?_;rw[d5];have hle3:σ1.w.heap.size<=σ3.w.heap.size:=hm.size
 have es5q:es5[q]? =some en5:=by
  show(es1.modify q _)[q]? =_;rw[Array.getElem?_modify,yW rfl,e1q];rfl
 have es5o:∀j,j≠q->es5[j]? =es1[j]? :=λj hj=>by
  show(es1.modify q _)[j]? =_;rw[Array.getElem?_modify,yX (Ne.symm hj)]
 have hl5:es5.size=es1.size:=by show(es1.modify q _).size=_;simp
 have hrow5:RowIn σ5 s e ys v3 b3:=hm.row.leaf leaf5 (w5b _ hm.pv.ne);have hpv5:Pv b0 σ5 b3:=⟨hm.pv.B,hm.pv.F,by rw[sz5];exact hm.pv.lt,hm.pv.un,hm.pv.ne⟩;have leaf15:Leaf σ σ5:=(leaf1.trans hm.leaf).trans leaf5
 have hb3N:N<=b3:=by
  rcases hm.blk with h|h
  ·rw[h];exact hbbN
  ·rw[sz1] at h;exact ybj hmr.ge h
 have hmd:Md N b0 σ σ5:=by
  refine⟨leaf15,λx o h=>h,λx h=>hm.B x h, ?_, ?_, ?_, ?_,λx h1 h2 _=> ?_,λid x h=>.inl h⟩
  ·exact hm.os
  ·exact hm.tape
  ·exact hm.output
  ·rw[sz5];exact ybj (Nat.le_of_eq sz1.symm) hle3
  ·rw[w5b x h2,hm.other x (by omega) (by rw[sz1];exact ycv h1 hmr.ge),w1b x h2]
 have hoth:∀(j:Nat)g en,j≠q->gs[j]? =some g->es[j]? =some en->yH σ5 (.p g.1) en.key/\RowIn σ5 s e g.2.1 en.val g.2.2/\en.born < clock1/\Pv b0 σ5 g.2.2/\N<=g.2.2/\g.2.2≠b3:=by
  intro j g en hj hg he;obtain⟨a1,a2,a3,a4,a5⟩:=hmr.ent j g en hg he;have hne:=hbbo j g hj hg;have hlt:g.2.2 < σ1.w.heap.size:=by rw[sz1];exact a4.lt
  have hh:σ5.w.heap[g.2.2]? =σ.w.heap[g.2.2]? :=by rw[w5b _ a4.ne,hm.other _ hne hlt,w1b _ a4.ne]
  refine⟨WK leaf15 a1,a2.leaf leaf15 hh,ycv a3 e1cc,⟨λh=>a4.B (hm.B _ h),a4.F,by rw[sz5];exact ycv hlt hle3,a4.un,a4.ne⟩,a5,λh=> ?_⟩;rcases hm.blk with r|r
  ·exact hne (h.trans r)
  ·omega
 have hge5:N<=σ5.w.heap.size:=by rw[sz5];exact ybj (by rw[sz1];exact hmr.ge) hle3
 have hborn5:∀(j j':Nat)x x',es5[j]? =some x->es5[j']? =some x'->x.born=x'.born->j=j':=by
  intro j j' x x' hx hx' hb;by_cases hj:j=q
  ·subst hj;rw[es5q] at hx;cases hx;by_cases hj':j'=j
   ·exact hj'.symm
   ·rw[es5o j' hj'] at hx';exact(e1b j' x' hx' hb.symm).symm
  ·rw[es5o j hj] at hx;by_cases hj':j'=q
   ·subst hj';rw[es5q] at hx';cases hx';exact e1b j x hx hb
   ·rw[es5o j' hj',e1o j' hj'] at hx';rw[e1o j hj] at hx;exact hmr.born j j' x x' hx hx' hb
 have e5k:yH σ5 (.p kk) en5.key:=WK leaf15 e1k;have kept:∀x,x≠t0->x≠t1->x≠t2->x≠t3->a4.eval (.tmp x)=a.eval (.tmp x):=λx z0 z1 z2 z3=>by rw[<-ha4,YO z3, <-ha3,YO z2, <-ha2,YO z1, <-ha1,YO z0]
 rcases e1 with⟨xs,rfl,f1,f2,f3,f4,f5,f6⟩|⟨rfl,rfl,f2,f3,f4⟩
 ·have hql:q < gs.length:=(yo.1 f1).1;refine hQ a4 σ5 (gs.set q (kk,xs++[pp],b3)) es5 clock1 b3 (.old q xs b f1 f2) ⟨hge5,hmr.F,w5a,hmr.un,by rw[hl5,f6,yan];exact hmr.len,λj g en hg he=> ?_,hborn5,λj j' g g' hg hg' hb=> ?_⟩ rfl rfl hmd ok5 (r4.to leaf5) kept
  ·by_cases hj:j=q
   ·subst hj;rw[es5q] at he;cases he;rw[ycw hql] at hg;cases hg;exact⟨e5k,hrow5,e1c,hpv5,hb3N⟩
   ·rw[es5o j hj,e1o j hj] at he;rw[ycy (Ne.symm hj)] at hg;obtain⟨z1,z2,z3,z4,z5,_⟩:=hoth j g en hj hg he;exact⟨z1,z2,z3,z4,z5⟩
  ·have key:∀(j:Nat)g,j≠q->gs[j]? =some g->g.2.2≠b3:=λj g hj hg=>by
    have hlt:j < es.size:=by rw[hmr.len];exact(yo.1 hg).1
    exact(hoth j g _ hj hg (yce hlt)).2.2.2.2.2
   by_cases hj:j=q
   ·subst hj;rw[ycw hql] at hg;cases hg;by_cases hj':j'=j
    ·exact hj'.symm
    ·rw[ycy (Ne.symm hj')] at hg';exact absurd hb.symm (key j' g' hj' hg')
   ·rw[ycy (Ne.symm hj)] at hg;by_cases hj':j'=q
    ·subst hj';rw[ycw hql] at hg';cases hg';exact absurd hb (key j g hj hg)
    ·rw[ycy (Ne.symm hj')] at hg';exact hmr.dist j j' g g' hg hg' hb
 ·have hqg:q=gs.length:=by rw[f3,hmr.len]
  refine hQ a4 σ5 (gs++[(kk,[pp],b3)]) es5 clock1 b3 (.new f2) ⟨hge5,hmr.F,w5a,hmr.un,by rw[hl5,f4,yj,hmr.len];rfl,λj g en hg he=> ?_,hborn5,λj j' g g' hg hg' hb=> ?_⟩ rfl rfl hmd ok5 (r4.to leaf5) kept
  ·by_cases hj:j=q
   ·subst hj;rw[es5q] at he;cases he;rw[hqg,yde] at hg;cases hg;exact⟨e5k,hrow5,e1c,hpv5,hb3N⟩
   ·rw[es5o j hj,e1o j hj] at he;have hlt:j < gs.length:=by rw[<-hmr.len];exact(yda.1 he).1
    rw[yba hlt] at hg;obtain⟨z1,z2,z3,z4,z5,_⟩:=hoth j g en hj hg he;exact⟨z1,z2,z3,z4,z5⟩
  ·have key:∀(j:Nat)g,j < gs.length->gs[j]? =some g->g.2.2≠b3:=λj g hj hg=>by
    have hlt:j < es.size:=by rw[hmr.len];exact hj
    exact(hoth j g _ (by omega) hg (yce hlt)).2.2.2.2.2
   have cs:∀(j:Nat)g,(gs++[(kk,[pp],b3)])[j]? =some g->(j < gs.length/\gs[j]? =some g)\/(j=gs.length/\g.2.2=b3):=λj g hg=>by
    rcases Nat.lt_trichotomy j gs.length with h|h|h
    ·rw[yba h] at hg;exact .inl ⟨h,hg⟩
    ·subst h;rw[yde] at hg;cases hg;exact .inr ⟨rfl,rfl⟩
    ·rw[ybi (by simp;omega)] at hg;cases hg
   rcases cs j g hg with⟨c1,c2⟩|⟨c1,c2⟩
   ·rcases cs j' g' hg' with⟨c3,c4⟩|⟨c3,c4⟩
    ·exact hmr.dist j j' g g' c2 c4 hb
    ·exact absurd (hb.trans c4) (key j g c1 c2)
   ·rcases cs j' g' hg' with⟨c3,c4⟩|⟨c3,c4⟩
    ·exact absurd (hb.symm.trans c2) (key j' g' c3 c4)
    ·rw[c1,c3]
end
theorem ZFX{a:Act}{d:yO Tmp}{v:yh}{t:Nat}(h:d≠some t):(a.put d v).eval (.tmp t)=a.eval (.tmp t):=by
 cases d with
 |none=>rfl
 |some s=>exact YO (λe=>h (by rw[e]))
theorem Znh{P:yg}{ops:Array ym}(Q:Exit->Act->yz->Prop){ts':yL Dv}(more:yL Nat):∀(l:yL ym)(k:Nat)(ts:yL Dv)(σ:Sg)(a:Act)(hs hs':yL Hint)(C:yL Prop)(H':yL Ent),
 (∀(j:Nat)(x:ym),l[j]? =some x->ops[k+j]? =some x)->Ok σ->RepT σ ts a->evOps P ops l ts σ.H hs=some (C,ts',H',hs')->AllP C->
 (∀a' σ',(∀t,(∀x,x∈l->x.dst≠some t)->a'.eval (.tmp t)=a.eval (.tmp t))->σ'.H=H'->To σ σ'->Ok σ'->RepT σ' ts' a'->wpOps P ops Q more a' σ'.w)->wpOps P ops Q (yby k l.length++more) a σ.w
 |[],k,ts,σ,a,hs,hs',C,H',_,ok,yK,h,hc,hQ=>by
  simp only[evOps,yq,yab] at h;obtain⟨rfl,rfl,rfl,rfl⟩:=h
  exact hQ a σ (λ_ _=>rfl) rfl (To.refl σ) ok yK
 |o::l,k,ts,σ,a,hs,hs',C,H',hl,ok,yK,h,hc,hQ=>by
  simp only[evOps] at h;split at h
  ·rename_i C1 d1 H1 hs1 h1;split at h
   ·rename_i C2 ts2 H2 hs2 h2;simp only[yq,yab] at h;obtain⟨rfl,rfl,rfl,rfl⟩:=h;obtain⟨c1,c2⟩:=Zk.1 hc;have h0:ops[k]? =some o:=by simpa using hl 0 o rfl
    simp only[yao,List.range'_succ,yae,wpOps,h0]
    have key:=Ziv (P:=P) (ops:=ops) ok yK h1 c1 (wpOps P ops Q (yby (k+1) l.length++more)) Q (λv σ1 e1 to1 ok1 hrep1=>by
     subst e1
     exact Znh Q more l (k+1) _ σ1 _ hs1 _ C2 _ (λj x hx=>by have:=hl (j+1) x (by simpa using hx);simpa[ych,Nat.add_comm 1 j] using this) ok1 hrep1 h2 c2
      (λa' σ' e0 e2 to2 ok2 hrep2=>hQ a' σ' (λt hd=>(e0 t λx hx=>hd x (ybh _ hx)).trans (ZFX (hd o (ybd ..)))) e2 (to1.trans to2) ok2 hrep2))
    by_cases hw:Region.wanted o (yielded ops a.tmps)=true
    ·rw[yW hw] at key ⊢;exact .inl key
    ·rw[yX hw] at key ⊢;exact key
   ·cases h
  ·cases h
theorem ZhF{P:yg}{ops:Array ym}{id t:Nat}{Q:Exit->Act->yz->Prop}{ts ts':yL Dv}{σ:Sg}{a:Act}{hs:yL Hint}{C:yL Prop}{H':yL Ent}(hd:∀x,x∈ops.toList->x.dst≠some t)(ok:Ok σ)(yK:RepT σ ts a)
 (h:evOps P ops ops.toList ts σ.H hs=some (C,ts',H',[])) (hc:AllP C) (hQ:∀a' σ',a'.eval (.tmp t)=a.eval (.tmp t)->σ'.H=H'->To σ σ'->Ok σ'->RepT σ' ts' a'->Q .normal a' σ'.w):(Code.region id ops false).wp P Q a σ.w:=by
 refine wp_region ?_;have:=Znh (P:=P) (ops:=ops) Q [] ops.toList 0 ts σ a hs [] C H' (λj x hx=>by simpa using hx) ok yK h hc (λa' σ' e0 e1 to ok' hr=>hQ a' σ' (e0 t hd) e1 to ok' hr);rw[List.range_eq_range'];simpa using this
theorem ZyI(n:Nat):once (yp n)=true:=by
 have key:∀(l:yL Nat),l.Nodup->once l=true:=by
  intro l
  induction l with
  |nil=>intro _;rfl
  |cons x r ih=>
   intro h;rw[List.nodup_cons] at h;simp only[once,yi,Bool.not_eq_true',ih h.2,and_true];simpa using h.1
 exact key _ List.nodup_range
theorem ZIe{N b0:Nat}{σ σ':Sg}(ok:Ok σ)(to:Md N b0 σ σ')(zB:σ.m.length<=σ'.m.length)(hN:N<=σ.w.heap.size){H:yL Ent}(hin:subEnts σ'.H (yp σ.H.length) (yp σ.H.length)=some H):Md N b0 σ (Zgo σ' (yp σ.H.length) H):=by
 have ho:once (yp σ.H.length)=true:=ZyI _;have hf:∀id,id < σ.H.length->toIds (yp σ.H.length) id=some id:=λid h=>idxOf?_of ho (List.getElem?_range h);have rn:=Zcd hin;refine⟨⟨λb o v h1 h2=> ?_,λid b h1 h2=> ?_,λid s len A c h1=> ?_,λid b h1 h2=> ?_,λid v s st e d h1=> ?_⟩,to.F,to.B,to.os,to.tape,to.output,to.size,λb h1 h2 h3=>to.block b h1 h2 h3,λid b h=> ?_⟩
 ·obtain⟨h3,h4⟩:=to.leaf.cells b o v h1 h2;exact⟨h3,rn.stab b o v h3 h4⟩
 ·have hlt:id < σ.H.length:=by rw[<-ok.len];exact(yo.1 h1).1
  obtain⟨h3,h4⟩:=to.leaf.var id b h1 h2;exact⟨rn.m _ _ (hf id hlt) _ h3,rn.var (hf id hlt) h4⟩
 ·have hlt:id < σ.H.length:=by
   obtain⟨e,ys,h2,_⟩:=h1;exact(yo.1 h2).1
  exact rn.front (hf id hlt) (to.leaf.front _ _ _ _ _ h1)
 ·have hlt:id < σ.H.length:=by rw[<-ok.len];exact(yo.1 h1).1
  obtain⟨h3,h4⟩:=to.leaf.map id b h1 h2;exact⟨rn.m _ _ (hf id hlt) _ h3,rn.map (hf id hlt) h4⟩
 ·have hlt:id < σ.H.length:=(yo.1 h1).1;obtain⟨v',st',d',h5,h6,h7⟩:=to.leaf.row _ _ _ _ _ _ h1;obtain⟨d2,h8⟩:=rn.row (hf id hlt) h5;refine⟨v',st',d2,h8,h6,λhv=> ?_⟩;obtain⟨h9,h10⟩:=h7 hv;refine⟨?_,h10⟩;have hmm:∃x,σ.m[id]? =some x:=⟨_,yad (by rw[ok.len];exact hlt)⟩;obtain⟨x,hx⟩:=hmm;rw[hx];exact rn.m _ _ (hf id hlt) _ (by rw[h9];exact hx)
 ·obtain⟨x,h1,h2⟩:=ZaR h;rcases to.same x b h2 with h3|h3
  ·have hlt:x < σ.H.length:=by rw[<-ok.len];exact(yo.1 h3).1
   have:=idxOf?_of ho h1;have h4:=hf x hlt;unfold toIds at h4;rw[this] at h4;cases h4;exact .inl h3
  ·exact .inr h3
theorem MR.part{N b0 s:Nat}{e:yb}{σ:Sg}{gs:yL (Pl×yL Pl×Nat)}{es:Array MapEntry}{clock:Nat}(h:MR N b0 s e σ gs es clock){L:yL Nat}{H:yL Ent}(hin:subEnts σ.H L L=some H):MR N b0 s e (Zgo σ L H) gs es clock:=by
 have rn:=Zcd hin
 have un:∀b,(∀id:Nat,σ.m[id]? ≠some (some b))->∀id:Nat,(Zgo σ L H).m[id]? ≠some (some b):=λb hb id q=>by
  obtain⟨x,_,h2⟩:=ZaR q;exact hb x h2
 refine⟨h.ge,h.F,h.heap,un b0 h.un,h.len,λq g en h1 h2=> ?_,h.born,h.dist⟩;obtain⟨a1,a2,a3,a4,a5⟩:=h.ent q g en h1 h2;obtain⟨c,cur,b1,b2,b3,b4,b5,b6,b7⟩:=a2;exact⟨Zgd rn rfl a1,⟨c,cur,b1,b2,b3,b4,b5,b6,repCs_mono rn.cells _ _ b7⟩,a3,⟨a4.B,a4.F,a4.lt,un _ a4.un,a4.ne⟩,a5⟩
inductive GS(key elt:Nat->Pl):Nat->List (Pl×List Pl×Nat)->Prop where
 |zero:GS key elt 0 []
 |succ {i b:Nat} {gs gs':List (Pl×List Pl×Nat)} (h:GS key elt i gs) (g:GPut gs (key i) (elt i) b gs'):GS key elt (i+1) gs'
theorem GPut.keys{gs gs':yL (Pl×yL Pl×Nat)}{k p:Pl}{b:Nat}(h:GPut gs k p b gs')(hn:(gs.map (·.1)).Nodup):(gs'.map (·.1)).Nodup:=by
 cases h with
 |old q xs b2 h1 h2=>
  have e:(gs.set q (k,xs++[p],b)).map (·.1)=gs.map (·.1):=by
   rw[List.map_set];apply ybk;intro j;by_cases hj:j=q
   ·subst hj;rw[ycw (by rw[yaa];exact(yo.1 h1).1),yal,h1];rfl
   ·rw[ycy (Ne.symm hj)]
  rw[e]
  exact hn
 |new h2=>
  rw[yau,List.nodup_append];refine⟨hn,by simp, ?_⟩;intro a ha c hc;obtain⟨g,hg,rfl⟩:=List.mem_map.1 ha;obtain⟨j,j1,j2⟩:=List.getElem_of_mem hg;have:c=k:=by simpa using hc
  rw[this];exact h2 j g (by rw[yad j1,j2])
theorem GS.nodup{key elt:Nat->Pl}{i:Nat}{gs:yL (Pl×yL Pl×Nat)}(h:GS key elt i gs):(gs.map (·.1)).Nodup:=by
 induction h with
 |zero=>simp
 |succ h g ih=>exact g.keys ih
theorem GS.bound{key elt:Nat->Pl}{i:Nat}{gs:yL (Pl×yL Pl×Nat)}(h:GS key elt i gs):∀(j:Nat)g,gs[j]? =some g->g.2.1.length<=i/\∃m,m < i/\g.1=key m:=by
 induction h with
 |zero=>intro j g hg;simp at hg
 |succ h k ih=>
  rename_i i b gs gs';intro j g hg
  cases k with
  |old q xs b2 h1 hn=>
   rw[ybq] at hg;split at hg
   ·split at hg
    ·cases hg;have:=(ih q _ h1).1;exact⟨by simpa using this,i,Nat.lt_succ_self i,rfl⟩
    ·cases hg
   ·obtain⟨a,m,b,c⟩:=ih j g hg
    exact⟨by omega,m,by omega,c⟩
  |new hn=>
   rcases Nat.lt_trichotomy j gs.length with hj|hj|hj
   ·rw[yba hj] at hg;obtain⟨a,m,b,c⟩:=ih j g hg;exact⟨by omega,m,by omega,c⟩
   ·subst hj;rw[yde] at hg;cases hg;exact⟨by simp,i,Nat.lt_succ_self i,rfl⟩
   ·rw[ybi (by simp;omega)] at hg;cases hg
structure Gat(P:yg)(A B C D:Array ym)(tc tm tq t0 t1 t2 t3:Nat)(x0:Nat)(T TA TB TC TD:Nat->List Dv)(HB:Nat->List Ent)(H1:List Ent)(keep:List Nat)(n s:Nat)(e:yb)(key elt:Nat->Pl):Prop where
 ha:∀i,i<=n->∃hs K,evOps P A A.toList (T i) H1 hs=some (K,TA i,H1,[])/\AllP K
 hc:∀i,i<=n->argD P (TA i) 0 (.tmp tc)=.p (.bool (decide (i < n)))
 hb:∀i,i < n->∃hs K,evOps P B B.toList (TA i) H1 hs=some (K,TB i,HB i,[])/\AllP K
 hc1:∀i,i < n->∃hs K,evOps P C ((C.toList.take 5).drop 1) ((TB i).set tq .junk) (HB i) hs=some (K,TC i,HB i,[])/\AllP K
 hd:∀i,i < n->∃hs K,evOps P D D.toList (((((TC i).set t0 .junk).set t1 .junk).set t2 .junk).set t3 .junk) (HB i) hs=some (K,TD i,HB i,[])/\AllP K
 drop:∀i,i < n->subEnts (HB i) (yp H1.length) (yp H1.length)=some H1/\Dv.rns (toIds (yp H1.length)) (maskFrom keep 0 (TD i))=some (T (i+1))
 nw:∀x,x∈A.toList\/x∈B.toList\/x∈(C.toList.take 5).drop 1\/x∈D.toList->x.dst≠some tm
 nq:∀x,x∈(C.toList.take 5).drop 1->x.dst≠some tq
 mv:∃o0,C[0]? =some o0/\o0.guard=none/\o0.op=.move (.tmp tm)/\o0.dst=some tq
 lenB:∀i,i < n->tq < (TB i).length
 size:C.size=10
 len:∀i,i < n->t0 < (TC i).length/\t1 < (TC i).length/\t2 < (TC i).length/\t3 < (TC i).length
 ops:∃o1 o2 o3 o4 o5 t tt u t5 kt et k y c s0 i,C[5]? =some o1/\C[6]? =some o2/\C[7]? =some o3/\C[8]? =some o4/\C[9]? =some o5/\o1.guard=none/\o2.guard=none/\o3.guard=none/\o4.guard=none/\o5.guard=none/\
  o1.op=.mapEntry t (.tmp tq) k/\o1.dst=some t0/\o2.op=.extract (.tmp t0) 0/\o2.dst=some t1/\o3.op=.call c/\c.callee=.builtin .append/\c.args.toList=[.tmp t1,y]/\c.argTypes.toList=[tt,u]/\o3.dst=some t2/\
  o4.op=.extract (.tmp t0) 1/\o4.dst=some t3/\o5.op=.entryStore t5 (.tmp tq) (.tmp t3) (.tmp t2)/\o5.dst=none/\P.underlying t=some (.map kt et)/\keyTy P kt=true/\hasZero P et=true/\zeroD P et=.p (.sl (some false) s0 [])/\
  P.underlying tt=some (.slice e)/\P.info? e=some i/\zOk i=true/\i.size≠0/\i.size=s/\n*i.bytes<=bytesBound/\n<=maxLen/\(∀j,j < n->argD P (TC j) kt k=.p (key j))/\(∀j,j < n->fitP P 20 kt (key j))/\
  ∀j,j < n->srcOf P (P.cellsOf e) u (argD P (((TC j).set t0 .junk).set t1 .junk) u y)=some [elt j]
 ne:t0≠t1/\t0≠t2/\t2≠t3/\tm≠t0/\tm≠t1/\tm≠t2/\tm≠t3/\tq≠t0/\tq≠t1/\tq≠t2/\tq≠t3/\tm≠tq
def Zcm(rA rB rC rD x0 x1:Nat)(A B C D:Array ym)(tc:Nat):Code:=
 .seq (.region rA A false) (.seq (.cond (.tmp tc) .skip (.exit x0)) (.seq (.block x1 (.seq (.region rB B false) (.region rC C false))) (.region rD D false)))
theorem ZwN{P:yg}{A B C D:Array ym}{tc tm tq t0 t1 t2 t3 x0:Nat}{T TA TB TC TD:Nat->yL Dv}{HB:Nat->yL Ent}{H1:yL Ent}{keep:yL Nat}{n s:Nat}{e:yb}{key elt:Nat->Pl}
 (G:Gat P A B C D tc tm tq t0 t1 t2 t3 x0 T TA TB TC TD HB H1 keep n s e key elt) (rA rB rC rD x1:Nat) {N b0 i:Nat} (hi:i < n) {gs:yL (Pl×yL Pl×Nat)} {es:Array MapEntry} {clock:Nat} {σ:Sg} {a:Act} (hgs:GS key elt i gs) (ok:Ok σ) (hH:σ.H=H1) (yK:RepT σ (T i) a)
 (hmr:MR N b0 s e σ gs es clock) (hraw:a.eval (.tmp tm)=.map (some b0)):
 (Zcm rA rB rC rD x0 x1 A B C D tc).wp P (λex a' w'=>ex=.normal/\∃σ' gs' es' clock',σ'.w=w'/\σ'.H=H1/\Md N b0 σ σ'/\Ok σ'/\RepT σ' (T (i+1)) a'/\GS key elt (i+1) gs'/\MR N b0 s e σ' gs' es' clock'/\a'.eval (.tmp tm)=.map (some b0)) a σ.w:=by
 obtain⟨hsA,KA,eA,cA⟩:=G.ha i (Nat.le_of_lt hi);obtain⟨hsB,KB,eB,cB⟩:=G.hb i hi;obtain⟨hsC,KC,eC,cC⟩:=G.hc1 i hi;obtain⟨hsD,KD,eD,cD⟩:=G.hd i hi;obtain⟨hsub,hrns⟩:=G.drop i hi;obtain⟨o1,o2,o3,o4,o5,t,tt,u,t5,kt,et,k,y,c,s0,inf,g1,g2,g3,g4,g5,n1,n2,n3,n4,n5,h1,d1,h2,d2,h3,hc,ha,hty,d3,h4,d4,h5,d5,hu,hkt,hzt,hzd,htt,hif,hz,hne,hs,hb1,hb2,hk,hfit,hsrc⟩:=G.ops;obtain⟨q01,q02,q23,m0,m1,m2,m3,z0,z1,z2,z3,zq⟩:=G.ne;obtain⟨o0,mv1,mv2,mv3,mv4⟩:=G.mv;obtain⟨l0,l1,l2,l3⟩:=G.len i hi;unfold Zcm;rw[<-hH] at eA;refine wp_seq (ZhF (t:=tm) (λx hx=>G.nw x (.inl hx)) ok yK eA cA λa1 σ1 k1 f1 to1 ok1 r1=> ?_);show(Code.seq (.cond (.tmp tc) .skip (.exit x0)) _).wp P _ a1 σ1.w;have hcond:=Zq (P:=P) r1 0 (.tmp tc);rw[G.hc i (Nat.le_of_lt hi),yY hi] at hcond;refine wp_seq (wp_cond_true (YP hcond) (wp_skip ?_));show(Code.seq (.block x1 _) _).wp P _ a1 σ1.w;refine wp_seq (wp_block ?_);rw[<-f1.trans hH] at eB;refine wp_seq (ZhF (t:=tm) (λx hx=>G.nw x (.inr (.inl hx))) ok1 r1 eB cB λa2 σ2 k2 f2 to2 ok2 r2=> ?_);show(Code.region rC C false).wp P _ a2 σ2.w;refine wp_region ?_
 have hrange:yp C.size=0::(yby 1 ((C.toList.take 5).drop 1).length++[5,6,7,8,9]):=by
  rw[G.size,show((C.toList.take 5).drop 1).length=4 by rw[ybf,yv,ybo,G.size];rfl];rfl
 rw[hrange];rw[<-f2] at eC;have hrawm:a2.eval (.tmp tm)=.map (some b0):=by rw[k2,k1];exact hraw
 have xmv:(execOp a2.eval o0).run P σ2.w=.ok (.value (.map (some b0))) σ2.w:=by
  simp[execOp,mv3,hrawm]
 refine VB mv1 mv2 xmv ?_;rw[mv4];have r2q:RepT σ2 ((TB i).set tq .junk) (a2.put (some tq) (.map (some b0))):=ZaT r2;have hq:(a2.put (some tq) (.map (some b0))).eval (.tmp tq)=.map (some b0):=Zcj (by rw[r2.size];exact G.lenB i hi);have hqm:(a2.put (some tq) (.map (some b0))).eval (.tmp tm)=.map (some b0):=by rw[YO zq];exact hrawm
 generalize a2.put (some tq) (.map (some b0))=a2 at r2q hq hqm ⊢;refine Znh (P:=P) _ _ _ 1 _ σ2 a2 hsC [] KC _ (λj x hx=> ?_) ok2 r2q eC cC λa3 σ3 k3 f3 to3 ok3 r3=> ?_
 ·rw[List.getElem?_drop,List.getElem?_take] at hx;split at hx
  ·simpa[Nat.add_comm] using hx
  ·cases hx
 have to13:To σ σ3:=(to1.trans to2).trans to3;have hmr3:=hmr.to to13;have hraw3:a3.eval (.tmp tq)=.map (some b0):=by rw[k3 tq G.nq];exact hq
 have hraw3m:a3.eval (.tmp tm)=.map (some b0):=by rw[k3 tm λx hx=>G.nw x (.inr (.inr (.inl hx)))];exact hqm
 have hle:∀(m:Nat),m<=n->m*inf.bytes<=bytesBound/\m<=maxLen:=λm hm=>⟨ybj (ybp _ hm) hb1,ybj hm hb2⟩;refine ZDB (P:=P) (ts:=TC i) g1 g2 g3 g4 g5 n1 n2 n3 n4 n5 h1 d1 h2 d2 h3 hc ha hty d3 h4 d4 h5 d5 q01 q02 q23 z0 z1 z2 z3 l0 l1 l2 l3 ok3 r3 hmr3 hraw3 hu (hk i hi) hkt (hfit i hi) (λj g hg=> ?_) hzt hzd htt hif hz hne hs (hsrc i hi) (λj g hg=> ?_) ?_ ?_
 ·obtain⟨_,m,hm,e⟩:=hgs.bound j g hg;rw[e];exact hfit m (by omega)
 ·have:=(hgs.bound j g hg).1;exact hle _ (by omega)
 ·exact(hle 1 (by omega)).1
 intro a4 σ4 gs' es' clock' b' hput hmr4 f4 fm md ok4 r4 kept;have hraw4:a4.eval (.tmp tm)=.map (some b0):=(kept tm m0 m1 m2 m3).trans hraw3m;show(Code.region rD D false).wp P _ a4 σ4.w;have h4B:σ4.H=HB i:=f4.trans (f3.trans f2);rw[<-h4B] at eD;refine ZhF (t:=tm) (λx hx=>G.nw x (.inr (.inr (.inr hx)))) ok4 r4 eD cD λa5 σ5 k5 f5 to5 ok5 r5=> ?_;have hHB:σ5.H=HB i:=f5.trans h4B;have hN:N<=σ.w.heap.size:=hmr.ge;have md5:Md N b0 σ σ5:=((Md.of_to to13 hN).trans md).trans (Md.of_to to5 hmr4.ge)
 have zB:σ.m.length<=σ5.m.length:=by
  have h1:=to13.len;have h2:=to5.len;rw[fm] at h2;exact ybj h1 h2
 subst hH;rw[<-hHB] at hsub;have hpart:=ZIe ok md5 zB hN hsub;refine⟨rfl,Zgo σ5 (yp σ.H.length) σ.H,gs',es',clock',rfl,rfl,hpart,ZnQ ok5 (ZyI _) hsub,ZkX (Zcd hsub) hrns (Qo keep r5),.succ hgs hput,(hmr4.to to5).part hsub,by rw[k5];exact hraw4⟩
theorem ZmH{P:yg}{A B C D:Array ym}{tc tm tq t0 t1 t2 t3 x0:Nat}{T TA TB TC TD:Nat->yL Dv}{HB:Nat->yL Ent}{H1:yL Ent}{keep:yL Nat}{n s:Nat}{e:yb}{key elt:Nat->Pl}
 (G:Gat P A B C D tc tm tq t0 t1 t2 t3 x0 T TA TB TC TD HB H1 keep n s e key elt) (rA rB rC rD x1:Nat) {N b0:Nat}:∀(m i:Nat),i+m=n->∀{gs:yL (Pl×yL Pl×Nat)}{es:Array MapEntry}{clock:Nat}{σ:Sg}{a:Act},GS key elt i gs->Ok σ->σ.H=H1->RepT σ (T i) a->
 MR N b0 s e σ gs es clock->a.eval (.tmp tm)=.map (some b0)->∀(b:Frame)(k:yL Item)(cs:yL Frame),
 ∃ex a' w',(ex=Exit.exit x0/\∃σ' gs' es' clock',σ'.w=w'/\σ'.H=H1/\Md N b0 σ σ'/\Ok σ'/\RepT σ' (TA n) a'/\GS key elt n gs'/\MR N b0 s e σ' gs' es' clock'/\a'.eval (.tmp tm)=.map (some b0))/\
  Arrives P (lone (b.at a (.code (Zcm rA rB rC rD x0 x1 A B C D tc)::.inLoop (Zcm rA rB rC rD x0 x1 A B C D tc)::k)) cs σ.w) b k cs ex a' w'
 |0,i,him,gs,es,clock,σ,a,hgs,ok,hH,yK,hmr,hraw,b,k,cs=>by
  have hin:i=n:=by omega
  subst hin;obtain⟨hsA,KA,eA,cA⟩:=G.ha i (yl i);rw[<-hH] at eA
  have hbody:(Zcm rA rB rC rD x0 x1 A B C D tc).wp P (λex a' w'=>ex=Exit.exit x0/\∃σ' gs' es' clock',σ'.w=w'/\σ'.H=H1/\Md N b0 σ σ'/\Ok σ'/\RepT σ' (TA i) a'/\GS key elt i gs'/\MR N b0 s e σ' gs' es' clock'/\a'.eval (.tmp tm)=.map (some b0)) a σ.w:=by
   unfold Zcm;refine wp_seq (ZhF (t:=tm) (λx hx=>G.nw x (.inl hx)) ok yK eA cA λa1 σ1 k1 f1 to1 ok1 r1=> ?_);show(Code.seq (.cond (.tmp tc) .skip (.exit x0)) _).wp P _ a1 σ1.w;have hcond:=Zq (P:=P) r1 0 (.tmp tc);rw[G.hc i (yl i),yZ (Nat.lt_irrefl i)] at hcond;refine wp_seq (wp_cond_false (YP hcond) (wp_exit ?_));exact⟨rfl,σ1,gs,es,clock,rfl,f1.trans hH,Md.of_to to1 hmr.ge,ok1,r1,hgs,hmr.to to1,by rw[k1];exact hraw⟩
  obtain⟨ex,a1,w1,⟨rfl,hq⟩,harr⟩:=hbody b (.inLoop (Zcm rA rB rC rD x0 x1 A B C D tc)::k) cs
  exact⟨_,a1,w1,⟨rfl,hq⟩,.pass (x:=.inLoop (Zcm rA rB rC rD x0 x1 A B C D tc)) rfl (λ_ _=>.inl (by simp)) harr⟩
 |m+1,i,him,gs,es,clock,σ,a,hgs,ok,hH,yK,hmr,hraw,b,k,cs=>by
  obtain⟨ex,a1,w1,⟨rfl,σ1,gs1,es1,clock1,rfl,f1,md1,ok1,r1,hgs1,hmr1,hraw1⟩,harr⟩:=ZwN G rA rB rC rD x1 (by omega:i < n) hgs ok hH yK hmr hraw b (.inLoop (Zcm rA rB rC rD x0 x1 A B C D tc)::k) cs;obtain⟨ex,a2,w2,⟨rfl,σ2,gs2,es2,clock2,rfl,f2,md2,ok2,r2,hgs2,hmr2,hraw2⟩,harr2⟩:=ZmH G rA rB rC rD x1 m (i+1) (by omega) hgs1 ok1 f1 r1 hmr1 hraw1 b k cs;exact⟨_,a2,_,⟨rfl,σ2,gs2,es2,clock2,rfl,f2,md1.trans md2,ok2,r2,hgs2,hmr2,hraw2⟩,.of_steps (Steps.trans harr (.one step_inLoop)) harr2⟩
def ZmI(id:Nat)(j:Nat):yO Nat:=if j=id then none else some j
theorem ZyJ{σ:Sg}{ts:yL Dv}{a:Act}(h:RepT σ ts a){t:Nat}{d:Dv}(hd:yH σ d (a.tmps.getD t undef)):RepT σ (ts.set t d) a:=by
 refine⟨by rw[yan];exact h.size,λi x hx=> ?_,h.defers⟩;rw[ybq] at hx;split at hx
 ·rename_i he;subst he;split at hx
  ·cases hx;exact hd
  ·cases hx
 ·exact h.at_ i x hx
theorem ZFY{w:yz}{b o:Nat}{es:Array MapEntry}{clock:Nat}{v:yh}(h:w.heap[b]? =some (.map es clock))(hc:w.cell? ⟨b,o,none⟩=some v):False:=by
 simp[World.cell?,h] at hc
theorem ZyK{P:yg}{A B C D:Array ym}{tc tm tq t0 t1 t2 t3 x0:Nat}{T TA TB TC TD:Nat->yL Dv}{HB:Nat->yL Ent}{H1:yL Ent}{keep:yL Nat}{n s:Nat}{e:yb}{key elt:Nat->Pl}
 (G:Gat P A B C D tc tm tq t0 t1 t2 t3 x0 T TA TB TC TD HB H1 keep n s e key elt) (rA rB rC rD x1:Nat) {id:Nat} {tid:yb} {ts0:yL Dv} {H0:yL Ent} (keepE:yL Nat) {KV:yL (Pl×yL Pl)} (hdet:∀gs,GS key elt n gs->gs.map (λg=>(g.1,g.2.1))=KV)
 (hid:H0[id]? =some (.map tid [])) (htm:ts0[tm]? =some (.mp id)) (h1:H1=H0.set id .gone) (hT:Dv.rns (ZmI id) (ts0.set tm .junk)=some (T 0)) (hent:∀(j:Nat)x,j≠id->H0[j]? =some x->x.rn (ZmI id)=some x):
 Wt P (.loop (Zcm rA rB rC rD x0 x1 A B C D tc)) ts0 H0 (.exit x0) ((maskFrom keepE 0 (TA n)).set tm (.mp id)) (H0.set id (.map tid (KV.map λq=>(q.1,.sl none s q.2)))):=by
 intro σ a ok hH yK b k cs;subst hH;have hmv:=yK.at_ tm _ htm;obtain⟨b0,hmb,hmv⟩:=Zo8 hmv;have hraw:a.eval (.tmp tm)=.map (some b0):=hmv;obtain⟨b',es,clock,e1,hbk,hkr,hbo⟩:=ok.ent id _ _ hid hmb;cases e1
 have hes:es.size=0:=by
  have:=ZlZ _ _ (Zo7 hkr);simpa using this
 have hidl:id < σ.m.length:=(yo.1 hmb).1;have hidH:id < σ.H.length:=(yo.1 hid).1;have hb0lt:=Zog hbk;let σ1:Sg:={ F:=λb o=>σ.F b o/\b < σ.w.heap.size,B:=σ.B,m:=σ.m.set id none,H:=H1,w:=σ.w};have m1:∀j,j≠id->σ1.m[j]? =σ.m[j]? :=λj hj=>getElem?_set_ne' (Ne.symm hj);have m1i:σ1.m[id]? =some none:=getElem?_set_eq' hmb
 have H1e:∀j,j≠id->σ1.H[j]? =σ.H[j]? :=λj hj=>by
  show H1[j]? =_;rw[h1];exact getElem?_set_ne' (Ne.symm hj)
 have H1i:σ1.H[id]? =some .gone:=by
  show H1[id]? =_;rw[h1];exact getElem?_set_eq' hid
 have stab1:∀(b o:Nat)(v:yh),σ.w.cell? ⟨b,o,none⟩=some v->σ.stab b o->σ1.stab b o:=λb o v hc hs=>by
  refine⟨hs.1.imp (λh=>⟨h,Wu hc⟩) (λh=>h),λj x hj hx=> ?_⟩;by_cases hji:j=id
  ·subst hji;rw[H1i] at hx;cases hx;trivial
  ·rw[m1 j hji] at hj;rw[H1e j hji] at hx;exact hs.2 j x hj hx
 have rn:Rn (ZmI id) σ σ1:=by
  refine⟨rfl,stab1,λj j' hj x hx=> ?_,λj j' hj x hx=> ?_⟩
  ·unfold ZmI at hj;split at hj
   ·cases hj
   ·cases hj;rename_i hne;rw[m1 j hne];exact hx
  ·unfold ZmI at hj;split at hj
   ·cases hj
   ·cases hj;rename_i hne;exact⟨x,by rw[H1e j hne];exact hx,hent j x hne hx⟩
 have ok1:Ok σ1:=by
  refine⟨by show(σ.m.set id none).length=H1.length;rw[h1,yan,yan];exact ok.len,λi j x hi hj=> ?_,λi x hi=> ?_,λi x y hx hy=> ?_,ok.new,λi x hi=> ?_⟩
  ·have hii:i≠id:=λq=>by subst q;rw[m1i] at hi;cases hi
   have hjj:j≠id:=λq=>by subst q;rw[m1i] at hj;cases hj
   rw[m1 i hii] at hi;rw[m1 j hjj] at hj;exact ok.inj i j x hi hj
  ·have hii:i≠id:=λq=>by subst q;rw[m1i] at hi;cases hi
   rw[m1 i hii] at hi;exact ok.lt i x hi
  ·by_cases hii:i=id
   ·subst hii;rw[H1i] at hx;cases hx;trivial
   ·rw[H1e i hii] at hx;rw[m1 i hii] at hy;exact ZnL rn (hent i x hii hx) (ok.ent i x y hx hy)
  ·have hii:i≠id:=λq=>by subst q;rw[m1i] at hi;cases hi
   rw[m1 i hii] at hi;exact ok.own i x hi
 have rep1:RepT σ1 (T 0) a:=ZkX rn hT (ZyJ yK XU)
 have un1:∀j:Nat,σ1.m[j]? ≠some (some b0):=λj hj=>by
  have hjj:j≠id:=λq=>by subst q;rw[m1i] at hj;cases hj
  rw[m1 j hjj] at hj;exact hjj (ok.inj j id b0 hj hmb)
 have mr1:MR σ.w.heap.size b0 s e σ1 [] es clock:=⟨yl _,λb o h=>h.2,hbk,un1,hes,λq g en h _=>by simp at h,λq q' en en' h _ _=>by
  have:=(yda.1 h).1;omega,λq q' g g' h _ _=>by simp at h⟩
 obtain⟨ex,a2,w2,⟨rfl,σ2,gs,es2,clock2,rfl,f2,md,ok2,rep2,hgs,mr2,hraw2⟩,harr⟩:=ZmH G rA rB rC rD x1 n 0 (by omega) .zero ok1 rfl rep1 mr1 hraw b k cs;have hKV:=hdet gs hgs;have len2:σ2.m.length=σ.m.length:=by rw[ok2.len,f2,h1,yan,ok.len]
 let σf:Sg:={ F:=σ.F,B:=σ.B,m:=σ2.m.set id (some b0),H:=σ.H.set id (.map tid (KV.map λq=>(q.1,.sl none s q.2))),w:=σ2.w};have mfe:∀j,j≠id->σf.m[j]? =σ2.m[j]? :=λj hj=>getElem?_set_ne' (Ne.symm hj)
 have mfi:σf.m[id]? =some (some b0):=by
  show(σ2.m.set id (some b0))[id]? =_;rw[ycw (by rw[len2];exact hidl)]
 have Hfe:∀j,j≠id->σf.H[j]? =σ2.H[j]? :=λj hj=>by
  show(σ.H.set id _)[j]? =_;rw[getElem?_set_ne' (Ne.symm hj),f2];exact(H1e j hj).symm
 have Hfi:σf.H[id]? =some (.map tid (KV.map λq=>(q.1,.sl none s q.2))):=getElem?_set_eq' hid;have H2i:σ2.H[id]? =some .gone:=by rw[f2];exact H1i
 have leafF:Leaf σ2 σf:=by
  refine⟨λx o v hc hs=>⟨hc, ?_,λj y hj hy=> ?_⟩,λj x hj hx=> ?_,λj s' len A' c h=> ?_,λj x hj hx=> ?_,λj v s' st e' d h=> ?_⟩
  ·exact hs.1.imp (λh=>(md.F _ _ h).1) (λh=>md.B _ h)
  ·by_cases hji:j=id
   ·subst hji;rw[mfi] at hj;cases hj;exact(ZFY mr2.heap hc).elim
   ·rw[mfe j hji] at hj;rw[Hfe j hji] at hy;exact hs.2 j y hj hy
  ·have hji:j≠id:=λq=>by subst q;obtain⟨d,st,hx⟩:=hx;rw[H2i] at hx;cases hx
   rw[mfe j hji,Hfe j hji];exact⟨hj,hx⟩
  ·obtain⟨e',ys,h2,h3⟩:=h;have hji:j≠id:=λq=>by subst q;rw[H2i] at h2;cases h2
   exact⟨e',ys,by rw[Hfe j hji];exact h2,by rw[mfe j hji];exact h3⟩
  ·have hji:j≠id:=λq=>by subst q;obtain⟨d,st,hx⟩:=hx;rw[H2i] at hx;cases hx
   rw[mfe j hji,Hfe j hji];exact⟨hj,hx⟩
  ·have hji:j≠id:=λq=>by subst q;rw[H2i] at h;cases h
   exact⟨v,st,d,by rw[Hfe j hji];exact h,yl _,λ_=>⟨mfe j hji,λb cur _ hc=>⟨cur,hc,rfl⟩⟩⟩
 have un2:∀x:Nat,x≠b0->(∀j:Nat,σ2.m[j]? ≠some (some x))->∀j:Nat,σf.m[j]? ≠some (some x):=λx hx hu j hj=>by
  by_cases hji:j=id
  ·subst hji;rw[mfi] at hj;cases hj;exact hx rfl
  ·rw[mfe j hji] at hj;exact hu j hj
 have hkv:Zef σf (KV.map λq=>(q.1,.sl none s q.2)) es2.toList:=by
  rw[<-hKV,ybe]
  have key:∀(l:yL (Pl×yL Pl×Nat))(el:yL MapEntry),l.length=el.length->(∀(q:Nat)g en,l[q]? =some g->el[q]? =some en->yH σf (.p g.1) en.key/\yH σf (.p (.sl none s g.2.1)) en.val)->Zef σf (l.map ((λq=>(q.1,.sl none s q.2)) ∘ λg=>(g.1,g.2.1))) el:=by
   intro l
   induction l with
   |nil=>intro el hl _;cases el with
    |nil=>trivial
    |cons _ _=>simp at hl
   |cons g l ih=>intro el hl h;cases el with
    |nil=>simp at hl
    |cons en el=>
     obtain⟨z1,z2⟩:=h 0 g en rfl rfl;exact⟨z1,z2,ih el (by simpa using hl) λq g' en' y1 y2=>h (q+1) g' en' (by simpa using y1) (by simpa using y2)⟩
  refine key gs es2.toList (by rw[ybo];exact mr2.len.symm) λq g en hg he=> ?_;obtain⟨z1,⟨c,cur,rfl_,y2,y3,y4,y5,y6,y7⟩,z3,z4,z5⟩:=mr2.ent q g en hg (by rw[<-ycd];exact he);refine⟨WK leafF z1, ?_⟩;rw[rfl_];refine YM y6 y4 y5 (Yp _) (λh=>by cases h) λ_=>⟨_,_,_,rfl,repCs_mono leafF.cells _ _ y7, ?_⟩;refine ZdC y2 (λo _=>⟨.inr (ok.new _ z5),λj y hj _=>absurd hj (un2 _ z4.ne z4.un j)⟩) ?_;rw[yv,ybo,Nat.min_eq_left (by rw[y3];exact ybp _ y4)]
 have okf:Ok σf:=by
  refine⟨by show(σ2.m.set id (some b0)).length=(σ.H.set id _).length;rw[yan,yan,len2];exact ok.len,λi j x hi hj=> ?_,λi x hi=> ?_,λi x y hx hy=> ?_,λx hx=>ok.new x (ybj md.size hx),λi x hi=> ?_⟩
  ·by_cases hii:i=id
   ·subst hii;rw[mfi] at hi;cases hi;by_cases hjj:j=i
    ·exact hjj.symm
    ·rw[mfe j hjj] at hj;exact absurd hj (mr2.un j)
   ·rw[mfe i hii] at hi;by_cases hjj:j=id
    ·subst hjj;rw[mfi] at hj;cases hj;exact absurd hi (mr2.un i)
    ·rw[mfe j hjj] at hj;exact ok2.inj i j x hi hj
  ·by_cases hii:i=id
   ·subst hii;rw[mfi] at hi;cases hi;exact ycv hb0lt md.size
   ·rw[mfe i hii] at hi;exact ok2.lt i x hi
  ·by_cases hii:i=id
   ·subst hii;rw[Hfi] at hx;rw[mfi] at hy;cases hx;cases hy
    refine⟨b0,es2,clock2,rfl,mr2.heap,⟨_,.refl _,by
     have h:=hgs.nodup;rw[<-hKV,ybe,ybe];exact h,hkv⟩,λq en hq=> ?_,mr2.born⟩
    have hlt:q < gs.length:=by rw[<-mr2.len];exact(yda.1 hq).1
    exact(mr2.ent q _ en (yad hlt) hq).2.2.1
   ·rw[Hfe i hii] at hx;rw[mfe i hii] at hy;exact Zab leafF (λb _=>rfl) (ok2.ent i x y hx hy)
  ·by_cases hii:i=id
   ·subst hii;rw[mfi] at hi;cases hi;exact ok.own _ _ hmb
   ·rw[mfe i hii] at hi;exact md.B _ (ok2.own i x hi)
 have leaf0:Leaf σ σf:=by
  refine⟨λx o v hc hs=> ?_,λj x hj hx=> ?_,λj s' len A' c h=> ?_,λj x hj hx=> ?_,λj v s' st e' d h=> ?_⟩
  ·obtain⟨h3,h4⟩:=md.leaf.cells x o v hc (stab1 x o v hc hs);exact leafF.cells x o v h3 h4
  ·have hji:j≠id:=λq=>by subst q;obtain⟨d,st,hx⟩:=hx;rw[hid] at hx;cases hx
   obtain⟨h3,h4⟩:=md.leaf.var j x (by rw[m1 j hji];exact hj) (by rw[H1e j hji];exact hx);exact leafF.var j x h3 h4
  ·have hji:j≠id:=λq=>by subst q;obtain⟨e',ys,h2,_⟩:=h;rw[hid] at h2;cases h2
   refine leafF.front j s' len A' c (md.leaf.front j s' len A' c ?_);obtain⟨e',ys,h2,h3⟩:=h;exact⟨e',ys,by rw[H1e j hji];exact h2,by rw[m1 j hji];exact h3⟩
  ·by_cases hji:j=id
   ·subst hji;rw[hmb] at hj;cases hj;exact⟨mfi,_,_,Hfi⟩
   ·obtain⟨h3,h4⟩:=md.leaf.map j x (by rw[m1 j hji];exact hj) (by rw[H1e j hji];exact hx);exact leafF.map j x h3 h4
  ·have hji:j≠id:=λq=>by subst q;rw[hid] at h;cases h
   obtain⟨v1,st1,d1,h3,h4,h5⟩:=md.leaf.row j v s' st e' d (by rw[H1e j hji];exact h);obtain⟨v2,st2,d2,h6,h7,h8⟩:=leafF.row j v1 s' st1 e' d1 h3;refine⟨v2,st2,d2,h6,ybj h4 h7,λhv=> ?_⟩;have q1:v1=v:=by omega
   have q2:v2=v1:=by omega
   obtain⟨p1,p2⟩:=h5 q1;obtain⟨p3,p4⟩:=h8 q2;refine⟨p3.trans (p1.trans (m1 j hji)),λb cur hb hc=> ?_⟩;obtain⟨cur1,c1,c2⟩:=p2 b cur (by rw[m1 j hji];exact hb) hc;obtain⟨cur2,c3,c4⟩:=p4 b cur1 (by rw[p1,m1 j hji];exact hb) c1;exact⟨cur2,c3,by rw[c4,c2]⟩
 have to0:To σ σf:=by
  refine⟨leaf0,rfl,rfl,md.os,md.tape,md.output,md.size,λx hx hu=> ?_,λj x hj=> ?_,by show σ.m.length<=(σ2.m.set id _).length;rw[yan,len2];exact yl _⟩
  ·refine md.block x hx (λq=> ?_) (λj hj=> ?_)
   ·subst q;exact hu id hmb
   ·have hji:j≠id:=λq=>by subst q;rw[m1i] at hj;cases hj
    rw[m1 j hji] at hj;exact hu j hj
  ·by_cases hji:j=id
   ·subst hji;rw[mfi] at hj;cases hj;exact .inl hmb
   ·rw[mfe j hji] at hj;rcases md.same j x hj with h|h
    ·rw[m1 j hji] at h;exact .inl h
    ·exact .inr h
 refine⟨_,a2,_,⟨rfl,σf,rfl,rfl,to0,okf,ZyJ ((Qo keepE rep2).to leafF) ?_⟩,.of_steps (.one step_loop) harr⟩;have:a2.tmps.getD tm undef=.map (some b0):=hraw2;rw[this,Zi rfl];simp only[yG];exact⟨b0,mfi,⟨_,_,Hfi⟩,rfl⟩
def ZIf{K V:Type}[DecidableEq K](kf:V->K)(m:yL (K×yL V))(p:V):yL (K×yL V):=Zkq m (kf p) ((Zek m (kf p)).getD []++[p])
def ZjD{K V:Type}[DecidableEq K](kf:V->K)(l:yL V):yL (K×yL V):=l.foldl (ZIf kf) []
theorem Zvc{K V:Type}[DecidableEq K](kf:V->K)(l:yL V)(p:V):ZjD kf (l++[p])=ZIf kf (ZjD kf l) p:=by unfold ZjD;rw[List.foldl_append];rfl
def Zmo{K V:Type}(ek:K->Pl)(ev:V->Pl)(m:yL (K×yL V)):yL (Pl×yL Pl):=m.map λq=>(ek q.1,q.2.map ev)
theorem ZB7{K V:Type}[DecidableEq K]{ek:K->Pl}{ev:V->Pl}(hi:∀x y,ek x=ek y↔x=y)(k:K)(p:V):∀(m:yL (K×yL V))(gs:yL (Pl×yL Pl×Nat))(q:Nat)(xs:yL Pl)(b b':Nat),gs.map (λg=>(g.1,g.2.1))=Zmo ek ev m->
 gs[q]? =some (ek k,xs,b)->(∀j g,j < q->gs[j]? =some g->g.1≠ek k)->(gs.set q (ek k,xs++[ev p],b')).map (λg=>(g.1,g.2.1))=Zmo ek ev (Zkq m k ((Zek m k).getD []++[p]))
 |[],gs,q,xs,b,b',h,h1,h2=>by
  have:gs=[]:=by simpa[Zmo] using h
  subst this
  simp at h1
 |x::m,[],q,xs,b,b',h,h1,h2=>by simp at h1
 |x::m,g::gs,q,xs,b,b',h,h1,h2=>by
  simp only[Zmo,yah,List.cons.injEq,yab] at h;obtain⟨⟨e1,e2⟩,e3⟩:=h
  cases q with
  |zero=>
   have hg:g=(ek k,xs,b):=by simpa using h1
   subst hg;have hk:k=x.1:=(hi _ _).1 e1;have hxs:xs=x.2.map ev:=e2;simp only[List.set_cons_zero,yah,Zkq,Zek,yW hk,Zmo,Option.getD_some,yau,List.map_nil,hxs]
   congr 1
  |succ q=>
   have hne:k≠x.1:=λhk=>h2 0 g (Nat.zero_lt_succ q) rfl (by rw[e1,hk]);have ih:=ZB7 hi k p m gs q xs b b' e3 (by simpa using h1) (λj g' hj hg=>h2 (j+1) g' (Nat.succ_lt_succ hj) (by simpa using hg));simp only[List.set_cons_succ,yah,Zkq,Zek,yX hne,Zmo];rw[show(g.1,g.2.1)=(ek x.1,x.2.map ev) by rw[e1,e2]];congr 1
theorem ZB8{K V:Type}[DecidableEq K]{ek:K->Pl}{ev:V->Pl}(hi:∀x y,ek x=ek y↔x=y)(k:K)(p:V)(b':Nat):∀(m:yL (K×yL V))(gs:yL (Pl×yL Pl×Nat)),gs.map (λg=>(g.1,g.2.1))=Zmo ek ev m->
 (∀(j:Nat)g,gs[j]? =some g->g.1≠ek k)->(gs++[(ek k,[ev p],b')]).map (λg=>(g.1,g.2.1))=Zmo ek ev (Zkq m k ((Zek m k).getD []++[p]))
 |[],gs,h,h2=>by
  have:gs=[]:=by simpa[Zmo] using h
  subst this
  rfl
 |x::m,[],h,h2=>by simp[Zmo] at h
 |x::m,g::gs,h,h2=>by
  simp only[Zmo,yah,List.cons.injEq,yab] at h;obtain⟨⟨e1,e2⟩,e3⟩:=h;have hne:k≠x.1:=λhk=>h2 0 g rfl (by rw[e1,hk]);have ih:=ZB8 hi k p b' m gs e3 (λj g' hg=>h2 (j+1) g' (by simpa using hg));simp only[yae,yah,Zkq,Zek,yX hne,Zmo];rw[show(g.1,g.2.1)=(ek x.1,x.2.map ev) by rw[e1,e2]];congr 1
theorem ZB9{K V:Type}[DecidableEq K]{ek:K->Pl}{ev:V->Pl}(hi:∀x y,ek x=ek y↔x=y)(kf:V->K)(l:yL V){key elt:Nat->Pl}(hk:∀(i:Nat)p,l[i]? =some p->key i=ek (kf p)/\elt i=ev p):∀(n:Nat)(gs:yL (Pl×yL Pl×Nat)),n<=l.length->GS key elt n gs->
 gs.map (λg=>(g.1,g.2.1))=Zmo ek ev (ZjD kf (l.take n))
 |0,gs,_,h=>by cases h;rfl
 |n+1,gs',hn,h=>by
  cases h with
  |succ h g=>
   rename_i b gs;have ih:=ZB9 hi kf l hk n gs (by omega) h;have hp:l[n]? =some l[n]:=yad (by omega);obtain⟨e1,e2⟩:=hk n _ hp;rw[List.take_add_one,hp,Option.toList_some,Zvc];unfold ZIf;rw[e1,e2] at g
   cases g with
   |old q xs b2 h1 hne=>exact ZB7 hi _ _ _ _ q xs b2 b ih h1 hne
   |new hne=>exact ZB8 hi _ _ b _ _ ih hne
section
variable{P:yg}
def ZtS(P:yg)(hi:HI)(ops:Array ym)(l:yL ym)(a:yL TD)(h:yL TEnt):yO (yL TD×yL TEnt):=Zyq P hi { l:=[]} ops l a h λa h _=>some (a,h)
theorem ZjE{hi:HI}{ops:Array ym}{l:yL ym}{a a':yL TD}{h h':yL TEnt}(k:ZtS P hi ops l a h=some (a',h')):a'.length=a.length/\∃hs C,evOps P ops l (TD.ers (lk h) a) (erH h) hs=some (C,TD.ers (lk h') a',erH h',[])/\AllP C:=by
 obtain⟨a1,h1,hs,C,k1,k2,k3,k4⟩:=Zma (okS (l:=[]) trivial) _ _ _ _ k;cases k1;have:=k4 [];rw[yas] at this;exact⟨k2,hs,C,this,k3⟩
theorem ZCa{f:Nat->yO Nat}:∀{l l':yL TEnt},TEnt.rns f l=some l'->∀(j:Nat)x,l[j]? =some x->∃y,l'[j]? =some y/\x.rn f=some y
 |[],_,_,j,x,hx=>by simp at hx
 |z::l,l',h,j,x,hx=>by
  simp only[TEnt.rns] at h;split at h
  ·rename_i y ys h1 h2;cases h
   cases j with
   |zero=>cases hx;exact⟨y,rfl,h1⟩
   |succ j=>exact ZCa h2 j x (by simpa using hx)
  ·cases h
def ZFZ{K V O:Type}(i0 nn:Int)(l:yL V)(m:yL (K×yL V))(b:Nat)(out:O):yO O:=if(decide (i0=0)&&decide (nn=(l.length:Int))&&m.isEmpty&&lenB l.length b)=true then some out else none
theorem ZDC{K V O:Type}{i0 nn:Int}{l:yL V}{m:yL (K×yL V)}{b:Nat}{out o:O}(h:ZFZ i0 nn l m b out=some o):i0=0/\nn=(l.length:Int)/\m=[]/\l.length*b<=bytesBound/\l.length<=maxLen/\o=out:=by
 unfold ZFZ at h;obtain⟨h1,h2⟩:=Zc h;cases h2;simp only[yi,yP,List.isEmpty_iff] at h1;obtain⟨⟨⟨h1,h2⟩,h3⟩,h4⟩:=h1;exact⟨h1,h2,h3,(Zbc h4).1,(Zbc h4).2,rfl⟩
theorem ZJM{α:Type}{l:yL α}{j:Nat}{p:α}(h:l[j]? =some p):inB (j:Int) l.length=true:=by
 have:=(yo.1 h).1;unfold inB;simp only[yi,yP];omega
def gA:Code->Array ym
 |.seq (.region _ A _) _=>A
 |_=> #[]
def gB:Code->Array ym
 |.seq _ (.seq _ (.seq (.block _ (.seq (.region _ B _) _)) _))=>B
 |_=> #[]
def gC:Code->Array ym
 |.seq _ (.seq _ (.seq (.block _ (.seq _ (.region _ C _))) _))=>C
 |_=> #[]
def gD:Code->Array ym
 |.seq _ (.seq _ (.seq _ (.region _ D _)))=>D
 |_=> #[]
def ZsD(C:Array ym)(j:Nat):ym:=(C[j]?).getD default
def ZJN(o:ym):Call:=match o.op with
 |.call c=>c
 |_=>default
def ZJO(P:yg)(e:yb):TypeInfo:=(P.info? e).getD default
theorem ZJP{N:Nat}{body:Code}{sl sl2:Slots}{es es2:yL ESh}{I ty2:yL Ty}{L:Ty.dens I->yO (Ty.dens ty2)}(rA rB rC rD x0 x1 tc tm tq ti t0 t1 t2 t3 id n0:Nat)(A B C D:Array ym)(hbody:body=Zcm rA rB rC rD x0 x1 A B C D tc)
 {K T:Ty} {tid e kt t tt u t5 et:yb} (hi:HI) (keep keepE:yL Nat) (st:Ty.dens I->yL TD×yL TEnt) (lst:Ty.dens I->yL T.den) (kf:T.den->K.den) (i0 nn:Ty.dens I->Int) (mp:Ty.dens I->yL (K.den×yL T.den)) (fin:Ty.dens I->Ty.dens ty2) (o1 o2 o3 o4 o5:ym) (k y:Operand) (c:Call) (s0:Nat) (i:TypeInfo)
 (aA:Ty.dens I->Int->yL TD) (aB aC aD:Ty.dens I->Int->T.den->yL TD) (hB:Ty.dens I->Int->T.den->yL TEnt)
 (hL:∀v,L v=@ZFZ K.den T.den (Ty.dens ty2) (i0 v) (nn v) (lst v) (mp v) i.bytes (fin v))
 (h0:∀v,VY N sl es (ofD I v)=some (st v))
 (hX:∀v,VY N sl2 es2 (ofD ty2 (fin v))=some ((Zci keepE 0 (aA v (nn v))).set tm (.mp id),(st v).2.set id (.map tid K (.sl T) (@ZjD K.den T.den (Ty.deq K) kf (lst v)))))
 (f0:∀v,(st v).1[ti]? =some (.p (.v (.int .i64) (i0 v)))/\(st v).1[tm]? =some (.mp id)/\(st v).2[id]? =some (.map tid K (.sl T) (mp v))/\(st v).1.length=N/\(st v).2.length=n0)
 (f1:∀v,TD.rns (ZmI id) ((st v).1.set tm .junk)=some ((st v).1.set tm .junk)/\TEnt.rns (ZmI id) ((st v).2.set id .gone)=some ((st v).2.set id .gone))
 (fA:∀v z,ZtS P hi A A.toList (((st v).1.set tm .junk).set ti (.p (.v (.int .i64) z))) ((st v).2.set id .gone)=some (aA v z,(st v).2.set id .gone))
 (fc:∀v z,arT P (aA v z) 0 (.tmp tc)=some (.p (.v .bool (decide (z < nn v)))))
 (fB:∀v(j:Nat)p,(lst v)[j]? =some p->ZtS P hi B B.toList (aA v (j:Int)) ((st v).2.set id .gone)=some (aB v (j:Int) p,hB v (j:Int) p))
 (fC:∀v z p,ZtS P hi C ((C.toList.take 5).drop 1) ((aB v z p).set tq .junk) (hB v z p)=some (aC v z p,hB v z p))
 (fk:∀v z p,arT P (aC v z p) kt k=some (.p (.v K (kf p))))
 (fy:∀v z p,(arT P (((aC v z p).set t0 .junk).set t1 .junk) u y).bind (ZtI (lk (hB v z p)) P T u)=some [p])
 (fD:∀v z p,ZtS P hi D D.toList (((((aC v z p).set t0 .junk).set t1 .junk).set t2 .junk).set t3 .junk) (hB v z p)=some (aD v z p,hB v z p))
 (fd:∀v z p,WM (hB v z p) (yp n0) (yp n0)=some ((st v).2.set id .gone)/\TD.rns (toIds (yp n0)) (Zci keep 0 (aD v z p))=some (((st v).1.set tm .junk).set ti (.p (.v (.int .i64) (wi (z+1))))))
 (nw:(A.toList++B.toList++(C.toList.take 5).drop 1++D.toList).all (λx=>x.dst !=some tm)=true) (nq:((C.toList.take 5).drop 1).all (λx=>x.dst !=some tq)=true) (mv:(ZsD C 0).guard=none/\(ZsD C 0).op=.move (.tmp tm)/\(ZsD C 0).dst=some tq) (size:C.size=10) (lt:tq < N/\t0 < N/\t1 < N/\t2 < N/\t3 < N)
 (g:C[5]? =some o1/\C[6]? =some o2/\C[7]? =some o3/\C[8]? =some o4/\C[9]? =some o5/\o1.guard=none/\o2.guard=none/\o3.guard=none/\o4.guard=none/\o5.guard=none/\
   o1.op=.mapEntry t (.tmp tq) k/\o1.dst=some t0/\o2.op=.extract (.tmp t0) 0/\o2.dst=some t1/\o3.op=.call c/\c.callee=.builtin .append/\c.args.toList=[.tmp t1,y]/\c.argTypes.toList=[tt,u]/\o3.dst=some t2/\
   o4.op=.extract (.tmp t0) 1/\o4.dst=some t3/\o5.op=.entryStore t5 (.tmp tq) (.tmp t3) (.tmp t2)/\o5.dst=none)
 (pt:P.underlying t=some (.map kt et)/\hasZero P et=true/\zeroD P et=.p (.sl (some false) s0 [])/\P.underlying tt=some (.slice e)/\P.info? e=some i) (pz:(zOk i&&(i.size !=0)&&decide (i.size=T.size))=true) (pk:ZmE P kt K=true)
 (ne:t0≠t1/\t0≠t2/\t2≠t3/\tm≠t0/\tm≠t1/\tm≠t2/\tm≠t3/\tq≠t0/\tq≠t1/\tq≠t2/\tq≠t3/\tm≠tq):Lp.Ok P N body ⟨sl,es,I,[⟨.exit x0,sl2,es2,ty2⟩],L⟩:=by
 intro v o hv s hs ex vs s' hsel hf
 letI:=Ty.deq K
 subst hbody;obtain⟨rfl,rfl⟩:=hsel;have hv:L v=some o:=hv;rw[hL v] at hv;obtain⟨e1,e2,e3,e4,e5,rfl⟩:=ZDC hv;have hs:VY N sl es (ofD I v)=some s:=hs;rw[h0 v] at hs;cases hs;have hf:VY N sl2 es2 (ofD ty2 (fin v))=some s':=hf;rw[hX v] at hf;cases hf;obtain⟨i1,i2,i3,i4,i5⟩:=f0 v;obtain⟨j1,j2⟩:=f1 v;rw[e1] at i1;rw[e3] at i3;simp only[yi,yE,yP] at pz;obtain⟨⟨pz1,pz2⟩,pz3⟩:=pz;obtain⟨pt1,pt2,pt3,pt4,pt5⟩:=pt;have hce:P.cellsOf e=T.size:=by rw[<-pz3];simp[Program.cellsOf,pt5]
 let h1:yL TEnt:=(st v).2.set id .gone;have hlk:lk h1=lk (st v).2:=Zah i3 rfl rfl;have herH1:erH h1=(erH (st v).2).set id .gone:=WV hlk;have hset:∀(L:Lk)(l:yL TD)(j:Nat)(d:TD),TD.ers L (l.set j d)=(TD.ers L l).set j (d.er L):=λL l j d=>by rw[ZP,ZP,List.map_set]
 let pp:Nat->yO T.den:=λj=>(lst v)[j]?;let T0:Nat->yL Dv:=λj=>TD.ers (lk h1) (((st v).1.set tm .junk).set ti (.p (.v (.int .i64) (j:Int))));let TA:Nat->yL Dv:=λj=>TD.ers (lk h1) (aA v (j:Int))
 let TB:Nat->yL Dv:=λj=>match pp j with
  |some p=>TD.ers (lk (hB v (j:Int) p)) (aB v (j:Int) p)
  |none=>[]
 let TC:Nat->yL Dv:=λj=>match pp j with
  |some p=>TD.ers (lk (hB v (j:Int) p)) (aC v (j:Int) p)
  |none=>[]
 let TD':Nat->yL Dv:=λj=>match pp j with
  |some p=>TD.ers (lk (hB v (j:Int) p)) (aD v (j:Int) p)
  |none=>[]
 let HB:Nat->yL Ent:=λj=>match pp j with
  |some p=>erH (hB v (j:Int) p)
  |none=>[]
 let key:Nat->Pl:=λj=>match pp j with
  |some p=>K.enc (kf p)
  |none=>.ptr0
 let elt:Nat->Pl:=λj=>match pp j with
  |some p=>T.enc p
  |none=>.ptr0
 have hpp:∀(j:Nat),j < (lst v).length->∃p,pp j=some p/\(lst v)[j]? =some p/\idx (lst v) (j:Int)=some p:=λj hj=>by
  have:(lst v)[j]? =some (lst v)[j]:=yad hj;refine⟨_,this,this, ?_⟩;unfold idx;rw[yW (Int.natCast_nonneg j),Int.toNat_natCast];exact this
 have hbit:∀(j:Nat),j<=(lst v).length->decide ((j:Int) < nn v)=decide (j < (lst v).length):=λj _=>by
  rw[e2];exact decide_eq_decide.2 Int.ofNat_lt
 have hBl:∀(j:Nat)p,(lst v)[j]? =some p->ZtS P hi B B.toList (aA v (j:Int)) h1=some (aB v (j:Int) p,hB v (j:Int) p):=λj p hp=>fB v j p hp
 have lenA:∀z,(aA v z).length=N:=λz=>by
  rw[(ZjE (fA v z)).1,yan,yan,i4]
 have lenB:∀(j:Nat)p,(lst v)[j]? =some p->(aB v (j:Int) p).length=N:=λj p hp=>by
  rw[(ZjE (hBl j p hp)).1,lenA]
 have lenC:∀(j:Nat)p,(lst v)[j]? =some p->(aC v (j:Int) p).length=N:=λj p hp=>by
  rw[(ZjE (fC v (j:Int) p)).1,yan,lenB j p hp]
 have G:Gat P A B C D tc tm tq t0 t1 t2 t3 x0 T0 TA TB TC TD' HB (erH h1) keep (lst v).length T.size e key elt:=by
  refine⟨λj hj=> ?_,λj hj=> ?_,λj hj=> ?_,λj hj=> ?_,λj hj=> ?_,λj hj=> ?_,λx hx=> ?_,λx hx=> ?_,⟨ZsD C 0, ?_,mv.1,mv.2.1,mv.2.2⟩,λj hj=> ?_,size,λj hj=> ?_,⟨o1,o2,o3,o4,o5,t,tt,u,t5,kt,et,k,y,c,s0,i, ?_⟩,ne⟩
  ·exact(ZjE (fA v (j:Int))).2
  ·have:=Zv (L:=lk h1) (fc v (j:Int));rw[hbit j hj] at this;exact this
  ·obtain⟨p,q1,q2,q3⟩:=hpp j hj;simp only[TB,HB,q1];exact(ZjE (hBl j p q2)).2
  ·obtain⟨p,q1,q2,q3⟩:=hpp j hj;simp only[TB,TC,HB,q1];have:=(ZjE (fC v (j:Int) p)).2;simp only[hset] at this;exact this
  ·obtain⟨p,q1,q2,q3⟩:=hpp j hj;simp only[TC,TD',HB,q1];have:=(ZjE (fD v (j:Int) p)).2;simp only[hset] at this;exact this
  ·obtain⟨p,q1,q2,q3⟩:=hpp j hj;simp only[TD',HB,q1];obtain⟨d1,d2⟩:=fd v (j:Int) p;have hl1:(erH h1).length=n0:=by rw[Z1,yan,i5]
   rw[hl1];refine⟨W4 (ZbL d1) d1, ?_⟩;rw[<-Zgu];have:=rns_er (ZbL d1) _ _ d2;rw[this];congr 1
   have hw:wi ((j:Int)+1)=((j+1:Nat):Int):=by
    have:j+1<=maxLen:=by omega
    simp only[maxLen] at this;exact Yj (by omega) (by omega)
   show TD.ers (lk h1) _=T0 (j+1);rw[hw]
  ·have:=ybs.1 nw x (by
    simp only[ycp];rcases hx with h|h|h|h
    ·exact .inl (.inl (.inl h))
    ·exact .inl (.inl (.inr h))
    ·exact .inl (.inr h)
    ·exact .inr h)
   simpa using this
  ·have:=ybs.1 nq x hx;simpa using this
  ·have h0:0 < C.size:=by omega
   unfold ZsD;rw[yce h0];rfl
  ·obtain⟨p,q1,q2,q3⟩:=hpp j hj;simp only[TB,q1];rw[Zce,lenB j p q2];exact lt.1
  ·obtain⟨p,q1,q2,q3⟩:=hpp j hj;simp only[TC,q1];rw[Zce,lenC j p q2];exact lt.2
  ·obtain⟨g1,g2,g3,g4,g5,n1,n2,n3,n4,n5,r1,r2,r3,r4,r5,r6,r7,r8,r9,r10,r11,r12,r13⟩:=g;refine⟨g1,g2,g3,g4,g5,n1,n2,n3,n4,n5,r1,r2,r3,r4,r5,r6,r7,r8,r9,r10,r11,r12,r13,pt1,Zr7 pk,pt2,pt3,pt4,pt5,pz1,pz2,pz3,e4,e5,λj hj=> ?_,λj hj=> ?_,λj hj=> ?_⟩
   ·obtain⟨p,q1,q2,q3⟩:=hpp j hj;simp only[TC,key,q1];exact Zv (fk v (j:Int) p)
   ·obtain⟨p,q1,q2,q3⟩:=hpp j hj;simp only[key,q1];exact ZhB pk _
   ·obtain⟨p,q1,q2,q3⟩:=hpp j hj;simp only[TC,elt,q1];obtain⟨d,d1,d2⟩:=yf.1 (fy v (j:Int) p);have:=Zv (L:=lk (hB v (j:Int) p)) d1;simp only[hset] at this;rw[hce];show srcOf P T.size u (argD P (((TD.ers (lk (hB v (j:Int) p)) (aC v (j:Int) p)).set t0 .junk).set t1 .junk) u y)=_;have e9:TD.er (lk (hB v (j:Int) p)) TD.junk=.junk:=rfl;rw[e9] at this;rw[this];exact ZhA d2
 have hdet:∀gs,GS key elt (lst v).length gs->gs.map (λg=>(g.1,g.2.1))=Zmo K.enc T.enc (ZjD kf (lst v)):=λgs hgs=>by
  have:=ZB9 (ek:=K.enc) (ev:=T.enc) (Zq4 pk) kf (lst v) (key:=key) (elt:=elt) (λj p hp=>by
   have:pp j=some p:=hp;simp only[key,elt,this];exact⟨zY,ytt⟩) _ gs (yl _) hgs
  rw[List.take_length] at this;exact this
 have hHid:(erH (st v).2)[id]? =some (.map tid []):=by rw[Yf i3];rfl
 have htm:(TD.ers (lk (st v).2) (st v).1)[tm]? =some (.mp id):=by rw[QW i2];rfl
 have hti:((st v).1.set tm .junk).set ti (.p (.v (.int .i64) ((0:Nat):Int)))=(st v).1.set tm .junk:=by
  refine ybk λj=> ?_;rw[ybq];split
  ·rename_i hj;subst hj;have hne:tm≠ti:=λq=>by rw[q,i1] at i2;cases i2
   rw[ycy hne,i1,yW (by rw[yan];exact(yo.1 i1).1)];rfl
  ·rfl
 have hrcid:Rc (ZmI id) (lk h1) (lk h1):=λx j t' hx=>by
  unfold ZmI at hx;split at hx
  ·cases hx
  ·cases hx;rfl
 have main:=ZyK G rA rB rC rD x1 (id:=id) (tid:=tid) (ts0:=TD.ers (lk (st v).2) (st v).1) (H0:=erH (st v).2) keepE hdet hHid htm herH1 (by
  have:=rns_er hrcid _ _ j1;rw[hset] at this;rw[hlk] at this;show Dv.rns (ZmI id) _=some (TD.ers (lk h1) _);rw[hti,hset,hlk];exact this) (λj x hj hx=>by
  have hx':(erH h1)[j]? =some x:=by
   rw[herH1,ycy (Ne.symm hj)];exact hx
  unfold erH at hx';rw[yal] at hx'
  cases hy:h1[j]? with
  |none=>rw[hy] at hx';cases hx'
  |some z=>
   rw[hy] at hx';cases hx';obtain⟨y',y1,y2⟩:=ZCa j2 j z hy
   have:y'=z:=by
    have:h1[j]? =some y':=y1;rw[hy] at this;exact(ybw this).symm
   subst this;exact ZAq hrcid y2)
 have eH:erH ((st v).2.set id (.map tid K (.sl T) (ZjD kf (lst v))))=(erH (st v).2).set id (.map tid ((Zmo K.enc T.enc (ZjD kf (lst v))).map λq=>(q.1,.sl none T.size q.2))):=by
  have hl2:lk ((st v).2.set id (.map tid K (.sl T) (ZjD kf (lst v))))=lk (st v).2:=Zah i3 rfl rfl;rw[WV hl2];show(erH (st v).2).set id (Ent.map tid (kvl K.enc (Ty.sl T).enc (ZjD kf (lst v))))=_;unfold Zmo kvl;rw[ybe];rfl
 have eT:TD.ers (lk ((st v).2.set id (.map tid K (.sl T) (ZjD kf (lst v))))) ((Zci keepE 0 (aA v (nn v))).set tm (.mp id))=(maskFrom keepE 0 (TA (lst v).length)).set tm (.mp id):=by
  have hl2:lk ((st v).2.set id (.map tid K (.sl T) (ZjD kf (lst v))))=lk (st v).2:=Zah i3 rfl rfl;rw[hset,Zgu,hl2, <-hlk,e2];rfl
 show Wt P (.loop _) (TD.ers (lk (st v).2) (st v).1) (erH (st v).2) (.exit x0) (TD.ers (lk ((st v).2.set id (.map tid K (.sl T) (ZjD kf (lst v))))) ((Zci keepE 0 (aA v (nn v))).set tm (.mp id))) (erH ((st v).2.set id (.map tid K (.sl T) (ZjD kf (lst v)))));rw[eH,eT];exact main
end
end Go.Ev
end
section
namespace Go.Proofs.YtghfiijgklnflaaGreat
open Go.Ev Go.RowKit Go.Lib
abbrev zZ(t:Ty):List XSh:=[⟨.ret,[(0,.v t)],[],[t]⟩]
theorem ZAI(w:yz):Calls yc 199 #[.slice none 0 0,.int .i64 0] w λe w'=>e=.returned (.slice none 0 0)/\w'=w:=by
 go_enter Tryz.func199,Tryz.ntmps199
 go_wp2
 go_ret
 exact⟨rfl,rfl⟩
theorem ZDD(n:Nat)(w:yz)(h0:0 < n)(hn:n<=bytesBound):Calls yc 199 #[.slice none 0 0,.int .i64 n] w λe w'=>e=.returned (.slice (some ⟨w.heap.size,0,none⟩) 0 (grownCap w n 0 5))/\
 w'=w.drew.alloc (.cells (Builtin.zeroCells #[.int .u8 0] n++Builtin.zeroCells #[.int .u8 0] (grownCap w n 0 5 - n)) 5):=by
 have hb:n<=140737488355328:=hn;have h1:¬((n:Int) < 0):=by omega
 have h3:wrap64 ((n:Int) - ((0:Int) - (0:Int)))=(n:Int):=by unfold wrap64;omega
 have h3':wrap64 ((n:Int) - 0)=(n:Int):=by unfold wrap64;omega
 have h3'':wrap64 (n:Int)=(n:Int):=by unfold wrap64;omega
 have h4:(n:Int) > 0:=by omega
 have hi:∃i,yc.info? 5=some i/\i.zero=some (.int .u8 0)/\i.size=1/\i.bytes=1:=by
  have h:(yc.info? 5).map (λi=>(i.zero,i.size,i.bytes))=some (some (.int .u8 0),1,1):=by kernel_rfl
  obtain⟨i,h1,h2⟩:=Option.map_eq_some_iff.1 h;simp only[yab] at h2;exact⟨i,h1,h2.1,h2.2.1,h2.2.2⟩
 obtain⟨i,hi1,hi2,hi3,hi4⟩:=hi
 have hrz:∀ty,(Builtin.append_ #[34,3] ty #[.slice none 0 0,.int .i64 n]).run yc w=
  .ok (.slice (some ⟨w.heap.size,0,none⟩) n (grownCap w n 0 5)) (w.drew.alloc (.cells (Builtin.zeroCells #[.int .u8 0] n++Builtin.zeroCells #[.int .u8 0] (grownCap w n 0 5 - n)) 5)):=λty=>by
  have h:=Lib.run_append_grow_zeros (P:=yc) w 34 3 ty 5 i (.int .u8 0) .i64 .i64 Tryz.underlying34 Tryz.underlying3 hi1 hi2 none 0 0 [] (by rw[hi3];simp[Builtin.firstCells]) n h0 (by omega) (by omega) (by omega)
   (by rw[hi4];omega) (by rw[yay];exact growslice_fits h0 (by rw[hi4];omega))
  simpa[Value.cells] using h
 obtain⟨G,hG⟩:∃G,G=grownCap w n 0 5:=⟨_,rfl⟩;have hGn:=grownCap_ge w n 0 5;have hG63:=grownCap_le_maxLen w n 0 5 (by unfold maxLen;omega);unfold maxLen at hG63;rw[<-hG] at hrz hGn hG63 ⊢;clear hG
 go_enter Tryz.func199,Tryz.ntmps199
 go_wp2_with (at_builtin;refine Lib.wpList_append_run _ rfl _ _ _ _ rfl _ _ rfl rfl _ _ (hrz _) ?_)
 all_goals (go_ret;exact⟨rfl,rfl⟩)
theorem ZF0(n:Nat)(hn:n<=bytesBound):Con yc 199 [.p (.sl (some false) 1 []),.p (.int .i64 (n:Int))] [] (.own 0 none 1 []) [.log 1 5 []]:=by
 intro σ vs ok hH hvs;simp only[repVs] at hvs;obtain⟨v,_,rfl,hv,v2,_,rfl,hv2,rfl⟩:=hvs;obtain rfl:=ZnI hv
 obtain rfl:v2=.int .i64 n:=by
  have:=hv2.2 rfl;simpa[yG,repC] using this
 have hm:σ.m=[]:=List.eq_nil_of_length_eq_zero (by rw[ok.len,hH];rfl);rcases Nat.eq_zero_or_pos n with rfl|h0
 ·refine(ZAI σ.w).mono λe w'⟨he,hw⟩=> ?_;subst he;subst hw;obtain⟨to,ok'⟩:=V0 (σ':={ σ with m:=σ.m++[none],H:=σ.H++[.log 1 5 []]}) ok rfl rfl rfl rfl (World.grownBy.refl σ.w none) (.inl rfl) (λ_=>.inl ⟨rfl,rfl⟩);refine⟨_,{ σ with m:=σ.m++[none],H:=σ.H++[.log 1 5 []]},rfl,rfl,by simp[hH],to,ok', ?_⟩;rw[Zi rfl];simp only[yG];exact⟨λ_ hx=>(by cases hx),none,0,rfl,yl _,by simp[maxLen],Yp _,λ_=>rfl,λh=>absurd rfl h,5,[],by simp[hH],yl _,λ_=>.inl ⟨by simp[hm],rfl,rfl⟩⟩
 ·refine(ZDD n σ.w h0 hn).mono λe w'⟨he,hw⟩=> ?_;subst he;subst hw;have hge:=grownCap_ge σ.w n 0 5;have hcm:=grownCap_le_maxLen σ.w n 0 5 (by have:n<=140737488355328:=hn;unfold maxLen;omega)
  have hsz:(Builtin.zeroCells #[.int .u8 0] n++Builtin.zeroCells #[.int .u8 0] (grownCap σ.w n 0 5 - n):Array yh).size=grownCap σ.w n 0 5*1:=by
   simp only[Array.size_append,size_zeroCells];simp;omega
  let cs:Array yh:=Builtin.zeroCells #[.int .u8 0] n++Builtin.zeroCells #[.int .u8 0] (grownCap σ.w n 0 5 - n);let σ':Sg:={ σ with m:=σ.m++[some σ.w.heap.size],H:=σ.H++[.log 1 5 []],w:=σ.w.drew.alloc (.cells cs 5)};have zU:σ'.w.heap[σ.w.heap.size]? =some (.cells cs 5 (0,0)):=heap_alloc_new σ.w.drew _
  obtain⟨to,ok'⟩:=V0 (σ':=σ') ok rfl rfl rfl rfl (Y8 σ.w (.cells cs 5) none) (.inr ⟨_,rfl,yl _,by simp[σ']⟩)
   (λleaf=>.inr ⟨σ.w.heap.size,_,grownCap σ.w n 0 5,rfl,zU,hsz,Nat.zero_le _,hcm,λ_ hx=>(by cases hx),by simp[repCs]⟩)
  refine⟨_,σ',rfl,rfl,by simp[σ',hH],to,ok', ?_⟩;rw[Zi rfl];simp only[yG];exact⟨λ_ hx=>(by cases hx),_,_,rfl,Nat.zero_le _,hcm,Yp _,λh=>(by cases h),λh=>absurd rfl h,5,[],by simp[σ',hH],yl _,λ_=>.inr ⟨_,_,by simp[σ',hm],rfl,zU,hsz⟩⟩
end Go.Proofs.YtghfiijgklnflaaGreat
end
section
set_option maxRecDepth 4000
namespace Go.Proofs.YtghfiijgklnflaaGreat
open Go Go.Ev
noncomputable section
abbrev yI:Ty:=.int .i64
abbrev Zd:Ty:=(.st [(.arr 16 .u8),(.sl .u8)])
abbrev Ze:Type:=((yL yB)×(yL yB))
def Zgv(F:Nat)(a0:Int)(a1:Int):yO (Unit⊕(Int×Int×Unit)):=
 if(decide (a0 < 0))=true then
  some (.inl ())
 else
 if(decide (a1 < 0))=true then
  some (.inl ())
 else
 if(decide (a1 > 4096))=true then
  some (.inl ())
 else
 some (.inr (a0,a1,()))
def Zqa:Fs yc:=⟨10,[.v yI,.v yI],[],[yI,yI],[⟨.ret,[(0,.ptr0)],[],[]⟩,⟨.ret,[(0,.ref 0 [])],[.var (.agg [.v yI,.v yI,.nil Zd,.iface 96 (.v (.st []))]) true],[yI,yI,(.st [])]⟩],λx=>Zgv yD x.1 x.2⟩
theorem ZwO:Zqa.Ok:=fnO { still:=[4]} [] [] trivial
def Yw(F:Nat)(a0:(yL yB)):yO ((yL yB)):=
 if(apB 0 a0.length 1)=true then
  some a0
 else
 none
def ZhY:Fs yc:=⟨102,[.sl true .u8],[],[(.sl .u8)],(zZ (.sl .u8)),λx=>Yw yD x⟩
theorem Zha:ZhY.Ok:=fnO { own:=[5,7],still:=[2]} [] [] trivial
def Zaj(F:Nat):yO ((yL yB)):=
 some []
def ZfJ:Fs yc:=⟨102,[.nil .u8],[],[],(zZ (.sl .u8)),λx=>Zaj yD⟩
theorem Ze5:ZfJ.Ok:=fnO { own:=[5,7],still:=[2]} [] [] trivial
def Vb:Fs yc:=⟨102,[.v (.sl .u8)],[],[(.sl .u8)],(zZ (.sl .u8)),λx=>Yw yD x⟩
theorem QY:Vb.Ok:=ZwI (t:=.u8) (xs:=(zZ (.sl .u8))) (MA:=λ(x:(yL yB))=>Yw yD x) (MB:=λ_=>Zaj yD) Zha Ze5 rfl
def Zk7(F:Nat):yO ((yL yV)):=
 some [1779033703,3144134277,1013904242,2773480762,1359893119,2600822924,528734635,1541459225]
def Zoh:Fs yc:=⟨104,[],[],[],(zZ (.arr 8 .u32)),λx=>Zk7 yD⟩
theorem ZtT:Zoh.Ok:=fnO {} [] [] trivial
def ZS(F:Nat)(a0:yV)(a1:Int):yO (yV):=
 let y2:yV:=ZbK a0 (min (((w64 a1)&&&31).toNat:Int).toNat 32);let y3:yV:=Zfh a0 (min ((32 - ((w64 a1)&&&31)).toNat:Int).toNat 32)
 some (y2|||y3)
def Za6:Fs yc:=⟨155,[.v .u32,.v yI],[],[.u32,yI],(zZ .u32),λx=>ZS yD x.1 x.2⟩
theorem Zem:Za6.Ok:=fnO { still:=[4]} [] [] trivial
def ZfK(F:Nat)(a0:(yL yB)):yO (yV):=
 (idx a0 0).bind λe4=>
 (idx a0 1).bind λe5=>
 let y6:yV:=(ZbK (ybv e4.toNat) 24)|||(ZbK (ybv e5.toNat) 16)
 (idx a0 2).bind λe7=>
 (idx a0 3).bind λe8=>
 let y9:yV:=(y6|||(ZbK (ybv e7.toNat) 8))|||(ybv e8.toNat)
 some y9
def ZmJ:Fs yc:=⟨189,[.v (.sl .u8)],[],[(.sl .u8)],(zZ .u32),λx=>ZfK yD x⟩
theorem ZsE:ZmJ.Ok:=fnO { still:=[2]} [] [] trivial
def QZ(F:Nat)(s:((yL yB)×Int×(yL yV))):yO (((yL yB)×Int×(yL yV))⊕(yL yV)):=
 if(decide (s.2.1 < 64))=true then
  if(decide (s.2.1 < 16))=true then
   if(VZ s.1.length (some (wi (4*s.2.1))) none)=true then
    (ZfK F (s.1.drop ((wi (4*s.2.1)).toNat))).bind λo10=>
    if(inB s.2.1 64)=true then
     (s.2.2[s.2.1.toNat]?).bind λe11=>
     some (.inl (s.1,wi (s.2.1+1),s.2.2.set s.2.1.toNat o10))
    else
    none
   else
   none
  else
  if(inB (wi (s.2.1 - 15)) 64)=true then
   (s.2.2[(wi (s.2.1 - 15)).toNat]?).bind λe12=>
   if(inB (wi (s.2.1 - 2)) 64)=true then
    (s.2.2[(wi (s.2.1 - 2)).toNat]?).bind λe13=>
    (ZS F e12 (-7)).bind λo14=>
    (ZS F e12 (-18)).bind λo15=>
    (ZS F e13 (-17)).bind λo16=>
    (ZS F e13 (-19)).bind λo17=>
    if(inB (wi (s.2.1 - 16)) 64)=true then
     (s.2.2[(wi (s.2.1 - 16)).toNat]?).bind λe18=>
     if(inB (wi (s.2.1 - 7)) 64)=true then
      (s.2.2[(wi (s.2.1 - 7)).toNat]?).bind λe19=>
      let y20:yV:=((e18+((o14^^^o15)^^^(Zfh e12 3)))+e19)+((o16^^^o17)^^^(Zfh e13 10))
      if(inB s.2.1 64)=true then
       (s.2.2[s.2.1.toNat]?).bind λe21=>
       some (.inl (s.1,wi (s.2.1+1),s.2.2.set s.2.1.toNat y20))
      else
      none
     else
     none
    else
    none
   else
   none
  else
  none
 else
 some (.inr s.2.2)
def ZiB:Lp:=⟨[(0,.v (.sl .u8)),(2,.ref 0 []),(8,.v yI)],[.var (.v (.arr 64 .u32)) true],[(.sl .u8),yI,(.arr 64 .u32)],[⟨.exit 0,[(2,.ref 0 [])],[.var (.v (.arr 64 .u32)) true],[(.arr 64 .u32)]⟩],Zf (QZ yD) yD⟩
theorem Zmp:ZiB.okA yc 153 0:=Zy { still:=[17,28,30,36,38]} [] [ZmJ,Za6] ⟨ZsE,Zem,ytt⟩
def Zcn(F:Nat)(a0:(yL yB)):yO ((yL yV)):=
 (Zf (QZ F) F (a0,0,[0,0,0,0,0,0,0,0,0,0,0,0,0,0,0,0,0,0,0,0,0,0,0,0,0,0,0,0,0,0,0,0,0,0,0,0,0,0,0,0,0,0,0,0,0,0,0,0,0,0,0,0,0,0,0,0,0,0,0,0,0,0,0,0])).bind λo22=>
 some o22
def Zkf:Fs yc:=⟨153,[.v (.sl .u8)],[],[(.sl .u8)],(zZ (.arr 64 .u32)),λx=>Zcn yD x⟩
theorem Zpo:Zkf.Ok:=fnO { still:=[17,28,30,36,38]} [(0,ZiB)] [] trivial ⟨Zmp,ytt⟩
def Zk8(F:Nat):yO ((yL yV)):=
 some [1116352408,1899447441,3049323471,3921009573,961987163,1508970993,2453635748,2870763221,3624381080,310598401,607225278,1426881987,1925078388,2162078206,2614888103,3248222580,3835390401,4022224774,264347078,604807628,770255983,1249150122,1555081692,1996064986,2554220882,2821834349,2952996808,3210313671,3336571891,3584528711,113926993,338241895,666307205,773529912,1294757372,1396182291,1695183700,1986661051,2177026350,2456956037,2730485921,2820302411,3259730800,3345764771,3516065817,3600352804,4094571909,275423344,430227734,506948616,659060556,883997877,958139571,1322822218,1537002063,1747873779,1955562222,2024104815,2227730452,2361852424,2428436474,2756734187,3204031479,3329325298]
def Zoi:Fs yc:=⟨154,[],[],[],(zZ (.arr 64 .u32)),λx=>Zk8 yD⟩
theorem ZtU:Zoi.Ok:=fnO {} [] [] trivial
def Qq(F:Nat)(s:(Int×(yL yV)×(yL yV)×(yL yV)×(yL yV)×(yL yV))):yO ((Int×(yL yV)×(yL yV)×(yL yV)×(yL yV)×(yL yV))⊕((yL yV)×(yL yV)×(yL yV)×(yL yV)×(yL yV))):=
 if(decide (s.1 < 64))=true then
  (s.2.2.2.2.2[4]?).bind λe25=>
  (ZS F e25 (-6)).bind λo26=>
  (s.2.2.2.2.2[4]?).bind λe27=>
  (ZS F e27 (-11)).bind λo28=>
  (s.2.2.2.2.2[4]?).bind λe29=>
  (ZS F e29 (-25)).bind λo30=>
  (s.2.2.2.2.2[7]?).bind λe31=>
  (s.2.2.2.2.2[6]?).bind λe32=>
  (s.2.2.2.2.2[4]?).bind λe33=>
  (s.2.2.2.2.2[5]?).bind λe34=>
  (s.2.2.2.2.2[6]?).bind λe35=>
  let y36:yV:=(e31+((o26^^^o28)^^^o30))+(e32^^^(e33&&&(e34^^^e35)))
  if(inB s.1 64)=true then
   (s.2.2.2.2.1[s.1.toNat]?).bind λe37=>
   if(inB s.1 64)=true then
    (s.2.2.2.1[s.1.toNat]?).bind λe38=>
    (s.2.2.2.2.2[0]?).bind λe39=>
    (ZS F e39 (-2)).bind λo40=>
    (s.2.2.2.2.2[0]?).bind λe41=>
    (ZS F e41 (-13)).bind λo42=>
    (s.2.2.2.2.2[0]?).bind λe43=>
    (ZS F e43 (-22)).bind λo44=>
    (s.2.2.2.2.2[0]?).bind λe45=>
    (s.2.2.2.2.2[1]?).bind λe46=>
    (s.2.2.2.2.2[2]?).bind λe47=>
    (s.2.2.2.2.2[0]?).bind λe48=>
    (s.2.2.2.2.2[1]?).bind λe49=>
    let y50:yV:=(((y36+e37)+e38)+((o40^^^o42)^^^o44))+((e45&&&e46)|||(e47&&&(e48|||e49)))
    (s.2.2.2.2.2[0]?).bind λe51=>
    (s.2.2.2.2.2[1]?).bind λe52=>
    (s.2.2.2.2.2[2]?).bind λe53=>
    (s.2.2.2.2.2[3]?).bind λe54=>
    (s.2.2.2.2.2[4]?).bind λe55=>
    (s.2.2.2.2.2[5]?).bind λe56=>
    (s.2.2.2.2.2[6]?).bind λe57=>
    some (.inl (wi (s.1+1),s.2.1,s.2.2.1,s.2.2.2.1,s.2.2.2.2.1,[y50,e51,e52,e53,e54+((y36+e37)+e38),e55,e56,e57]))
   else
   none
  else
  none
 else
 some (.inr (s.2.1,s.2.2.1,s.2.2.2.1,s.2.2.2.2.1,s.2.2.2.2.2))
def ZIg:yL ESh:=[.var (.v (.arr 8 .u32)) true,.var (.v (.arr 8 .u32)) true,.var (.v (.arr 64 .u32)) true,.var (.v (.arr 64 .u32)) true,.var (.v (.arr 8 .u32)) true]
def ZhG:Lp:=⟨[(2,.ref 0 []),(4,.ref 1 []),(5,.ref 2 []),(6,.ref 3 []),(7,.ref 4 []),(18,.v yI)],ZIg,[yI,(.arr 8 .u32),(.arr 8 .u32),(.arr 64 .u32),(.arr 64 .u32),(.arr 8 .u32)],[⟨.exit 0,[(2,.ref 0 []),(4,.ref 1 []),(7,.ref 4 [])],ZIg,[(.arr 8 .u32),(.arr 8 .u32),(.arr 64 .u32),(.arr 64 .u32),(.arr 8 .u32)]⟩],Zf (Qq yD) yD⟩
def hi0:HI:={ still:=[14,22,25,29,57,60,64]}
theorem Zk9:ZhG.okA yc 105 0:=Zy hi0 [] [Za6] ⟨Zem,ytt⟩
def Qr(F:Nat)(s:(Int×(yL yV)×(yL yV)×(yL yV)×(yL yV)×(yL yV))):yO ((Int×(yL yV)×(yL yV)×(yL yV)×(yL yV)×(yL yV))⊕((yL yV)×(yL yV)×(yL yV)×(yL yV)×(yL yV))):=
 if(decide (s.1 < 8))=true then
  if(inB s.1 8)=true then
   (s.2.2.2.2.2[s.1.toNat]?).bind λe59=>
   if(inB s.1 8)=true then
    (s.2.1[s.1.toNat]?).bind λe60=>
    if(inB s.1 8)=true then
     (s.2.2.2.2.2[s.1.toNat]?).bind λe61=>
     some (.inl (wi (s.1+1),s.2.1,s.2.2.1,s.2.2.2.1,s.2.2.2.2.1,s.2.2.2.2.2.set s.1.toNat (e59+e60)))
    else
    none
   else
   none
  else
  none
 else
 some (.inr (s.2.1,s.2.2.1,s.2.2.2.1,s.2.2.2.2.1,s.2.2.2.2.2))
def ZhH:Lp:=⟨[(2,.ref 0 []),(4,.ref 1 []),(7,.ref 4 []),(104,.v yI)],ZIg,[yI,(.arr 8 .u32),(.arr 8 .u32),(.arr 64 .u32),(.arr 64 .u32),(.arr 8 .u32)],[⟨.exit 2,[(4,.ref 1 []),(7,.ref 4 [])],ZIg,[(.arr 8 .u32),(.arr 8 .u32),(.arr 64 .u32),(.arr 64 .u32),(.arr 8 .u32)]⟩],Zf (Qr yD) yD⟩
theorem Zla:ZhH.okA yc 105 1:=Zy hi0 [] [] trivial
def QK(F:Nat)(a0:(yL yV))(a1:(yL yB)):yO ((yL yV)):=
 (Zcn F a1).bind λo23=>
 (Zk8 F).bind λo24=>
 (Zf (Qq F) F (0,a0,[0,0,0,0,0,0,0,0],o23,o24,a0)).bind λo58=>
 (Zf (Qr F) F (0,o58.1,o58.2.1,o58.2.2.1,o58.2.2.2.1,o58.2.2.2.2)).bind λo62=>
 some o62.2.2.2.2
def ZdJ:Fs yc:=⟨105,[.v (.arr 8 .u32),.v (.sl .u8)],[],[(.arr 8 .u32),(.sl .u8)],(zZ (.arr 8 .u32)),λx=>QK yD x.1 x.2⟩
theorem ZhI:ZdJ.Ok:=fnO hi0 [(0,ZhG),(1,ZhH)] [Zkf,Zoi] ⟨Zpo,ZtU,ytt⟩ ⟨Zk9,Zla,ytt⟩
def Yx(F:Nat)(a0:(yL yB)):yO ((yL yB)):=
 if(apB 0 a0.length 1)=true then
  some a0
 else
 none
def ZfL:Fs yc:=⟨102,[.sl true .u8],[],[(.sl .u8)],[⟨.ret,[(0,.own 0 .u8)],[.log .u8 5],[(.sl .u8)]⟩],λx=>Yx yD x⟩
theorem Ze6:ZfL.Ok:=fnO { own:=[2,5,7]} [] [] trivial
def Zak(F:Nat):yO ((yL yB)):=
 some []
def ZfM:Fs yc:=⟨102,[.nil .u8],[],[],[⟨.ret,[(0,.own 0 .u8)],[.log .u8 5],[(.sl .u8)]⟩],λx=>Zak yD⟩
theorem Ze7:ZfM.Ok:=fnO { own:=[2,5,7]} [] [] trivial
def Qh:Fs yc:=⟨102,[.v (.sl .u8)],[],[(.sl .u8)],[⟨.ret,[(0,.own 0 .u8)],[.log .u8 5],[(.sl .u8)]⟩],λx=>Yx yD x⟩
theorem ZdK:Qh.Ok:=ZwI (t:=.u8) (xs:=[⟨.ret,[(0,.own 0 .u8)],[.log .u8 5],[(.sl .u8)]⟩]) (MA:=λ(x:(yL yB))=>Yx yD x) (MB:=λ_=>Zak yD) Ze6 Ze7 rfl
def Zd2(F:Nat)(s:((yL yB)×(yL yB)×(yL yB))):yO (((yL yB)×(yL yB)×(yL yB))⊕((yL yB)×(yL yB)×(yL yB))):=
 if((Int.tmod (s.2.2.length:Int) 64)!=56)=true then
  if(apB s.2.2.length 1 1)=true then
   some (.inl (s.1,s.2.1,s.2.2++([0]:yL yB)))
  else
  none
 else
 some (.inr (s.1,s.2.1,s.2.2))
abbrev zS:List ESh:=[.var (.v (.arr 32 .u8)) true,.log .u8 5]
def Zoj:Lp:=⟨[(0,.v (.sl .u8)),(2,.ref 0 []),(3,.own 1 .u8)],zS,[(.sl .u8),(.arr 32 .u8),(.sl .u8)],[⟨.exit 0,[(0,.v (.sl .u8)),(2,.ref 0 []),(3,.own 1 .u8)],zS,[(.sl .u8),(.arr 32 .u8),(.sl .u8)]⟩],Zf (Zd2 yD) yD⟩
def hi1:HI:={ own:=[3,14,16,21,23,24,28,43],still:=[13,24,27,35,37,44,46]}
theorem ZqK:Zoj.okA yc 45 0:=Zy hi1 [] [] trivial
def ZaU(F:Nat)(s:(Int×Int×(yL yB)×(yL yB))):yO ((Int×Int×(yL yB)×(yL yB))⊕((yL yB)×(yL yB))):=
 if(decide (s.2.1 >= 0))=true then
  if(decide (0<=s.2.1))=true then
   if(apB s.2.2.1.length 1 1)=true then
    let y66:(yL yB):=s.2.2.1++([w8 (Int.fdiv s.1 (2 ^ (min s.2.1.toNat 64)))]:yL yB)
    some (.inl (s.1,wi (s.2.1 - 8),y66,s.2.2.2))
   else
   none
  else
  none
 else
 some (.inr (s.2.2.1,s.2.2.2))
def Zkg:Lp:=⟨[(0,.own 0 .u8),(1,.v yI),(5,.v yI)],[.log .u8 5,.log .u8 5],[yI,yI,(.sl .u8),(.sl .u8)],[⟨.exit 0,[(0,.own 0 .u8)],[.log .u8 5,.log .u8 5],[(.sl .u8),(.sl .u8)]⟩],Zf (ZaU yD) yD⟩
theorem Zni:Zkg.okA yc 103 0:=Zy { own:=[0,4,10,16,17]} [] [] trivial
def VW(F:Nat)(a1:Int)(s0:(yL yB)):yO ((yL yB)):=
 (Zf (ZaU F) F (a1,56,s0,[])).bind λo67=>
 some o67.1
def Zal:Fs yc:=⟨103,[.own 0 .u8,.v yI],[.log .u8 5],[yI,(.sl .u8)],[⟨.ret,[(0,.own 0 .u8)],[.log .u8 5],[(.sl .u8)]⟩],λx=>VW yD x.1 x.2⟩
theorem Ze8:Zal.Ok:=fnO { own:=[0,4,10,16,17]} [(0,Zkg)] [] trivial ⟨Zni,ytt⟩
def Zd3(F:Nat)(s:((yL yB)×(yL yB)×(yL yB)×(yL yV))):yO (((yL yB)×(yL yB)×(yL yB)×(yL yV))⊕((yL yB)×(yL yB)×(yL yV))):=
 if(decide ((s.1.length:Int) >= 64))=true then
  if(VZ s.1.length none (some 64))=true then
   (QK F s.2.2.2 (s.1.take 64)).bind λo70=>
   if(VZ s.1.length (some 64) none)=true then
    some (.inl (s.1.drop 64,s.2.1,s.2.2.1,o70))
   else
   none
  else
  none
 else
 some (.inr (s.2.1,s.2.2.1,s.2.2.2))
abbrev zM:List ESh:=[.var (.v (.arr 32 .u8)) true,.log .u8 5,.var (.v (.arr 8 .u32)) true]
def Zok:Lp:=⟨[(0,.v (.sl .u8)),(2,.ref 0 []),(3,.own 1 .u8),(4,.ref 2 [])],zM,[(.sl .u8),(.arr 32 .u8),(.sl .u8),(.arr 8 .u32)],[⟨.exit 2,[(2,.ref 0 []),(3,.own 1 .u8),(4,.ref 2 [])],zM,[(.arr 32 .u8),(.sl .u8),(.arr 8 .u32)]⟩],Zf (Zd3 yD) yD⟩
theorem ZqL:Zok.okA yc 45 1:=Zy hi1 [] [ZdJ] ⟨ZhI,ytt⟩
def Zd4(F:Nat)(s:((yL yB)×(yL yB)×(yL yB)×(yL yV))):yO (((yL yB)×(yL yB)×(yL yB)×(yL yV))⊕((yL yB)×(yL yB)×(yL yV))):=
 if(decide ((s.1.length:Int) > 0))=true then
  if(VZ s.1.length none (some 64))=true then
   (QK F s.2.2.2 (s.1.take 64)).bind λo73=>
   if(VZ s.1.length (some 64) none)=true then
    some (.inl (s.1.drop 64,s.2.1,s.2.2.1,o73))
   else
   none
  else
  none
 else
 some (.inr (s.2.1,s.2.2.1,s.2.2.2))
def Zol:Lp:=⟨[(2,.ref 0 []),(3,.v (.sl .u8)),(4,.ref 2 [])],zM,[(.sl .u8),(.arr 32 .u8),(.sl .u8),(.arr 8 .u32)],[⟨.exit 4,[(2,.ref 0 []),(4,.ref 2 [])],zM,[(.arr 32 .u8),(.sl .u8),(.arr 8 .u32)]⟩],Zf (Zd4 yD) yD⟩
theorem ZqM:Zol.okA yc 45 2:=Zy hi1 [] [ZdJ] ⟨ZhI,ytt⟩
def Zd5(F:Nat)(s:(Int×(yL yB)×(yL yB)×(yL yV))):yO ((Int×(yL yB)×(yL yB)×(yL yV))⊕((yL yB)×(yL yB)×(yL yV))):=
 if(decide (s.1 < 32))=true then
  if(inB (wi (Int.tdiv s.1 4)) 8)=true then
   (s.2.2.2[(wi (Int.tdiv s.1 4)).toNat]?).bind λe75=>
   if(decide (0<=wi (24 - (wi (8*(Int.tmod s.1 4))))))=true then
    let y76:yV:=Zfh e75 (min (wi (24 - (wi (8*(Int.tmod s.1 4))))).toNat 32)
    if(inB s.1 32)=true then
     (s.2.1[s.1.toNat]?).bind λe77=>
     some (.inl (wi (s.1+1),s.2.1.set s.1.toNat (w8 (y76.toNat:Int)),s.2.2.1,s.2.2.2))
    else
    none
   else
   none
  else
  none
 else
 some (.inr (s.2.1,s.2.2.1,s.2.2.2))
def Zom:Lp:=⟨[(2,.ref 0 []),(4,.ref 2 []),(48,.v yI)],zM,[yI,(.arr 32 .u8),(.sl .u8),(.arr 8 .u32)],[⟨.exit 6,[(2,.ref 0 [])],zM,[(.arr 32 .u8),(.sl .u8),(.arr 8 .u32)]⟩],Zf (Zd5 yD) yD⟩
theorem ZqN:Zom.okA yc 45 3:=Zy hi1 [] [] trivial
def Zgw(F:Nat)(a0:(yL yB)):yO ((yL yB)):=
 let y63:Int:=wi ((a0.length:Int) - (Int.tmod (a0.length:Int) 64))
 if(VZ a0.length (some y63) none)=true then
  (Yx F (a0.drop y63.toNat)).bind λo64=>
  if(apB o64.length 1 1)=true then
   (Zf (Zd2 F) F (a0,yzz,o64++([128]:yL yB))).bind λo65=>
   (VW F (wi (8*(o65.1.length:Int))) o65.2.2).bind λo68=>
   (Zk7 F).bind λo69=>
   (Zf (Zd3 F) F (o65.1,o65.2.1,o68,o69)).bind λo71=>
   (Zf (Zd4 F) F (o71.2.1,o71.1,o71.2.1,o71.2.2)).bind λo74=>
   (Zf (Zd5 F) F (0,o74.1,o74.2.1,o74.2.2)).bind λo78=>
   some o78.1
  else
  none
 else
 none
def ZjF(F:Nat):Fs yc:=⟨45,[.v (.sl .u8)],[],[(.sl .u8)],(zZ (.arr 32 .u8)),λx=>Zgw F x⟩
def ZyL:Fs yc:=ZjF yD
theorem ZwP:ZyL.Ok:=fnO hi1 [(0,Zoj),(1,Zok),(2,Zol),(3,Zom)] [Zal,Qh,Zoh] ⟨Ze8,ZdK,ZtT,ytt⟩ ⟨ZqK,ZqL,ZqM,ZqN,ytt⟩
end
end Go.Proofs.YtghfiijgklnflaaGreat
end
section
namespace Go.Sha
open Go.Ev
noncomputable def Zbd{α:Type}(n:Nat)(k:Nat->α):α:=Nat.rec (motive:=λ_=>α) (k 0) (λm _=>k (Nat.succ m)) n
theorem Wz{α:Type}(n:Nat)(k:Nat->α):Zbd n k=k n:=by cases n <;> rfl
def dbl(x:Nat):Nat:=Nat.mul x 4294967297
def s0(x:Nat):Nat:=Nat.xor (Nat.xor (yak (dbl x) 7) (yak (dbl x) 18)) (yak x 3)
def s1(x:Nat):Nat:=Nat.xor (Nat.xor (yak (dbl x) 17) (yak (dbl x) 19)) (yak x 10)
def S0(x:Nat):Nat:=Nat.xor (Nat.xor (yak (dbl x) 2) (yak (dbl x) 13)) (yak (dbl x) 22)
def S1(x:Nat):Nat:=Nat.xor (Nat.xor (yak (dbl x) 6) (yak (dbl x) 11)) (yak (dbl x) 25)
def ch(e f g:Nat):Nat:=Nat.xor g (Nat.land e (Nat.xor f g))
def mj(a b c:Nat):Nat:=Nat.lor (Nat.land a b) (Nat.land c (Nat.lor a b))
def lo(x:Nat):Nat:=Nat.mod x 4294967296
def kw(W:Nat):Nat:=lo (yr (yr (yr (yak W 480) (s0 (lo (yak W 448)))) (lo (yak W 192))) (s1 (lo (yak W 32))))
def kn(W:Nat):Nat:=Nat.mod (yr (Nat.mul W 4294967296) (kw W)) (Nat.pow 2 512)
noncomputable def kst(k:Nat)(ih:Nat->Nat->Nat->Nat->Nat->Nat->Nat->Nat->Nat->Nat)(W a b c d e f g h:Nat):Nat:=
 Zbd (yr (yr (yr (yr h (S1 e)) (ch e f g)) k) (yak W 480)) λt=>
     Zbd (lo (yr (yr t (S0 a)) (mj a b c))) λa'=>Zbd (lo (yr d t)) λe'=>Zbd (kn W) λW'=>ih W' a' a b c e' e f g
noncomputable def kgo(ks:yL Nat)(K:Nat->Nat->Nat->Nat->Nat->Nat->Nat->Nat->Nat):Nat->Nat->Nat->Nat->Nat->Nat->Nat->Nat->Nat->Nat:=
 List.rec (motive:=λ_=>Nat->Nat->Nat->Nat->Nat->Nat->Nat->Nat->Nat->Nat) (λ_=>K) (λk _ ih=>kst k ih) ks
def ks:yL Nat:=[1116352408,1899447441,3049323471,3921009573,961987163,1508970993,2453635748,2870763221,3624381080,310598401,607225278,1426881987,1925078388,2162078206,2614888103,3248222580,3835390401,4022224774,264347078,604807628,770255983,1249150122,1555081692,1996064986,2554220882,2821834349,2952996808,3210313671,3336571891,3584528711,113926993,338241895,666307205,773529912,1294757372,1396182291,1695183700,1986661051,2177026350,2456956037,2730485921,2820302411,3259730800,3345764771,3516065817,3600352804,4094571909,275423344,430227734,506948616,659060556,883997877,958139571,1322822218,1537002063,1747873779,1955562222,2024104815,2227730452,2361852424,2428436474,2756734187,3204031479,3329325298]
def w32(H i:Nat):Nat:=lo (yak H i)
def cat(H x:Nat):Nat:=yr (Nat.mul H 4294967296) (lo x)
noncomputable def ZIh(H B:Nat):Nat:=
 Zbd (w32 H 224) λa=>Zbd (w32 H 192) λb=>Zbd (w32 H 160) λc=>Zbd (w32 H 128) λd=>Zbd (w32 H 96) λe=>Zbd (w32 H 64) λf=>Zbd (w32 H 32) λg=>Zbd (w32 H 0) λh=>
  kgo ks (λa' b' c' d' e' f' g' h'=>cat (cat (cat (cat (cat (cat (cat (cat 0 (yr a' a)) (yr b' b)) (yr c' c)) (yr d' d)) (yr e' e)) (yr f' f)) (yr g' g)) (yr h' h)) B a b c d e f g h
noncomputable def pk(l:yL Nat)(n:Nat):Nat:=List.rec (motive:=λ_=>Nat->Nat) (λn=>n) (λx _ ih n=>Zbd (yr (Nat.mul n 256) x) ih) l n
noncomputable def ZJQ(n:Nat)(l:yL Nat)(H:Nat):Nat:=
 Nat.rec (motive:=λ_=>yL Nat->Nat->Nat) (λ_ H=>H) (λ_ ih l H=>Zbd (ZIh H (pk (l.take 64) 0)) λH'=>ih (l.drop 64) H') n l H
noncomputable def outs(H:Nat)(l:yL Nat):yL yB:=List.rec (motive:=λ_=>yL yB) [] (λs _ ih=>Zbd (Nat.mod (yak H s) 256) λx=>yav x::ih) l
def ZAJ:yL Nat:=[248,240,232,224,216,208,200,192,184,176,168,160,152,144,136,128,120,112,104,96,88,80,72,64,56,48,40,32,24,16,8,0]
def be8(n:Nat):yL Nat:=[n / 2 ^ 56 % 256,n / 2 ^ 48 % 256,n / 2 ^ 40 % 256,n / 2 ^ 32 % 256,n / 2 ^ 24 % 256,n / 2 ^ 16 % 256,n / 2 ^ 8 % 256,n % 256]
def zs(n:Nat):Nat:=(119 - n % 64) % 64
def H0:Nat:=cat (cat (cat (cat (cat (cat (cat (cat 0 1779033703) 3144134277) 1013904242) 2773480762) 1359893119) 2600822924) 528734635) 1541459225
noncomputable def sha(l:yL yB):yL yB:=
 Zbd l.length λn=>Zbd (ZJQ (Nat.div (yr n 72) 64) (l.map UInt8.toNat++(128::(yac (zs n) 0++be8 (8*n)))) H0) λH=>outs H ZAJ
theorem Za1(x y:yV):(x+y).toNat=lo (x.toNat+y.toNat):=by rw[UInt32.toNat_add];rfl
theorem ZmK(x y:yV):(x^^^y).toNat=Nat.xor x.toNat y.toNat:=UInt32.toNat_xor ..
theorem ZF1(x y:yV):(x&&&y).toNat=Nat.land x.toNat y.toNat:=UInt32.toNat_and ..
theorem ZwQ(x y:yV):(x|||y).toNat=Nat.lor x.toNat y.toNat:=UInt32.toNat_or ..
theorem ZJR(x:yV):x.toNat < 4294967296:=x.toNat_lt
theorem Zvd(x:yV)(n:Nat):(Zfh x n).toNat=yak x.toNat n:=by
 unfold Zfh;rw[UInt32.toNat_ofNat',show yak x.toNat n=x.toNat >>> n from rfl,ydg]
 exact yap (Nat.lt_of_le_of_lt (Nat.div_le_self _ _) (ZJR x))
theorem ZII(x:Nat):lo x < 4294967296:=Nat.mod_lt _ (by omega)
theorem Zc1{x:Nat}(h:x < 4294967296):lo x=x:=yap h
theorem ZIJ(x:yV){n k:Nat}(h:n+k=32)(hn:0 < n):(ZbK x k|||Zfh x n).toNat=lo (yak (dbl x.toNat) n):=by
 rw[ZwQ,Zvd];unfold ZbK;have hx:=ZJR x;generalize x.toNat=m at hx;have hp:2 ^ n*2 ^ k=4294967296:=by rw[<-Nat.pow_add,h]
 rw[UInt32.toNat_ofNat',show yak m n=m >>> n from rfl,ydg,show yak (dbl m) n=(dbl m) >>> n from rfl,ydg]
 have e1:m*2 ^ k % 2 ^ 32=2 ^ k*(m % 2 ^ n):=by
  rw[show(2:Nat) ^ 32=2 ^ n*2 ^ k from hp.symm,Nat.mul_mod_mul_right]
  exact ybt ..
 have hd:m / 2 ^ n < 2 ^ k:=by
  rw[Nat.div_lt_iff_lt_mul (Nat.two_pow_pos n),ybt,hp];exact hx
 rw[e1,show Nat.lor (2 ^ k*(m % 2 ^ n)) (m / 2 ^ n)=2 ^ k*(m % 2 ^ n)|||m / 2 ^ n from rfl, <-Nat.two_pow_add_eq_or_of_lt hd]
 have e2:dbl m=2 ^ n*(m*2 ^ k)+m:=by
  unfold dbl;rw[Nat.mul_left_comm,hp,show Nat.mul m 4294967297=m*4294967297 from rfl]
  omega
 rw[e2,Nat.mul_add_div (Nat.two_pow_pos n)];unfold lo;rw[show Nat.mod (m*2 ^ k+m / 2 ^ n) 4294967296=(m*2 ^ k+m / 2 ^ n) % 4294967296 from rfl,Nat.add_mod,show m*2 ^ k % 4294967296=2 ^ k*(m % 2 ^ n) from e1,yap (a:=m / 2 ^ n) (b:=4294967296) (by rw[<-hp];exact ycv hd (Nat.le_mul_of_pos_left _ (Nat.two_pow_pos n)))]
 refine(yap ?_).symm;have hm:m % 2 ^ n < 2 ^ n:=Nat.mod_lt _ (Nat.two_pow_pos n)
 calc 2 ^ k*(m % 2 ^ n)+m / 2 ^ n < 2 ^ k*(m % 2 ^ n)+2 ^ k:=by omega
  _=2 ^ k*(m % 2 ^ n+1):=by rw[Nat.mul_add,Nat.mul_one]
  _<=2 ^ k*2 ^ n:=Nat.mul_le_mul_left _ hm
  _=4294967296:=by rw[ybt,hp]
theorem Zlb(x y:Nat):lo (Nat.xor x y)=Nat.xor (lo x) (lo y):=Nat.xor_mod_two_pow (n:=32)
theorem ZF2(x:yV)(n:Nat):lo (yak x.toNat n)=yak x.toNat n:=by
 rw[<-Zvd];exact Zc1 (ZJR _)
theorem ZKR(x:yV){a b:yV}(ha:a.toNat=lo (yak (dbl x.toNat) 7))(hb:b.toNat=lo (yak (dbl x.toNat) 18)):((a^^^b)^^^Zfh x 3).toNat=lo (s0 x.toNat):=by
 unfold s0;rw[ZmK,ZmK,Zvd,ha,hb,Zlb,Zlb,ZF2]
theorem ZKS(x:yV){a b:yV}(ha:a.toNat=lo (yak (dbl x.toNat) 17))(hb:b.toNat=lo (yak (dbl x.toNat) 19)):((a^^^b)^^^Zfh x 10).toNat=lo (s1 x.toNat):=by
 unfold s1;rw[ZmK,ZmK,Zvd,ha,hb,Zlb,Zlb,ZF2]
theorem ZKT(x:yV){a b c:yV}(ha:a.toNat=lo (yak (dbl x.toNat) 2))(hb:b.toNat=lo (yak (dbl x.toNat) 13))(hc:c.toNat=lo (yak (dbl x.toNat) 22)):((a^^^b)^^^c).toNat=lo (S0 x.toNat):=by
 unfold S0;rw[ZmK,ZmK,ha,hb,hc,Zlb,Zlb]
theorem ZKU(x:yV){a b c:yV}(ha:a.toNat=lo (yak (dbl x.toNat) 6))(hb:b.toNat=lo (yak (dbl x.toNat) 11))(hc:c.toNat=lo (yak (dbl x.toNat) 25)):((a^^^b)^^^c).toNat=lo (S1 x.toNat):=by
 unfold S1;rw[ZmK,ZmK,ha,hb,hc,Zlb,Zlb]
theorem ZKV(e f g:yV):(g^^^(e&&&(f^^^g))).toNat=ch e.toNat f.toNat g.toNat:=by
 unfold ch;rw[ZmK,ZF1,ZmK]
theorem ZKW(a b c:yV):((a&&&b)|||(c&&&(a|||b))).toNat=mj a.toNat b.toNat c.toNat:=by
 unfold mj;rw[ZwQ,ZF1,ZF1,ZwQ]
theorem ZKX(a b c d:Nat):lo (lo (lo (a+lo b)+c)+lo d)=lo (a+b+c+d):=by
 show(((a+b % 4294967296) % 4294967296+c) % 4294967296+d % 4294967296) % 4294967296=(a+b+c+d) % 4294967296;omega
theorem ZKY(a b c d e:Nat):lo (lo (lo (lo (a+lo b)+c)+d)+e)=lo (yr (yr (yr (yr a b) c) d) e):=by
 show((((a+b % 4294967296) % 4294967296+c) % 4294967296+d) % 4294967296+e) % 4294967296=(a+b+c+d+e) % 4294967296;omega
theorem ZKZ(t s m:Nat):lo (lo (lo t+lo s)+m)=lo (yr (yr t s) m):=by
 show((t % 4294967296+s % 4294967296) % 4294967296+m) % 4294967296=(t+s+m) % 4294967296;omega
theorem ZK0(d t:Nat):lo (d+lo t)=lo (yr d t):=by
 show(d+t % 4294967296) % 4294967296=(d+t) % 4294967296;omega
def pw(n:Nat)(l:yL Nat):Nat:=l.foldl (λn x=>n*4294967296+x) n
theorem ZAK:∀(l:yL Nat)(n:Nat),(∀x,x∈l->x < 4294967296)->pw n l / 2 ^ (32*l.length)=n
 |[],n,_=>by simp[pw]
 |x::r,n,h=>by
  have ih:=ZAK r (n*4294967296+x) (λy hy=>h y (ybh _ hy));have hx:=h x (ybd ..);rw[show pw n (x::r)=pw (n*4294967296+x) r from rfl,yao,show 32*(r.length+1)=32*r.length+32 by omega,Nat.pow_add, <-Nat.div_div_eq_div_mul,ih]
  omega
theorem Zon:∀(l:yL Nat)(n:Nat),pw n l=n*2 ^ (32*l.length)+pw 0 l
 |[],n=>by simp[pw]
 |x::r,n=>by
  rw[show pw n (x::r)=pw (n*4294967296+x) r from rfl,show pw 0 (x::r)=pw (0*4294967296+x) r from rfl,Zon r (n*4294967296+x),Zon r (0*4294967296+x),yao,show 32*(r.length+1)=32+32*r.length by omega,Nat.pow_add,Nat.zero_mul,
   yay,yaz, <-Nat.mul_assoc,ych]
theorem ZIK:∀(l:yL Nat),(∀x,x∈l->x < 4294967296)->pw 0 l < 2 ^ (32*l.length)
 |[],_=>by simp[pw]
 |x::r,h=>by
  have ih:=ZIK r (λy hy=>h y (ybh _ hy));have hx:=h x (ybd ..);rw[show pw 0 (x::r)=pw (0*4294967296+x) r from rfl,Zon,yao,show 32*(r.length+1)=32+32*r.length by omega,Nat.pow_add,Nat.zero_mul,yay]
  have:(x+1)*2 ^ (32*r.length)<=2 ^ 32*2 ^ (32*r.length):=ybp _ (by omega);rw[yaz,Nat.one_mul] at this;omega
theorem ZIL{n x s:Nat}{r:yL Nat}(h:∀y,y∈r->y < 4294967296)(hs:s=32*r.length):yak (pw n (x::r)) s=n*4294967296+x:=by
 subst hs;rw[show yak (pw n (x::r)) (32*r.length)=pw n (x::r) >>> (32*r.length) from rfl,ydg]
 exact ZAK r (n*4294967296+x) h
theorem ZIM{n x s:Nat}{r:yL Nat}(hx:x < 4294967296)(h:∀y,y∈r->y < 4294967296)(hs:s=32*r.length):lo (yak (pw n (x::r)) s)=x:=by
 rw[ZIL h hs];show(n*4294967296+x) % 4294967296=x;omega
theorem ZAL(n:Nat)(l r:yL Nat):pw n (l++r)=pw (pw n l) r:=List.foldl_append ..
theorem ZCb(n x:Nat)(r:yL Nat):pw n (x::r)=pw (n*4294967296+x) r:=rfl
theorem ZhJ{v l r:yL Nat}{x s:Nat}(e:v=l++x::r)(h:∀y,y∈v->y < 4294967296)(hs:s=32*r.length):lo (yak (pw 0 v) s)=x:=by
 rw[e] at h ⊢;rw[ZAL];exact ZIM (h x (by simp)) (λy hy=>h y (by simp[hy])) hs
def wd(ws:yL Nat)(n:Nat):Nat:=if h:n < 16 then lo (ws.getD n 0) else lo (wd ws (n - 16)+s0 (wd ws (n - 15))+wd ws (n - 7)+s1 (wd ws (n - 2)))
termination_by n
decreasing_by all_goals omega
theorem ZK1(ws:yL Nat)(n:Nat):wd ws n < 4294967296:=by
 rw[wd];split <;> exact ZII _
theorem ZwR(ws:yL Nat)(n:Nat):wd ws (n+16)=lo (wd ws n+s0 (wd ws (n+1))+wd ws (n+9)+s1 (wd ws (n+14))):=by
 rw[wd,dif_neg (by omega)];simp only[Nat.add_sub_cancel,show n+16 - 15=n+1 by omega,show n+16 - 7=n+9 by omega,show n+16 - 2=n+14 by omega]
def win(ws:yL Nat)(i:Nat):yL Nat:=[wd ws i,wd ws (i+1),wd ws (i+2),wd ws (i+3),wd ws (i+4),wd ws (i+5),wd ws (i+6),wd ws (i+7),wd ws (i+8),wd ws (i+9),wd ws (i+10),wd ws (i+11),wd ws (i+12),wd ws (i+13),wd ws (i+14),wd ws (i+15)]
theorem ZAM{ws:yL Nat}{i:Nat}{l:yL Nat}(h:∀x,x∈l->∃j,x=wd ws j):∀x,x∈l->x < 4294967296:=λx hx=>by
 obtain⟨j,rfl⟩:=h x hx;exact ZK1 _ _
theorem ZCc(ws:yL Nat)(i:Nat):yak (pw 0 (win ws i)) 480=wd ws i:=by
 have h:=ZIL (n:=0) (x:=wd ws i) (s:=480) (r:=(win ws i).tail) (ZAM (ws:=ws) (i:=i) (λx hx=>by
  simp only[win,List.tail_cons,yci,List.not_mem_nil,or_false] at hx;rcases hx with h|h|h|h|h|h|h|h|h|h|h|h|h|h|h <;> exact⟨_,h⟩)) rfl
 rw[Nat.zero_mul,yay] at h;exact h
theorem ZJS(ws:yL Nat)(i:Nat):kw (pw 0 (win ws i))=wd ws (i+16):=by
 have key:∀(l r:yL Nat)(x s:Nat),win ws i=l++x::r->s=32*r.length->lo (yak (pw 0 (win ws i)) s)=x:=by
  intro l r x s e hs
  have zL:∀y,y∈win ws i->y < 4294967296:=ZAM (i:=i) λx hx=>by
   simp only[win,yci,List.not_mem_nil,or_false] at hx;rcases hx with h|h|h|h|h|h|h|h|h|h|h|h|h|h|h|h <;> exact⟨_,h⟩
  rw[e] at zL ⊢;rw[ZAL];exact ZIM (zL x (by simp)) (λy hy=>zL y (by simp[hy])) hs
 unfold kw;rw[ZCc,key [_] _ (wd ws (i+1)) 448 rfl rfl,key [_,_,_,_,_,_,_,_,_] _ (wd ws (i+9)) 192 rfl rfl,key [_,_,_,_,_,_,_,_,_,_,_,_,_,_] _ (wd ws (i+14)) 32 rfl rfl,ZwR];rfl
theorem ZIi(a b m:Nat)(h:b < 2 ^ m):Nat.mod (a*2 ^ m+b) (Nat.pow 2 m)=b:=by
 show(a*2 ^ m+b) % 2 ^ m=b;rw[ybt,Nat.mul_add_mod];exact yap h
theorem ZJT(ws:yL Nat)(i:Nat):kn (pw 0 (win ws i))=pw 0 (win ws (i+1)):=by
 have e:yr (Nat.mul (pw 0 (win ws i)) 4294967296) (kw (pw 0 (win ws i)))=pw (wd ws i) (win ws (i+1)):=by
  rw[ZJS];show pw 0 (win ws i)*4294967296+wd ws (i+16)=pw (wd ws i) (win ws (i+1));rw[show wd ws i=0*4294967296+wd ws i by omega];rfl
 unfold kn;rw[e,Zon];have hl:(win ws (i+1)).length=16:=rfl
 have hlt:=ZIK (win ws (i+1)) (ZAM (i:=i+1) λx hx=>by
  simp only[win,yci,List.not_mem_nil,or_false] at hx;rcases hx with h|h|h|h|h|h|h|h|h|h|h|h|h|h|h|h <;> exact⟨_,h⟩)
 rw[show 512=32*(win ws (i+1)).length by rw[hl]];exact ZIi _ _ _ hlt
def rnd(v:yL Nat)(k w:Nat):yL Nat:=match v with
 |[a,b,c,d,e,f,g,h]=>[lo (yr (yr (yr (yr (yr (yr h (S1 e)) (ch e f g)) k) w) (S0 a)) (mj a b c)),a,b,c,lo (yr d (yr (yr (yr (yr h (S1 e)) (ch e f g)) k) w)),e,f,g]
 |_=>[]
def rs(ws v:yL Nat):Nat->yL Nat
 |0=>v
 |i+1=>rnd (rs ws v i) (ks.getD i 0) (wd ws i)
theorem ZIj{v:yL Nat}(h:v.length=8)(k w:Nat):(rnd v k w).length=8:=by
 match v,h with
 |[a,b,c,d,e,f,g,h],_=>rfl
theorem ZwS{ws v:yL Nat}(h:v.length=8):∀i,(rs ws v i).length=8
 |0=>h
 |i+1=>ZIj (ZwS h i) _ _
noncomputable def ZF3(f:Nat->Nat->Nat->Nat->Nat->Nat->Nat->Nat->Nat)(v:yL Nat):Nat:=match v with
 |[a,b,c,d,e,f',g,h]=>f a b c d e f' g h
 |_=>0
theorem Zme{F:Nat->Nat->Nat->Nat->Nat->Nat->Nat->Nat->Nat}{a b c d e f g h:Nat}:ZF3 F [a,b,c,d,e,f,g,h]=F a b c d e f g h:=rfl
theorem ZF4(k:Nat)(l:yL Nat)(K:Nat->Nat->Nat->Nat->Nat->Nat->Nat->Nat->Nat):kgo (k::l) K=kst k (kgo l K):=rfl
theorem ZsF(a b c d e f g h k w:Nat):rnd [a,b,c,d,e,f,g,h] k w=[lo (yr (yr (yr (yr (yr (yr h (S1 e)) (ch e f g)) k) w) (S0 a)) (mj a b c)),a,b,c,lo (yr d (yr (yr (yr (yr h (S1 e)) (ch e f g)) k) w)),e,f,g]:=rfl
theorem ZJU(k:Nat)(ih:Nat->Nat->Nat->Nat->Nat->Nat->Nat->Nat->Nat->Nat)(W a b c d e f g h:Nat):kst k ih W a b c d e f g h=
 ih (kn W) (lo (yr (yr (yr (yr (yr (yr h (S1 e)) (ch e f g)) k) (yak W 480)) (S0 a)) (mj a b c))) a b c (lo (yr d (yr (yr (yr (yr h (S1 e)) (ch e f g)) k) (yak W 480)))) e f g:=by
 unfold kst;rw[Wz,Wz,Wz,Wz]
theorem ZF5{ws v:yL Nat}{K:Nat->Nat->Nat->Nat->Nat->Nat->Nat->Nat->Nat}{k w:Nat}{l:yL Nat}(hv:v.length=8){W:Nat}(hW:yak W 480=w):ZF3 (kgo (k::l) K W) v=ZF3 (kgo l K (kn W)) (rnd v k w):=by
 match v,hv with
 |[a,b,c,d,e,f,g,h],_=>
  rw[ZF4,Zme,ZJU,hW,ZsF,Zme]
theorem ZCd{ws v:yL Nat}{K:Nat->Nat->Nat->Nat->Nat->Nat->Nat->Nat->Nat}(hv:v.length=8):∀(m i:Nat),i+m=64->ZF3 (kgo (ks.drop i) K (pw 0 (win ws i))) (rs ws v i)=ZF3 K (rs ws v 64)
 |0,i,h=>by
  have e:i=64:=by omega
  subst e;rw[show ks.drop 64=[] from rfl]
  generalize pw 0 (win ws 64)=W
  rfl
 |m+1,i,h=>by
  have hi:i < ks.length:=by show i < 64;omega
  rw[List.drop_eq_getElem_cons hi,ZF5 (ws:=ws) (ZwS hv i) (ZCc ws i),ZJT];have:=ZCd (ws:=ws) (K:=K) hv m (i+1) (by omega);rw[show rs ws v (i+1)=rnd (rs ws v i) (ks.getD i 0) (wd ws i) from rfl,show ks.getD i 0=ks[i] by rw[ydf,yad hi];rfl] at this
  exact this
def ZjG(v ws:yL Nat):yL Nat:=List.zipWith (λx y=>lo (x+y)) (rs ws v 64) v
theorem Zgx{v ws:yL Nat}(h:v.length=8):(ZjG v ws).length=8:=by
 rw[ZjG,List.length_zipWith,ZwS h,h];rfl
theorem ZCe{v ws:yL Nat}:∀x,x∈ZjG v ws->x < 4294967296:=by
 intro x hx;unfold ZjG at hx;rw[List.mem_iff_getElem] at hx;obtain⟨i,hi,rfl⟩:=hx;rw[List.getElem_zipWith];exact ZII _
theorem ZIk{v ws:yL Nat}(hv:v.length=8)(hlt:∀x,x∈v->x < 4294967296)(hw:ws.length=16)(hwl:∀x,x∈ws->x < 4294967296):ZIh (pw 0 v) (pw 0 ws)=pw 0 (ZjG v ws):=by
 have e0:ws=win ws 0:=by
  match ws,hw with
  |[a0,a1,a2,a3,a4,a5,a6,a7,a8,a9,a10,a11,a12,a13,a14,a15],_=>
   simp only[yci,List.not_mem_nil,or_false,forall_eq_or_imp,forall_eq] at hwl;obtain⟨h0,h1,h2,h3,h4,h5,h6,h7,h8,h9,h10,h11,h12,h13,h14,h15⟩:=hwl;have hs:∀n,n < 16->wd [a0,a1,a2,a3,a4,a5,a6,a7,a8,a9,a10,a11,a12,a13,a14,a15] n=lo ([a0,a1,a2,a3,a4,a5,a6,a7,a8,a9,a10,a11,a12,a13,a14,a15].getD n 0):=λn hn=>by rw[wd,dif_pos hn]
   unfold win;rw[hs 0 (by omega),hs (0+1) (by omega),hs (0+2) (by omega),hs (0+3) (by omega),hs (0+4) (by omega),hs (0+5) (by omega),hs (0+6) (by omega),hs (0+7) (by omega),hs (0+8) (by omega),hs (0+9) (by omega),hs (0+10) (by omega),hs (0+11) (by omega),hs (0+12) (by omega),hs (0+13) (by omega),hs (0+14) (by omega),hs (0+15) (by omega)];show _=[lo a0,lo a1,lo a2,lo a3,lo a4,lo a5,lo a6,lo a7,lo a8,lo a9,lo a10,lo a11,lo a12,lo a13,lo a14,lo a15];rw[Zc1 h0,Zc1 h1,Zc1 h2,Zc1 h3,Zc1 h4,Zc1 h5,Zc1 h6,Zc1 h7,Zc1 h8,Zc1 h9,Zc1 h10,Zc1 h11,Zc1 h12,Zc1 h13,Zc1 h14,Zc1 h15]
 match v,hv with
 |[a,b,c,d,e,f,g,h],hv=>
  have ea:w32 (pw 0 [a,b,c,d,e,f,g,h]) 224=a:=ZhJ (l:=[]) (r:=[b,c,d,e,f,g,h]) rfl hlt rfl;have eb:w32 (pw 0 [a,b,c,d,e,f,g,h]) 192=b:=ZhJ (l:=[a]) (r:=[c,d,e,f,g,h]) rfl hlt rfl;have ec:w32 (pw 0 [a,b,c,d,e,f,g,h]) 160=c:=ZhJ (l:=[a,b]) (r:=[d,e,f,g,h]) rfl hlt rfl;have ed:w32 (pw 0 [a,b,c,d,e,f,g,h]) 128=d:=ZhJ (l:=[a,b,c]) (r:=[e,f,g,h]) rfl hlt rfl;have ee:w32 (pw 0 [a,b,c,d,e,f,g,h]) 96=e:=ZhJ (l:=[a,b,c,d]) (r:=[f,g,h]) rfl hlt rfl;have ef:w32 (pw 0 [a,b,c,d,e,f,g,h]) 64=f:=ZhJ (l:=[a,b,c,d,e]) (r:=[g,h]) rfl hlt rfl;have eg:w32 (pw 0 [a,b,c,d,e,f,g,h]) 32=g:=ZhJ (l:=[a,b,c,d,e,f]) (r:=[h]) rfl hlt rfl;have eh:w32 (pw 0 [a,b,c,d,e,f,g,h]) 0=h:=ZhJ (l:=[a,b,c,d,e,f,g]) (r:=[]) rfl hlt rfl;unfold ZIh;rw[ea,eb,ec,ed,ee,ef,eg,eh,Wz,Wz,Wz,Wz,Wz,Wz,Wz,Wz];have hr:=ZCd (ws:=ws) (v:=[a,b,c,d,e,f,g,h]) (K:=λa' b' c' d' e' f' g' h'=>cat (cat (cat (cat (cat (cat (cat (cat 0 (yr a' a)) (yr b' b)) (yr c' c)) (yr d' d)) (yr e' e)) (yr f' f)) (yr g' g)) (yr h' h)) rfl 64 0 rfl;rw[<-e0,show ks.drop 0=ks from rfl,show rs ws [a,b,c,d,e,f,g,h] 0=[a,b,c,d,e,f,g,h] from rfl,Zme] at hr
  rw[hr];unfold ZjG;generalize rs ws [a,b,c,d,e,f,g,h] 64=q,ZwS (ws:=ws) hv 64=hq
  match q,hq with
  |[a',b',c',d',e',f',g',h'],_=>
   rw[Zme];simp only[List.zipWith_cons_cons,List.zipWith_nil_right,ZCb,cat];rfl
theorem Zrb(x:Nat)(l:yL Nat)(n:Nat):pk (x::l) n=pk l (n*256+x):=by
 show Zbd (yr (Nat.mul n 256) x) (pk l)=_;rw[Wz];rfl
def Yz:yL Nat->yL Nat
 |a::b::c::d::r=>(((a*256+b)*256+c)*256+d)::Yz r
 |_=>[]
theorem ZyM:∀(m:Nat)(l:yL Nat)(n:Nat),l.length=4*m->pk l n=pw n (Yz l)
 |0,[],n,_=>rfl
 |0,_::_,_,h=>by simp at h
 |m+1,[],_,h=>by simp at h
 |m+1,[_],_,h=>by simp at h;omega
 |m+1,[_,_],_,h=>by simp at h;omega
 |m+1,[_,_,_],_,h=>by simp at h;omega
 |m+1,a::b::c::d::r,n,h=>by
  rw[Zrb,Zrb,Zrb,Zrb,Yz];rw[ZyM m r _ (by simp at h;omega),ZCb];have e:(((n*256+a)*256+b)*256+c)*256+d=n*4294967296+(((a*256+b)*256+c)*256+d):=by omega
  rw[e]
theorem Zqb:∀(m:Nat)(l:yL Nat),l.length=4*m->(Yz l).length=m
 |0,[],_=>rfl
 |0,_::_,h=>by simp at h
 |m+1,[],h=>by simp at h
 |m+1,[_],h=>by simp at h;omega
 |m+1,[_,_],h=>by simp at h;omega
 |m+1,[_,_,_],h=>by simp at h;omega
 |m+1,a::b::c::d::r,h=>by
  rw[Yz,yao,Zqb m r (by simp at h;omega)]
theorem ZsG:∀(m:Nat)(l:yL Nat),l.length=4*m->(∀x,x∈l->x < 256)->∀x,x∈Yz l->x < 4294967296
 |0,[],_,_,x,hx=>by simp[Yz] at hx
 |0,_::_,h,_,_,_=>by simp at h
 |m+1,[],h,_,_,_=>by simp at h
 |m+1,[_],h,_,_,_=>by simp at h;omega
 |m+1,[_,_],h,_,_,_=>by simp at h;omega
 |m+1,[_,_,_],h,_,_,_=>by simp at h;omega
 |m+1,a::b::c::d::r,h,hl,x,hx=>by
  rw[Yz] at hx;have h1:=hl a (by simp);have h2:=hl b (by simp);have h3:=hl c (by simp);have h4:=hl d (by simp);rcases yci.1 hx with rfl|hx
  ·omega
  ·exact ZsG m r (by simp at h;omega) (λy hy=>hl y (by simp[hy])) x hx
theorem Zlc:∀(i:Nat)(l:yL Nat)(a b c d:Nat),l[4*i]? =some a->l[4*i+1]? =some b->l[4*i+2]? =some c->l[4*i+3]? =some d->(Yz l)[i]? =some (((a*256+b)*256+c)*256+d)
 |0,[],_,_,_,_,h,_,_,_=>by simp at h
 |0,[_],_,_,_,_,_,h,_,_=>by simp at h
 |0,[_,_],_,_,_,_,_,_,h,_=>by simp at h
 |0,[_,_,_],_,_,_,_,_,_,_,h=>by simp at h
 |0,a::b::c::d::r,_,_,_,_,h1,h2,h3,h4=>by
  simp at h1 h2 h3 h4;subst h1 h2 h3 h4
  rfl
 |i+1,[],_,_,_,_,h,_,_,_=>by simp at h
 |i+1,[_],_,_,_,_,h,_,_,_=>by simp[show 4*(i+1)=4*i+3+1 by omega] at h
 |i+1,[_,_],_,_,_,_,h,_,_,_=>by simp[show 4*(i+1)=4*i+2+1+1 by omega] at h
 |i+1,[_,_,_],_,_,_,_,h,_,_,_=>by simp[show 4*(i+1)=4*i+1+1+1+1 by omega] at h
 |i+1,a::b::c::d::r,_,_,_,_,h1,h2,h3,h4=>by
  rw[Yz,ybb]
  exact Zlc i r _ _ _ _ (by simpa[show 4*(i+1)=4*i+1+1+1+1 by omega] using h1) (by simpa[show 4*(i+1)+1=4*i+1+1+1+1+1 by omega] using h2)
   (by simpa[show 4*(i+1)+2=4*i+2+1+1+1+1 by omega] using h3) (by simpa[show 4*(i+1)+3=4*i+3+1+1+1+1 by omega] using h4)
def Zgy:Nat->yL Nat->yL Nat->yL Nat
 |0,_,v=>v
 |n+1,l,v=>Zgy n (l.drop 64) (ZjG v (Yz (l.take 64)))
theorem ZCf:∀(n:Nat)(l v:yL Nat),l.length=64*n->(∀x,x∈l->x < 256)->v.length=8->(∀x,x∈v->x < 4294967296)->ZJQ n l (pw 0 v)=pw 0 (Zgy n l v)
 |0,l,v,_,_,_,_=>rfl
 |n+1,l,v,h1,h2,h3,h4=>by
  show Zbd (ZIh (pw 0 v) (pk (l.take 64) 0)) (ZJQ n (l.drop 64))=_;have hl:(l.take 64).length=4*16:=by rw[yv];omega
  rw[Wz,ZyM 16 _ 0 hl,ZIk h3 h4 (Zqb 16 _ hl) (ZsG 16 _ hl λx hx=>h2 x (List.mem_of_mem_take hx))];exact ZCf n (l.drop 64) _ (by rw[ybf];omega) (λx hx=>h2 x (List.mem_of_mem_drop hx)) (Zgx h3) ZCe
theorem ZyN:∀(n:Nat)(l v:yL Nat),v.length=8->(Zgy n l v).length=8
 |0,_,_,h=>h
 |n+1,l,v,h=>ZyN n _ _ (Zgx h)
theorem ZCg:∀(n:Nat)(l v:yL Nat),(∀x,x∈v->x < 4294967296)->∀x,x∈Zgy n l v->x < 4294967296
 |0,_,_,h=>h
 |n+1,l,v,h=>ZCg n _ _ ZCe
theorem ZsH:∀(n m:Nat)(l r v:yL Nat),l.length=64*n->Zgy (n+m) (l++r) v=Zgy m r (Zgy n l v)
 |0,m,l,r,v,h=>by
  have:l=[]:=List.length_eq_zero_iff.1 (by omega);subst this;rw[yay]
  rfl
 |n+1,m,l,r,v,h=>by
  rw[show n+1+m=(n+m)+1 by omega,Zgy,List.drop_append_of_le_length (by omega),List.take_append_of_le_length (by omega),ZsH n m _ r _ (by rw[ybf];omega)];rfl
theorem Zmf:∀(c:Nat)(l v:yL Nat),Zgy (c+1) l v=ZjG (Zgy c l v) (Yz ((l.drop (64*c)).take 64))
 |0,l,v=>by rw[Nat.mul_zero,List.drop_zero];rfl
 |c+1,l,v=>by
  rw[show Zgy (c+1+1) l v=Zgy (c+1) (l.drop 64) (ZjG v (Yz (l.take 64))) from rfl,Zmf c,List.drop_drop,show 64+64*c=64*(c+1) by omega]
  rfl
theorem ZyO(ws:yL Nat){n x:Nat}(hn:n < 16)(h:ws[n]? =some x)(hx:x < 4294967296):wd ws n=x:=by
 rw[wd,dif_pos hn,ydf,h];exact Zc1 hx
def ZF6(v:yL Nat)(k:Nat):yB:=yav (v.getD (k / 4) 0 / 2 ^ (24 - 8*(k % 4)))
theorem ZIl{v:yL Nat}(hv:v.length=8)(hlt:∀x,x∈v->x < 4294967296):outs (pw 0 v) ZAJ=(yp 32).map (ZF6 v):=by
 have hgo:∀(H:Nat)(l:yL Nat),outs H l=l.map λs=>yav (H / 2 ^ s % 256):=by
  intro H l
  induction l with
  |nil=>rfl
  |cons s r ih=>
   show Zbd (Nat.mod (yak H s) 256) (λx=>yav x::outs H r)=_;rw[Wz,ih,yah,show yak H s=H >>> s from rfl,ydg]
   rfl
 have hb:∀(l r:yL Nat)(x j s:Nat),v=l++x::r->j<=24->s=32*r.length+j->yav (pw 0 v / 2 ^ s % 256)=yav (x / 2 ^ j):=by
  intro l r x j s e hj hs;have zL:=hlt;rw[e] at zL
  have h1:pw 0 v / 2 ^ (32*r.length)=pw 0 l*4294967296+x:=by
   rw[e,ZAL];exact ZAK r _ (λy hy=>zL y (by simp[hy]))
  rw[hs,Nat.pow_add, <-Nat.div_div_eq_div_mul,h1]
  have h2:pw 0 l*4294967296+x=2 ^ j*(pw 0 l*2 ^ (24 - j)*256)+x:=by
   rw[show(4294967296:Nat)=2 ^ j*2 ^ (24 - j)*256 by rw[<-Nat.pow_add,show j+(24 - j)=24 by omega]];congr 1;ac_rfl
  rw[h2,Nat.mul_add_div (Nat.two_pow_pos j),ybt (pw 0 l*2 ^ (24 - j)) 256,Nat.mul_add_mod];exact UInt8.toNat_inj.1 (by simp)
 match v,hv with
 |[a,b,c,d,e,f,g,h],_=>
  rw[hgo];simp only[ZAJ,yah,List.map_nil]
  rw[hb [] [b,c,d,e,f,g,h] a 24 248 rfl (by omega) rfl,hb [] [b,c,d,e,f,g,h] a 16 240 rfl (by omega) rfl,hb [] [b,c,d,e,f,g,h] a 8 232 rfl (by omega) rfl,hb [] [b,c,d,e,f,g,h] a 0 224 rfl (by omega) rfl,
   hb [a] [c,d,e,f,g,h] b 24 216 rfl (by omega) rfl,hb [a] [c,d,e,f,g,h] b 16 208 rfl (by omega) rfl,hb [a] [c,d,e,f,g,h] b 8 200 rfl (by omega) rfl,hb [a] [c,d,e,f,g,h] b 0 192 rfl (by omega) rfl,
   hb [a,b] [d,e,f,g,h] c 24 184 rfl (by omega) rfl,hb [a,b] [d,e,f,g,h] c 16 176 rfl (by omega) rfl,hb [a,b] [d,e,f,g,h] c 8 168 rfl (by omega) rfl,hb [a,b] [d,e,f,g,h] c 0 160 rfl (by omega) rfl,
   hb [a,b,c] [e,f,g,h] d 24 152 rfl (by omega) rfl,hb [a,b,c] [e,f,g,h] d 16 144 rfl (by omega) rfl,hb [a,b,c] [e,f,g,h] d 8 136 rfl (by omega) rfl,hb [a,b,c] [e,f,g,h] d 0 128 rfl (by omega) rfl,
   hb [a,b,c,d] [f,g,h] e 24 120 rfl (by omega) rfl,hb [a,b,c,d] [f,g,h] e 16 112 rfl (by omega) rfl,hb [a,b,c,d] [f,g,h] e 8 104 rfl (by omega) rfl,hb [a,b,c,d] [f,g,h] e 0 96 rfl (by omega) rfl,
   hb [a,b,c,d,e] [g,h] f 24 88 rfl (by omega) rfl,hb [a,b,c,d,e] [g,h] f 16 80 rfl (by omega) rfl,hb [a,b,c,d,e] [g,h] f 8 72 rfl (by omega) rfl,hb [a,b,c,d,e] [g,h] f 0 64 rfl (by omega) rfl,
   hb [a,b,c,d,e,f] [h] g 24 56 rfl (by omega) rfl,hb [a,b,c,d,e,f] [h] g 16 48 rfl (by omega) rfl,hb [a,b,c,d,e,f] [h] g 8 40 rfl (by omega) rfl,hb [a,b,c,d,e,f] [h] g 0 32 rfl (by omega) rfl,
   hb [a,b,c,d,e,f,g] [] h 24 24 rfl (by omega) rfl,hb [a,b,c,d,e,f,g] [] h 16 16 rfl (by omega) rfl,hb [a,b,c,d,e,f,g] [] h 8 8 rfl (by omega) rfl,hb [a,b,c,d,e,f,g] [] h 0 0 rfl (by omega) rfl]
  rfl
def Zgz(l:yL yB):yL Nat:=l.map UInt8.toNat++(128::(yac (zs l.length) 0++be8 (8*l.length)))
def ZdL:yL Nat:=[1779033703,3144134277,1013904242,2773480762,1359893119,2600822924,528734635,1541459225]
theorem ZsI(l:yL yB):(Zgz l).length=64*((l.length+72) / 64):=by
 unfold Zgz;simp only[yj,yaa,yao,ycx,be8,List.length_nil,zs];omega
theorem ZDE(l:yL yB):∀x,x∈Zgz l->x < 256:=by
 intro x hx;unfold Zgz at hx;simp only[ycp,List.mem_map,yci,List.mem_replicate,be8,List.not_mem_nil,or_false] at hx;rcases hx with⟨y,_,rfl⟩|rfl|⟨_,rfl⟩|h
 ·exact y.toNat_lt
 ·omega
 ·omega
 ·rcases h with h|h|h|h|h|h|h|h <;> rw[h] <;> exact Nat.mod_lt _ (by omega)
theorem ZAN(l:yL yB):sha l=(yp 32).map (ZF6 (Zgy ((l.length+72) / 64) (Zgz l) ZdL)):=by
 unfold sha
 rw[Wz,Wz,show H0=pw 0 ZdL from rfl,show l.map UInt8.toNat++(128::(yac (zs l.length) 0++be8 (8*l.length)))=Zgz l from rfl,
  show Nat.div (yr l.length 72) 64=(l.length+72) / 64 from rfl]
 have hf:∀x,x∈ZdL->x < 4294967296:=by decide
 rw[ZCf _ _ _ (ZsI l) (ZDE l) rfl hf];exact ZIl (ZyN _ _ _ rfl) (ZCg _ _ _ hf)
theorem ZLx(l:yL yB):(sha l).length=32:=by rw[ZAN];simp
end Go.Sha
end
