/- Parts of the proof, in one file. -/
import Derived.Test.YtmkgbalfkhaflaaGreatKc
open Bool renaming and_eq_true → yj, false_eq_true → ybu, or_eq_true → yce
open Go renaming TypeId → yb, Program → yg, Operand → yo, FuncId → yv
open List renaming length_append → yp, getElem?_eq_some_iff → yr, range → yw, nil_append → yx, replicate → yy, length_map → yz, cons_append → yaa, getElem?_eq_getElem → yac, length_cons → yae, map_cons → yag, append_assoc → yaj, getElem?_map → yal, getElem?_append_left → yao, getElem?_eq_none → yap, getElem?_cons_succ → yaq, getElem?_cons_zero → yar, getElem?_append_right → yas, mem_cons_self → yau, map_append → yav, mem_cons_of_mem → yay, map_map → ybd, all_eq_true → ybe, append_nil → ybi, take_length → ybk, length_set → ybl, map_set → ybp, ext_getElem? → ybq, getElem?_set → ybw, map_take → ycb, map_congr_left → ycj, length_replicate → ycp, length_nil → ycq, getElem?_set_self → ycr, getD_eq_getElem?_getD → ycw, getElem?_set_ne → yda
open Nat renaming le_refl → yn, add_assoc → ycg
open Option renaming bind_some → ya, bind_eq_some_iff → yf, map_eq_some_iff → yq, map_some → yab
open Option.some renaming injEq → yi
set_option linter.unusedVariables false
set_option linter.unusedSimpArgs false
section
namespace Go.Ev
section
variable{P:yg}{o:Oper}{ts all:List TD}{H:List TEnt}{O:Type}{K:Kn O}{out:O}
theorem ZbF{id:Nat}{e x:TEnt}(hx:H[id]? =some x)(h1:x.isLog=false)(h2:e.isLog=false):TD.ers (lk (H.set id e)) all=TD.ers (lk H) all:=by rw[Qy hx h1 h2]
def ZwL(P:yg)(t:yb)(all:List TD)(H:List TEnt)(K:Kn O)(kd vd:yb→Option TD):TD→Option O
 |.mp id=>match P.underlying t with
  |some (.map kt et)=>(Zvl H id).bind λm=>(kd kt).bind λx=>(ZBU x m.k).bind λkey=>((vd et).bind (TD.flat (lk H))).bind λz=>(TP.to Zkz z m.v).bind λy=>
   if Zoe P kt m.k=true then K all .junk (H.set id (.map m.tid m.k m.v (@Zwp m.k.den m.v.den (Ty.deq m.k) m.l key y))) [.kvs (kvl m.k.enc m.v.enc (@Zwp m.k.den m.v.den (Ty.deq m.k) m.l key y))] 2 else none
  |_=>none
 |_=>none
theorem ZwM{t:yb}{x k v:yo}{xd:TD}(ho:o.op=.mapUpdate t x k v)(hx:arT P ts t x=some xd)(h:ZwL P t all H K (λkt=>arT P ts kt k) (λet=>arT P ts et v) xd=some out):
 ∃a d H' hs c,K a d H' hs c=some out∧Good P o ts all H a d H' hs c:=by
 have hv:=Zw (L:=lk H) hx;unfold ZwL at h;split at h
 ·rename_i id;split at h
  ·rename_i kt et hu;obtain⟨m,h1,h⟩:=yf.1 h;obtain⟨kd,h2,h⟩:=yf.1 h;obtain⟨key,h3,h⟩:=yf.1 h;obtain⟨z,h4,h⟩:=yf.1 h;obtain⟨zd,h40,h41⟩:=yf.1 h4;obtain⟨y,h6,h⟩:=yf.1 h;obtain⟨h5,h⟩:=Za h;obtain⟨e1,e2⟩:=ZiN h1;have hk:=Zw (L:=lk H) h2;rw[ZsM h3] at hk;have hz:=Zw (L:=lk H) h40
   letI:=Ty.deq m.k
   refine⟨_,_,_,_,_,h,ZbF e1 rfl rfl,rfl,or3 (⟨rfl,λrest=> ?_,λrest=> ?_,[fitP P 20 kt (m.k.enc key),ZgI P kt (kvl m.k.enc m.v.enc m.l),Zmv (kvl m.k.enc m.v.enc m.l) (m.k.enc key) z.pe.soft (kvl m.k.enc m.v.enc (Zwp m.l key y))],
    ⟨ZgX h5 key,ZlG (ZgX h5) _,by rw[ZgS z m.v y h6];exact ZsD (ZrQ h5) _ _ _,ytt⟩,λrest=> ?_⟩)⟩
   ·unfold evN;rw[ho]
   ·unfold evR;rw[ho]
   ·unfold evE;rw[ho];dsimp only;rw[hu,hv];dsimp only[TD.er];rw[hk,hz,Zyz h41,e2]
    try dsimp only
    rw[yaa,yx]
    try dsimp only
    rw[if_pos (ZwG h5),Wy (Qy e1 rfl rfl)];rfl
  ·cases h
 ·cases h
def ZwN(P:yg)(t:yb)(all:List TD)(H:List TEnt)(K:Kn O)(kd:Option TD):TD→Option O
 |.mp id=>match P.underlying t with
  |some (.map kt et)=>(Zvl H id).bind λm=>kd.bind λx=>(ZBU x m.k).bind λkey=>
   if Zoe P kt m.k=true then K all (.tup []) (H.set id (.map m.tid m.k m.v (@ZDx m.k.den m.v.den (Ty.deq m.k) m.l key))) [.kvs (kvl m.k.enc m.v.enc (@ZDx m.k.den m.v.den (Ty.deq m.k) m.l key))] 2 else none
  |_=>none
 |_=>none
theorem ZwO{t u:yb}{x k:yo}{c:Call}{xd:TD}(ho:o.op=.call c)(hc:c.callee=.builtin .delete)(ha:c.args.toList=[x,k])(ht:c.argTypes.toList=[t,u])(hx:arT P ts t x=some xd)
 (h:ZwN P t all H K (arT P ts u k) xd=some out):∃a d H' hs c,K a d H' hs c=some out∧Good P o ts all H a d H' hs c:=by
 have hv:=Zw (L:=lk H) hx;unfold ZwN at h;split at h
 ·rename_i id;split at h
  ·rename_i kt et hu;obtain⟨m,h1,h⟩:=yf.1 h;obtain⟨kd,h2,h⟩:=yf.1 h;obtain⟨key,h3,h⟩:=yf.1 h;obtain⟨h5,h⟩:=Za h;obtain⟨e1,e2⟩:=ZiN h1;have hk:=Zw (L:=lk H) h2;rw[ZsM h3] at hk
   letI:=Ty.deq m.k
   refine⟨_,_,_,_,_,h,ZbF e1 rfl rfl,rfl,or3 (⟨rfl,λrest=> ?_,λrest=> ?_,[fitP P 20 kt (m.k.enc key),ZgI P kt (kvl m.k.enc m.v.enc m.l),Zmw (kvl m.k.enc m.v.enc m.l) (m.k.enc key) (kvl m.k.enc m.v.enc (ZDx m.l key))],
    ⟨ZgX h5 key,ZlG (ZgX h5) _,ZsE (ZrQ h5) _ _,ytt⟩,λrest=> ?_⟩)⟩
   ·unfold evN;rw[ho];dsimp only;rw[hc]
   ·unfold evR;rw[ho];dsimp only;rw[hc]
   ·unfold evE;rw[ho];dsimp only;rw[hc];dsimp only;rw[ha,ht];dsimp only;rw[hu,hv];dsimp only[TD.er];rw[hk,e2]
    try dsimp only
    rw[yaa,yx]
    try dsimp only
    rw[if_pos (ZwG h5),Wy (Qy e1 rfl rfl)];rfl
  ·cases h
 ·cases h
def TP.nilT(x:TP)(T:Ty):Bool:=
 match x with
 |.sl (some false) t []=>decide (t.size=T.size)
 |_=>false
theorem ZBV{x:TP}{T:Ty}(h:x.nilT T=true):x.pe=.sl (some false) T.size []:=by
 unfold TP.nilT at h;split at h
 ·rename_i t;show Pl.sl (some false) t.size []=_;rw[of_decide_eq_true h]
 ·cases h
def ZiO(T:Ty)(new:TD):List Nat→TD→Option TD
 |[],.p x=>if x.nilT T then some new else none
 |i::r,.p x=>x.parts.bind λl=>(l[i]?).bind λz=>(ZiO T new r (.p z)).map λy=>.agg ((l.map .p).set i y)
 |i::r,.agg ds=>(ds[i]?).bind λz=>(ZiO T new r z).map λy=>.agg (ds.set i y)
 |_,_=>none
theorem ZlM{L:Lk}{T:Ty}{new:TD}:∀(path:List Nat)(d d':TD),ZiO T new path d=some d'→Xx (d.er L) path T.size (new.er L)=some (d'.er L)
 |[],d,d',h=>by
  cases d with
  |p x=>
   simp only[ZiO] at h;split at h
   ·rename_i hn;cases h;rw[TD.er,ZBV hn];simp[Xx]
   ·cases h
  |_=>cases h
 |i::r,d,d',h=>by
  cases d with
  |p x=>
   simp only[ZiO] at h;obtain⟨l,h1,h⟩:=yf.1 h;obtain⟨z,h2,h⟩:=yf.1 h;obtain⟨y,h3,rfl⟩:=Zc h;have:=ZlM (L:=L) r (.p z) y h3;rw[TD.er,Zyw h1];unfold Xx;rw[show(TP.pes l)[i]? =some z.pe by rw[Zc8,yal,h2];rfl];dsimp only;rw[TD.er] at this
   rw[this,yab,TD.er,ZP,ybp, ←ZP,ZE9]
  |agg ds=>
   simp only[ZiO] at h;obtain⟨z,h2,h⟩:=yf.1 h;obtain⟨y,h3,rfl⟩:=Zc h;have:=ZlM (L:=L) r z y h3;rw[TD.er];unfold Xx;rw[ZgR h2];dsimp only
   rw[this,yab,TD.er,ZP,ZP,ybp]
  |_=>cases h
def Zog(d:TD)(n:Nat):List (List Nat×Ty×yb)→Option (TD×List (Ty×yb))
 |[]=>some (d,[])
 |q::r=>(ZiO q.2.1 (.own n none q.2.1 none) q.1 d).bind λd'=>(Zog d' (n+1) r).map λz=>(z.1,(q.2.1,q.2.2)::z.2)
def ghH(l:List (List Nat×Ty×yb)):List Hint:=l.map λq=>.ghost q.1 q.2.1.size q.2.2
def ZyL(l:List (Ty×yb)):List TEnt:=l.map λq=>.log q.1 q.2 []
def ZFf(L:Lk)(n:Nat):Prop:=∀id t,n≤id→Z8 L id t none=[]
theorem Znl{L:Lk}:∀(l:List (List Nat×Ty×yb))(d:TD)(n:Nat)(z:TD×List (Ty×yb)),ZFf L n→Zog d n l=some z→∀rest,
 Yx (d.er L) n (ghH l++.raw::rest)=(z.1.er L,z.2.map (λq=>Ent.log q.1.size q.2 []),.raw::rest)
 |[],d,n,z,hN,h,rest=>by cases h;rfl
 |q::r,d,n,z,hN,h,rest=>by
  simp only[Zog] at h;obtain⟨d',h1,h⟩:=yf.1 h;obtain⟨w,h2,rfl⟩:=Zc h;have e:=ZlM (L:=L) q.1 d d' h1;rw[TD.er,hN n q.2.1 (yn _)] at e;have ih:=Znl r d' (n+1) w (λid t h=>hN id t (by omega)) h2 rest;show Yx (d.er L) n (.ghost q.1 q.2.1.size q.2.2::(ghH r++.raw::rest))=_;unfold Yx;rw[show Xx (d.er L) q.1 q.2.1.size (Dv.own n none q.2.1.size [])=some (d'.er L) from e]
  dsimp only;rw[ih];rfl
theorem ZFg(H:List TEnt):ZFf (lk H) H.length:=λid t h=>by
 unfold Z8 lk;rw[yap h];rfl
theorem ZpD:∀(l:List (Ty×yb))(H:List TEnt),(∀id t,Z8 (lk H) id t none=Z8 (lk (H++ZyL l)) id t none)∧erH (H++ZyL l)=erH H++l.map (λq=>Ent.log q.1.size q.2 [])
 |[],H=>by simp[ZyL]
 |q::l,H=>by
  have e:H++ZyL (q::l)=(H++[.log q.1 q.2 []])++ZyL l:=by simp[ZyL]
  obtain⟨h1,h2⟩:=ZpD l (H++[.log q.1 q.2 []]);rw[e];refine⟨λid t=>(Zod id t).trans (h1 id t), ?_⟩;rw[h2,ZwF];simp
def newVar(hi:HI)(dst:Option Tmp)(d:TD)(all:List TD)(H:List TEnt)(K:Kn O):Option O:=
 match dst with
 |some t=>match hi.ghost.lookup t with
  |some l=>(Zog d (H.length+1) l).bind λz=>K all (.ref H.length []) (H++[.var z.1 true]++ZyL z.2) (ghH l++[.raw]) 2
  |none=>K all (.ref H.length []) (H++[.var d true]) [.raw] 2
 |none=>none
theorem Zqx{hi:HI}{dst:Option Tmp}{d:TD}(h:newVar hi dst d all H K=some out):
 ∃H' hs gd gl,K all (.ref H.length []) H' hs 2=some out∧TD.ers (lk H') all=TD.ers (lk H) all∧erH H'=erH H++Ent.var gd true::gl∧∀rest,Yx (d.er (lk H)) ((erH H).length+1) (hs++rest)=(gd,gl,.raw::rest):=by
 unfold newVar at h;split at h
 ·rename_i t;split at h
  ·rename_i l hl;obtain⟨z,h1,h⟩:=yf.1 h;obtain⟨c1,c2⟩:=ZpD z.2 (H++[.var z.1 true]);have hL:lk (H++[.var z.1 true])=lk H:=ZeS rfl;refine⟨_,_,z.1.er (lk H),z.2.map (λq=>Ent.log q.1.size q.2 []),h, ?_, ?_,λrest=> ?_⟩
   ·rw[←ers_cont c1 all,hL]
   ·rw[c2,Zdv hL];simp[TEnt.er]
   ·rw[ZQ,yaj];exact Znl l d _ z (λid t hh=>ZFg H id t (by omega)) h1 rest
  ·refine⟨_,_,d.er (lk H),[],h,ZcR rfl, ?_,λrest=> ?_⟩
   ·rw[Zdv (ZeS rfl)];rfl
   ·rfl
 ·cases h
def ZAx(P:yg)(hi:HI)(dst:Option Tmp)(t:yb)(all:List TD)(H:List TEnt)(K:Kn O):Option O:=
 (P.info? t).bind λi=>(Zvm P t).bind λz=>if(zOk i&&okT P t (XO P t)&&(XO P t).solid)=true then newVar hi dst (.p z) all H K else none
theorem ZyM{hi:HI}{t:yb}(ho:o.op=.alloc t)(h:ZAx P hi o.dst t all H K=some out):∃a d H' hs c,K a d H' hs c=some out∧Good P o ts all H a d H' hs c:=by
 unfold ZAx at h;obtain⟨i,h1,h⟩:=yf.1 h;obtain⟨z,h2,h⟩:=yf.1 h;obtain⟨h3,h⟩:=Za h;obtain⟨H',hs,gd,gl,k1,k2,k3,k4⟩:=Zqx h;refine⟨_,_,_,_,_,k1,k2,rfl,or3 (⟨rfl,λrest=> ?_,λrest=> ?_,[],trivial,λrest=> ?_⟩)⟩
 ·unfold evN;rw[ho]
 ·unfold evR;rw[ho]
 ·have k5:=k4 rest;rw[TD.er, ←Zof h2] at k5;unfold evE;rw[ho];dsimp only;rw[h1];dsimp only;rw[k5];dsimp only;rw[if_pos h3,k3,ZQ];rfl
def ZHN(L:Lk)(d:TD):TD:=
 match d.plain L with
 |some y=>.p y
 |none=>d
theorem ZHO{L:Lk}(d:TD):(ZHN L d).er L=ZzY (d.er L):=by
 unfold ZHN ZzY
 cases h:d.plain L with
 |none=>rw[ZsL h]
 |some y=>rw[Zvh h];rfl
def ZJK(hi:HI)(dst:Option Tmp)(all:List TD)(H:List TEnt)(K:Kn O)(d:TD):Option O:=
 if((ZHN (lk H) d).er (lk H)).solid=true then newVar hi dst (ZHN (lk H) d) all H K else none
theorem ZDC{hi:HI}{t:yb}{x:yo}{xd:TD}(ho:o.op=.box t x)(hx:arT P ts t x=some xd)(h:ZJK hi o.dst all H K xd=some out):∃a d H' hs c,K a d H' hs c=some out∧Good P o ts all H a d H' hs c:=by
 have hv:=Zw (L:=lk H) hx;unfold ZJK at h;obtain⟨h3,h⟩:=Za h;obtain⟨H',hs,gd,gl,k1,k2,k3,k4⟩:=Zqx h;refine⟨_,_,_,_,_,k1,k2,rfl,or3 (⟨rfl,λrest=> ?_,λrest=> ?_,[],trivial,λrest=> ?_⟩)⟩
 ·unfold evN;rw[ho]
 ·unfold evR;rw[ho]
 ·have k5:=k4 rest;rw[ZHO] at k5 h3;unfold evE;rw[ho];dsimp only;rw[hv,k5];dsimp only;rw[if_pos h3,k3,ZQ];rfl
def TD.meltP(L:Lk)(v:TD):TD:=
 match v.flat L with
 |some x=>.p x
 |none=>v
theorem ZsO{L:Lk}(v:TD):(v.meltP L).er L=(v.er L).meltP:=by
 unfold TD.meltP Dv.meltP;rw[ZrP];cases v.flat L <;> rfl
def ZwP(L:Lk)(path:List Stp)(d v:TD):Option TD:=
 match d,path with
 |.p _,_=>some (v.meltP L)
 |_,[]=>some (v.meltP L)
 |_,_=>some v
theorem ZpE{L:Lk}{path:List Stp}{d v new:TD}(h:ZwP L path d v=some new):Zfs (path.map Stp.i) (d.er L) (v.er L)=some (new.er L):=by
 unfold ZwP at h;split at h
 ·cases h;unfold Zfs;rw[TD.er];dsimp only;rw[ZsO]
 ·cases h;unfold Zfs;split
  ·rw[ZsO]
  ·simp only[List.map_nil];rw[ZsO]
 ·rename_i h1 h2;cases h;unfold Zfs;split
  ·rename_i z hz;cases d <;> first|cases hz|skip
   rename_i q;exact absurd rfl (h1 q)
  ·cases path with
   |nil=>exact absurd rfl h2
   |cons _ _=>rfl
def ZlN(P:yg)(t:yb)(new sub:Dv):Bool:=new.solid&&new.size==sub.size&&P.cellsOf t==new.size&&(P.info? t).isSome&&new.isAgg==sub.isAgg
def ZK5(hi:HI):yo→List (List Nat×Ty×yb)
 |.tmp t=>(hi.gst.lookup t).getD []
 |_=>[]
def ZAy(P:yg)(gs:List (List Nat×Ty×yb))(t:yb)(all:List TD)(H:List TEnt)(K:Kn O)(v:TD):TD→Option O
 |.ref id path=>match H[id]? with
  |some (.var d true)=>gpT (lk H) path d λsub hs put=>(ZwP (lk H) path d v).bind λnew=>(put new).bind λd'=>(Zog d' H.length gs).bind λz=>
   if ZlN P t (new.er (lk H)) (sub.er (lk H))=true then K all .junk (H.set id (.var z.1 true)++ZyL z.2) (hs++(ghH gs++[.raw])) 2 else none
  |_=>none
 |.rref id v' path=>match H[id]? with
  |some (.row w s true e d)=>gpT (lk H) path d λsub hs put=>(ZwP (lk H) path d v).bind λnew=>(put new).bind λd'=>
   if(ZlN P t (new.er (lk H)) (sub.er (lk H))&&w==v'&&rowN (d'.er (lk H)) s==rowN (d.er (lk H)) s)=true then K all .junk (H.set id (.row v' s true e d')) hs 2 else none
  |_=>none
 |_=>none
theorem ZyN{gs:List (List Nat×Ty×yb)}{t:yb}{x y:yo}{xd yd:TD}(ho:o.op=.store t x y)(hx:arT P ts 0 x=some xd)(hy:arT P ts t y=some yd)(h:ZAy P gs t all H K yd xd=some out):
 ∃a d H' hs c,K a d H' hs c=some out∧Good P o ts all H a d H' hs c:=by
 have hv:=Zw (L:=lk H) hx;have hw:=Zw (L:=lk H) hy;unfold ZAy at h;split at h
 ·rename_i id path;split at h
  ·rename_i d hd;obtain⟨sub,hs,put,C,k1,k2,k3,k4⟩:=Wp _ _ _ _ h;obtain⟨new,h1,h2⟩:=yf.1 k1;obtain⟨d',h3,h2⟩:=yf.1 h2;obtain⟨z,h5,h2⟩:=yf.1 h2;obtain⟨h4,h2⟩:=Za h2;unfold ZlN at h4;obtain⟨g1,g2⟩:=ZpD z.2 (H.set id (.var z.1 true));have hL:lk (H.set id (.var z.1 true))=lk H:=Qy hd rfl rfl;refine⟨_,_,_,_,_,h2, ?_,rfl,or3 (⟨rfl,λrest=> ?_,λrest=> ?_,C++[ZeT path=Vh path],Zl.2 ⟨k2,(WK _).symm,ytt⟩,λrest=> ?_⟩)⟩
   ·rw[←ers_cont g1 all,hL]
   ·unfold evN;rw[ho]
   ·unfold evR;rw[ho]
   ·have k5:=Znl gs d' H.length z (ZFg H) h5 rest;unfold evE;rw[ho];dsimp only;rw[hv,hw];dsimp only[TD.er];rw[Yn hd];dsimp only[TEnt.er];rw[yaj,k3 (ghH gs++[Hint.raw]++rest)];dsimp only;rw[ZpE h1];dsimp only;rw[k4 new d' h3 _];dsimp only;rw[if_pos h4,ZQ,yaj];rw[show([Hint.raw]++rest)=.raw::rest from rfl,k5]
    dsimp only;rw[g2,Wy hL];rfl
  ·cases h
 ·rename_i id v' path;split at h
  ·rename_i w s e d hd;obtain⟨sub,hs,put,C,k1,k2,k3,k4⟩:=Wp _ _ _ _ h;obtain⟨new,h1,h2⟩:=yf.1 k1;obtain⟨d',h3,h2⟩:=yf.1 h2;obtain⟨h4,h2⟩:=Za h2;rw[yj,yj] at h4;obtain⟨⟨h4,h5⟩,h6⟩:=h4;have h4':=h4;unfold ZlN at h4';have hL:lk (H.set id (.row v' s true e d'))=lk H:=Qy hd rfl rfl;refine⟨_,_,_,_,_,h2,ZbF hd rfl rfl,rfl,or3 (⟨rfl,λrest=> ?_,λrest=> ?_,C++[ZeT path=Vh path],Zl.2 ⟨k2,(WK _).symm,ytt⟩,λrest=> ?_⟩)⟩
   ·unfold evN;rw[ho]
   ·unfold evR;rw[ho]
   ·unfold evE;rw[ho];dsimp only;rw[hv,hw];dsimp only[TD.er];rw[Yn hd];dsimp only[TEnt.er];rw[k3 rest];dsimp only;rw[ZpE h1];dsimp only;rw[k4 new d' h3 _];dsimp only;rw[if_pos (by simp only[yj] at h4' ⊢;exact⟨⟨h4',h5⟩,h6⟩),Wy hL];rfl
  ·cases h
 ·cases h
def ZwQ(P:yg)(ts:List TD)(t:yb)(len:Nat)(parts:List (Nat×yo))(all:List TD)(H:List TEnt)(K:Kn O):Option O:=
 ZAq (lk H) P ts t len parts λT l e=>K all (.rv H.length 0 T.size 0 len) (H++[.row 0 T.size true e (.p (.v (.arr len T) l))]) [.arr] 2
theorem ZwR{t:yb}{len:Nat}{parts:Array (Nat×yo)}(ho:o.op=.buildSlice t len parts)(h:ZwQ P ts t len parts.toList all H K=some out):
 ∃a d H' hs c,K a d H' hs c=some out∧Good P o ts all H a d H' hs c:=by
 unfold ZwQ at h;obtain⟨e,T,l,i,xs,h1,hu,hi,hl,hz,hs,hx⟩:=ZhW h;refine⟨_,_,_,_,_,h1,ZcR rfl,rfl,or3 (⟨rfl,λrest=> ?_,λrest=> ?_,[],trivial,λrest=> ?_⟩)⟩
 ·unfold evN;rw[ho];rfl
 ·unfold evR;rw[ho]
 ·unfold evE;rw[ho];dsimp only;rw[yaa,yx];dsimp only;rw[hu];dsimp only;rw[hi,hl];dsimp only;rw[if_pos (by simpa using hz),hx,Zdv (ZeS rfl),ZQ,hs];rfl
def ZFh(P:yg)(ts:List TD)(e:yb):List (Nat×yo)→Option (List TD)
 |[]=>some []
 |q::r=>match arT P ts e q.2,ZFh P ts e r with
  |some d,some ds=>some (d::ds)
  |_,_=>none
theorem ZBW{L:Lk}{e:yb}:∀{parts:List (Nat×yo)}{ds:List TD},ZFh P ts e parts=some ds→(parts.map λq=>ZB P (TD.ers L ts) e q.2)=TD.ers L ds
 |[],ds,h=>by cases h;rfl
 |q::r,ds,h=>by
  simp only[ZFh] at h;split at h
  ·rename_i d l h1 h2;cases h;rw[yag,Zw h1,ZBW h2,TD.ers]
  ·cases h
def ZK6(P:yg)(ts:List TD)(t:yb)(L:Lk)(parts:List (Nat×yo)):Bool:=
 match P.underlying t with
 |some (.slice e)=>match ZFh P ts e parts with
  |some ds=>ds.all λd=>(d.flat L).isSome
  |none=>true
 |_=>true
def ZsP(P:yg)(ts:List TD)(t:yb)(len:Nat)(parts:List (Nat×yo))(all:List TD)(H:List TEnt)(K:Kn O):Option O:=
 match P.underlying t with
 |some (.slice e)=>(P.info? e).bind λi=>(ZFh P ts e parts).bind λds=>
  if((parts.map (·.1)==yw len)&&((TD.ers (lk H) ds).all λd=>d.solid&&d.size==P.cellsOf e)&&(zOk i&&i.size !=0&&decide (len*i.size≤16777216)))=true then
   K all (.rv H.length 0 i.size 0 len) (H++[.row 0 i.size true e (.arr len i.size ds)]) [.raw] 2 else none
 |_=>none
theorem Zur{t:yb}{len:Nat}{parts:Array (Nat×yo)}(ho:o.op=.buildSlice t len parts)(h:ZsP P ts t len parts.toList all H K=some out):
 ∃a d H' hs c,K a d H' hs c=some out∧Good P o ts all H a d H' hs c:=by
 unfold ZsP at h;split at h
 ·rename_i e hu;obtain⟨i,hi,h⟩:=yf.1 h;obtain⟨ds,hd,h⟩:=yf.1 h;obtain⟨hk,h1⟩:=Za h;rw[yj,yj] at hk;refine⟨_,_,_,_,_,h1,ZcR rfl,rfl,or3 (⟨rfl,λrest=> ?_,λrest=> ?_,[],trivial,λrest=> ?_⟩)⟩
  ·unfold evN;rw[ho];rfl
  ·unfold evR;rw[ho]
  ·unfold evE;rw[ho];dsimp only;rw[yaa,yx];dsimp only;rw[hu];dsimp only
   have hl:Zfi P (TD.ers (lk H) ts) e (P.cellsOf e) len parts.toList=some (TD.ers (lk H) ds):=by
    unfold Zfi;rw[if_pos hk.1.1,ZBW hd,if_pos hk.1.2]
   rw[hi,hl];dsimp only;rw[if_pos (by simpa using hk.2),Zdv (ZeS rfl),ZQ];rfl
 ·cases h
def ZwS(P:yg)(ts:List TD)(t:yb)(len:Nat)(parts:List (Nat×yo))(all:List TD)(H:List TEnt)(K:Kn O):Option O:=
 ZAq (lk H) P ts t len parts λT l e=>if(TD.frees H.length all&&H.all (TEnt.free H.length))=true then K all (.own H.length (some true) T none) (H++[.log T e l]) [.own] 2 else none
theorem ZwT{t:yb}{len:Nat}{parts:Array (Nat×yo)}(ho:o.op=.buildSlice t len parts)(h:ZwS P ts t len parts.toList all H K=some out):
 ∃a d H' hs c,K a d H' hs c=some out∧Good P o ts all H a d H' hs c:=by
 unfold ZwS at h;obtain⟨e,T,l,i,xs,h1,hu,hi,hl,hz,hs,hx⟩:=ZhW h;obtain⟨h2,h1⟩:=Za h1;rw[yj] at h2;refine⟨_,_,_,_,_,h1,ZhY h2.1,rfl,or3 (⟨rfl,λrest=> ?_,λrest=> ?_,[],trivial,λrest=> ?_⟩)⟩
 ·unfold evN;rw[ho];rfl
 ·unfold evR;rw[ho]
 ·unfold evE;rw[ho];dsimp only;rw[yaa,yx];dsimp only;rw[hu];dsimp only;rw[hi,hl];dsimp only;rw[if_pos (by simpa using hz),hx,ZBT h2.2,ZQ,TD.er,ZhZ,hs]
def ZyO(P:yg)(T:Ty)(u:yb)(H:List TEnt)(K:List T.den→List Hint→Option O)(x:TD):Option O:=
 match x with
 |.view id path s lo n=>match P.underlying u with
  |some (.slice _)=>(Zqv H id).bind λd=>gpT (lk H) path d λsub hs _=>sub.inner.bind λy=>y.arow.bind λr=>(Ty.castL r.t T r.l).bind λl=>
   if(decide (s=T.size))=true then if(decide (lo+n≤r.n))=true then K ((l.drop lo).take n) hs else none else none
  |_=>none
 |.rv id v s lo n=>match P.underlying u,H[id]? with
  |some (.slice _),some (.row w s' _ _ d)=>d.inner.bind λy=>y.arow.bind λr=>(Ty.castL r.t T r.l).bind λl=>
   if(decide (s=T.size)&&decide (s'=T.size)&&w==v)=true then if(decide (lo+n≤r.n))=true then K ((l.drop lo).take n) [] else none else none
  |_,_=>none
 |.rw id=>match P.underlying u,H[id]? with
  |some (.slice _),some (.rowT T' v st e l')=>(Ty.castL T' T l').bind λl=>K l []
  |_,_=>none
 |x=>(ZyG (lk H) P T u x).bind λl=>K l []
theorem Znm{T:Ty}{u:yb}{x:TD}{K:List T.den→List Hint→Option O}(h:ZyO P T u H K x=some out):
 ∃l hs C,K l hs=some out∧AllP C∧∀rest,Zug P T.size u (erH H) (hs++rest) (x.er (lk H))=some (C,l.map T.enc,rest):=by
 unfold ZyO at h;split at h
 ·rename_i id path s lo n;split at h
  ·rename_i e hu;obtain⟨d,h1,h⟩:=yf.1 h;obtain⟨st,h2,h3⟩:=ZfD h1;obtain⟨sub,hs,put,C,k1,k2,k3,_⟩:=Wp _ _ _ _ h;obtain⟨y,p1,k1⟩:=yf.1 k1;obtain⟨r,p2,k1⟩:=yf.1 k1;obtain⟨l,p3,k1⟩:=yf.1 k1;obtain⟨p4,k1⟩:=Za k1;obtain⟨p5,k1⟩:=Za k1;have p4:=of_decide_eq_true p4;have p5:=of_decide_eq_true p5
   have esub:sub.er (lk H)=.p (.arr r.n T.size (l.map T.enc)):=by
    rw[Xj p1,TD.er,Qg p2];obtain⟨e,p3⟩:=ZK p3;obtain⟨n0,t0,l0⟩:=r;dsimp only at e p3 ⊢;subst e;subst p3;rfl
   refine⟨_,_,C++[ZeT path=Vh path,lo+n≤r.n],k1,Zl.2 ⟨k2,(WK _).symm,p5,ytt⟩,λrest=> ?_⟩;unfold Zug;rw[TD.er];dsimp only;rw[hu,h3];dsimp only;rw[k3 rest,esub];dsimp only;rw[if_pos (by simp[p4]),ycb,List.map_drop]
  ·cases h
 ·rename_i id v s lo n;split at h
  ·rename_i e w s' st e' d hu hd;obtain⟨y,p1,k1⟩:=yf.1 h;obtain⟨r,p2,k1⟩:=yf.1 k1;obtain⟨l,p3,k1⟩:=yf.1 k1;obtain⟨p4,k1⟩:=Za k1;obtain⟨p5,k1⟩:=Za k1;simp only[yj,decide_eq_true_eq] at p4;have p5:=of_decide_eq_true p5
   have esub:d.er (lk H)=.p (.arr r.n T.size (l.map T.enc)):=by
    rw[Xj p1,TD.er,Qg p2];obtain⟨e,p3⟩:=ZK p3;obtain⟨n0,t0,l0⟩:=r;dsimp only at e p3 ⊢;subst e;subst p3;rfl
   refine⟨_,_,[lo+n≤r.n],k1,⟨p5,ytt⟩,λrest=> ?_⟩;unfold Zug;rw[TD.er];dsimp only;rw[hu,Yn hd,TEnt.er,esub];dsimp only;rw[if_pos (by simp[p4]),ycb,List.map_drop];rfl
  ·cases h
 ·rename_i id;split at h
  ·rename_i e T' v st e' l' hu hd;obtain⟨l,p3,k1⟩:=yf.1 h;obtain⟨eT,p3⟩:=ZK p3;subst eT;subst p3;refine⟨l,[],[0+l.length≤l.length],k1,⟨by omega,ytt⟩,λrest=> ?_⟩;unfold Zug;rw[(Zcq hd).1];dsimp only;rw[hu,Yn hd,TEnt.er];dsimp only;rw[if_pos (by simp),List.drop_zero, ←yz (f:=T'.enc),ybk];simp
  ·cases h
 ·rename_i hx hx2 hx3;obtain⟨l,h1,h⟩:=yf.1 h;refine⟨l,[],[],h,trivial,λrest=> ?_⟩;rw[yx];unfold Zug;split
  ·rename_i e;cases x <;> first|cases e|skip
   exact absurd rfl (hx _ _ _ _ _)
  ·rename_i e;cases x <;> first|cases e|skip
   ·exact absurd rfl (hx2 _ _ _ _ _)
   ·exact absurd rfl (hx3 _)
  ·rw[ZlK h1];rfl
structure LogE where
 t:Ty
 e:yb
 l:List t.den
def ZFi(H:List TEnt)(id:Nat):Option LogE:=
 match H[id]? with
 |some (.log t e l)=>some ⟨t,e,l⟩
 |_=>none
theorem ZAz{id:Nat}{m:LogE}(h:ZFi H id=some m):H[id]? =some (.log m.t m.e m.l):=by
 unfold ZFi at h;split at h
 ·rename_i hd;cases h;exact hd
 ·cases h
def apB(n m b:Nat):Bool:=decide ((n+m)*b≤Zt)&&decide (n+m≤maxLen)
def ZwU(P:yg)(own row:Bool)(t u:yb)(all:List TD)(H:List TEnt)(K:Kn O)(y:TD):TD→Option O
 |.own id nn T none=>match P.underlying t with
  |some (.slice e)=>(P.info? e).bind λi=>(ZFi H id).bind λm=>(Ty.castL m.t T m.l).bind λzs=>ZyO P T u H (λys hs=>
   if(zOk i&&decide (i.size=T.size)&&decide (m.e=e)&&decide (T.size≠0))=true then if apB zs.length ys.length i.bytes=true then
    K (TD.stales (lk H) id all) (.own id none T none) ((H.map (TEnt.stale (lk H) id)).set id (.log T e (zs++ys))) hs 2 else none else none) y
  |_=>none
 |.rv id v s lo n=>match P.underlying t with
  |some (.slice e)=>(P.info? e).bind λi=>(ZkA P tyD e).bind λT=>ZyO P T u H (λys hs=>if ys.isEmpty=true then
    if(zOk i&&decide (P.cellsOf e=T.size))=true then K all (.rv id v s lo n) H (.bare::hs) 2 else none
   else match H[id]? with
    |some (.row w s' true e' d)=>d.inner.bind λy0=>y0.arow.bind λr=>(Ty.castL r.t T r.l).bind λxs=>
     if(zOk i&&decide (i.size=T.size)&&decide (s'=T.size)&&decide (e'=e)&&decide (T.size≠0)&&w==v&&decide (lo=0)&&decide (s=T.size))=true then if(decide (n≤r.n)&&apB n ys.length i.bytes)=true then
      K all (.rv id (v+1) s 0 (n+ys.length)) (H.set id (.row (v+1) s true e (.p (.v (.arr (n+ys.length) T) (xs.take n++ys))))) (.raw::hs) 2 else none else none
    |_=>none) y
  |_=>none
 |.p (.sl (some false) _ [])=>if row then match P.underlying t with
  |some (.slice e)=>(P.info? e).bind λi=>(ZkA P tyD e).bind λT=>(ZyG (lk H) P T u y).bind λys=>
   if(zOk i&&i.size !=0&&decide (i.size=T.size)&&decide (P.cellsOf e=T.size))=true then if ZAf ys.length i.bytes=true then
    K all (.rv H.length 0 i.size 0 ys.length) (H++[.row 0 i.size true e (.p (.v (.arr ys.length T) ys))]) [.arr] 2 else none else none
  |_=>none else if own then match P.underlying t with
  |some (.slice e)=>(P.info? e).bind λi=>(ZkA P tyD e).bind λT=>(ZyG (lk H) P T u y).bind λys=>
   if(zOk i&&i.size !=0&&decide (i.size=T.size)&&decide (P.cellsOf e=T.size)&&TD.frees H.length all&&H.all (TEnt.free H.length))=true then if ZAf ys.length i.bytes=true then
    K all (.own H.length none T none) (H++[.log T e ys]) [.own] 2 else none else none
  |_=>none else none
 |_=>none
theorem ZFj{id:Nat}{T:Ty}{e:yb}{l:List T.den}(H:List TEnt)(h:id < H.length):Z8 (lk (H.set id (.log T e l))) id T none=l:=by
 unfold Z8 lk;dsimp only;rw[ycr h];show(Ty.castL T T l).getD []=l;unfold Ty.castL;split
 ·rfl
 ·rename_i h _;exact absurd rfl h
theorem ZfE{L:Lk}{n:Nat}:∀(l:List TD),(TD.stales L n l).length=l.length
 |[]=>rfl
 |_::r=>by rw[TD.stales,yae,yae,ZfE r]
def ZAA(H:List TEnt):TD→TD
 |.own id nn T (some zs)=>match H[id]? with
  |some (.log t e l)=>match Ty.castL t T l with
   |some l'=>if@decide (l'=zs) (@instDecidableEqList T.den (Ty.deq T) l' zs)=true then .own id nn T none else .own id nn T (some zs)
   |none=>.own id nn T (some zs)
  |_=>.own id nn T (some zs)
 |d=>d
theorem ZDD(d:TD):(ZAA H d).er (lk H)=d.er (lk H):=by
 unfold ZAA;split
 ·rename_i id nn T zs;split
  ·rename_i t e l hd;split
   ·rename_i l' hc;split
    ·rename_i he;have he:=@of_decide_eq_true _ (@instDecidableEqList T.den (Ty.deq T) l' zs) he;rw[TD.er,TD.er]
     have:Z8 (lk H) id T none=zs:=by
      unfold Z8 lk;dsimp only;rw[hd];show(Ty.castL t T l).getD []=zs;rw[hc, ←he];rfl
     rw[this];rfl
    ·rfl
   ·rfl
  ·rfl
 ·rfl
theorem ZwV{own row:Bool}{t u:yb}{x y:yo}{c:Call}{xd yd:TD}(ho:o.op=.call c)(hc:c.callee=.builtin .append)(ha:c.args.toList=[x,y])(ht:c.argTypes.toList=[t,u])
 (hv:ZB P (TD.ers (lk H) ts) t x=xd.er (lk H)) (hy:arT P ts u y=some yd) (h:ZwU P own row t u all H K yd xd=some out):∃a d H' hs c,K a d H' hs c=some out∧Good P o ts all H a d H' hs c:=by
 have hw:=Zw (L:=lk H) hy;unfold ZwU at h;split at h
 ·rename_i id nn T;split at h
  ·rename_i e hu;obtain⟨i,h1,h⟩:=yf.1 h;obtain⟨m,h2,h⟩:=yf.1 h;obtain⟨zs,h3,h⟩:=yf.1 h;obtain⟨ys,hs,C,k1,k2,k3⟩:=Znm h;obtain⟨k4,k6⟩:=Za k1;obtain⟨k5,kk⟩:=Za k6;clear k1 k6;simp only[yj,decide_eq_true_eq] at k4;obtain⟨⟨⟨g1,g2⟩,g3⟩,g4⟩:=k4;simp only[apB,yj,decide_eq_true_eq] at k5;have hl:=ZAz h2;obtain⟨mt,me,ml⟩:=m;dsimp only at h3 g3 hl;obtain⟨eT,h3⟩:=ZK h3;subst eT;subst h3;subst g3;have hlt:id < H.length:=(yr.1 hl).1
   have ec:Z8 (lk H) id mt none=zs:=by
    unfold Z8 lk;dsimp only;rw[hl];show(Ty.castL mt mt zs).getD []=zs;unfold Ty.castL;split
    ·rfl
    ·rename_i h _;exact absurd rfl h
   refine⟨_,_,_,_,_,kk,ers_stale (λid' t hn=>Zbj (lk H) id' t hn) all,ZfE all,or3 (⟨rfl,λrest=> ?_,λrest=> ?_,
    C++[zs.map mt.enc=zs.map mt.enc,((zs.map mt.enc).length+(ys.map mt.enc).length)*i.bytes≤Zt,(zs.map mt.enc).length+(ys.map mt.enc).length≤maxLen],Zl.2 ⟨k2,rfl,by simpa using k5.1,by simpa using k5.2,ytt⟩,λrest=> ?_⟩)⟩
   ·unfold evN;rw[ho];dsimp only;rw[hc];dsimp only;rw[ha,ht];split
    ·rename_i e1 e2 e3;simp only[List.cons.injEq,and_true] at e1 e2;obtain⟨rfl,rfl⟩:=e1;obtain⟨rfl,rfl⟩:=e2;rw[hu,hv];rfl
    ·rfl
   ·unfold evR;rw[ho];dsimp only;rw[hc]
   ·unfold evE;rw[ho];dsimp only;rw[hc];dsimp only;rw[ha,ht];dsimp only;rw[hu,hv,hw];dsimp only[TD.er];rw[ec,h1,k3 rest,Yn hl];dsimp only[TEnt.er];rw[if_pos (by simp[g1,g2,g4]),ZFd,ZFj _ (by rw[yz];exact hlt),yav]
  ·cases h
 ·rename_i id v s lo n;split at h
  ·rename_i e hu;obtain⟨i,h1,h⟩:=yf.1 h;obtain⟨T,h2,h⟩:=yf.1 h;obtain⟨ys,hs,C,k1,k2,k3⟩:=Znm h
   have nN:∀hs,evN P o (TD.ers (lk H) ts) hs=none:=λhs=>by
    unfold evN;rw[ho];dsimp only;rw[hc];dsimp only;rw[ha,ht]
    cases hs with
    |nil=>rfl
    |cons h0 hr=>cases h0 <;> first|rfl|(dsimp only;rw[hu,hv];rfl)
   have nR:∀hs,evR P o (TD.ers (lk H) ts) (erH H) hs=none:=λhs=>by
    unfold evR;rw[ho];dsimp only;rw[hc]
   split at k1
   ·rename_i hemp;obtain⟨k4,k5⟩:=Za k1;simp only[yj,decide_eq_true_eq] at k4;have hys:ys=[]:=by simpa using hemp
    refine⟨_,_,_,_,_,k5,rfl,rfl,or3 (⟨rfl,λrest=>nN _,λrest=>nR _,C++[ys.map T.enc=[]],Zl.2 ⟨k2,by rw[hys];rfl,ytt⟩,λrest=> ?_⟩)⟩;unfold evE;rw[ho];dsimp only;rw[hc];dsimp only;rw[ha,ht];dsimp only;rw[hu,hv,hw];dsimp only[TD.er];rw[yaa];dsimp only;rw[h1,k4.2,k3 rest];dsimp only;rw[if_pos k4.1]
   ·split at k1
    ·rename_i w s' e' d hd;obtain⟨y0,p1,q1⟩:=yf.1 k1;obtain⟨r,p2,q2⟩:=yf.1 q1;obtain⟨xs,p3,q3⟩:=yf.1 q2;obtain⟨p4,q4⟩:=Za q3;obtain⟨p5,q5⟩:=Za q4;simp only[yj,decide_eq_true_eq,beq_iff_eq] at p4;obtain⟨⟨⟨⟨⟨⟨⟨g1,g2⟩,g3⟩,g4⟩,g5⟩,g6⟩,g7⟩,g8⟩:=p4;simp only[apB,yj,decide_eq_true_eq] at p5
     have esub:d.er (lk H)=.p (.arr r.n T.size (xs.map T.enc)):=by
      rw[Xj p1,TD.er,Qg p2];obtain⟨e,p3⟩:=ZK p3;obtain⟨n0,t0,l0⟩:=r;dsimp only at e p3 ⊢;subst e;subst p3;rfl
     refine⟨_,_,_,_,_,q5,ZbF hd rfl rfl,rfl,or3 (⟨rfl,λrest=>nN _,λrest=>nR _,C++[n≤r.n,(n+(ys.map T.enc).length)*i.bytes≤Zt,n+(ys.map T.enc).length≤maxLen,true=true∨n=r.n],
      Zl.2 ⟨k2,p5.1,by simpa using p5.2.1,by simpa using p5.2.2,.inl rfl,ytt⟩,λrest=> ?_⟩)⟩
     unfold evE;rw[ho];dsimp only;rw[hc];dsimp only;rw[ha,ht];dsimp only;rw[hu,hv,hw];dsimp only[TD.er];rw[yaa];dsimp only;rw[h1,g8,k3 rest,Yn hd,TEnt.er,esub];dsimp only;rw[if_pos (by simp[g1,g2,g3,g4,g5,g6,g7]),Wy (Qy hd rfl rfl)];simp only[TEnt.er,TD.er,TP.pe,Zwt,yz,yav,ycb]
    ·cases k1
  ·cases h
 ·rename_i T0;split at h
  ·split at h
   ·rename_i e hu;obtain⟨i,h1,h⟩:=yf.1 h;obtain⟨T,h2,h⟩:=yf.1 h;obtain⟨ys,h3,h⟩:=yf.1 h;obtain⟨k4,h⟩:=Za h;obtain⟨k5,h⟩:=Za h;simp only[yj,decide_eq_true_eq] at k4;obtain⟨⟨⟨g1,g2⟩,g3⟩,g4⟩:=k4;obtain⟨g7,g8⟩:=Zdu k5;refine⟨_,_,_,_,_,h,ZcR rfl,rfl,or3 (⟨rfl,λrest=> ?_,λrest=> ?_,[(ys.map T.enc).length*i.bytes≤Zt,(ys.map T.enc).length≤maxLen],⟨by rw[yz];exact g7,by rw[yz];exact g8,ytt⟩,λrest=> ?_⟩)⟩
    ·unfold evN;rw[ho];dsimp only;rw[hc];dsimp only;rw[ha,ht];rfl
    ·unfold evR;rw[ho];dsimp only;rw[hc]
    ·unfold evE;rw[ho];dsimp only;rw[hc];dsimp only;rw[ha,ht];dsimp only;rw[hu,hv,hw,show(TD.p (TP.sl (some false) T0 [])).er (lk H)=Dv.p (.sl (some false) T0.size []) from rfl]
     dsimp only;rw[h1,g4,ZlK h3,yaa,yx];dsimp only;rw[if_pos (by simp only[yj];exact⟨g1,g2⟩),Zdv (ZeS rfl),ZQ];simp only[TEnt.er,TD.er,TP.pe,Zwt,yz,g3]
   ·cases h
  split at h
  ·split at h
   ·rename_i e hu;obtain⟨i,h1,h⟩:=yf.1 h;obtain⟨T,h2,h⟩:=yf.1 h;obtain⟨ys,h3,h⟩:=yf.1 h;obtain⟨k4,h⟩:=Za h;obtain⟨k5,h⟩:=Za h;simp only[yj,decide_eq_true_eq] at k4;obtain⟨⟨⟨⟨⟨g1,g2⟩,g3⟩,g4⟩,g5⟩,g6⟩:=k4;obtain⟨g7,g8⟩:=Zdu k5;refine⟨_,_,_,_,_,h,ZhY g5,rfl,or3 (⟨rfl,λrest=> ?_,λrest=> ?_,[(ys.map T.enc).length*i.bytes≤Zt,(ys.map T.enc).length≤maxLen],⟨by rw[yz];exact g7,by rw[yz];exact g8,ytt⟩,λrest=> ?_⟩)⟩
    ·unfold evN;rw[ho];dsimp only;rw[hc];dsimp only;rw[ha,ht];rfl
    ·unfold evR;rw[ho];dsimp only;rw[hc]
    ·unfold evE;rw[ho];dsimp only;rw[hc];dsimp only;rw[ha,ht];dsimp only;rw[hu,hv,hw,show(TD.p (TP.sl (some false) T0 [])).er (lk H)=Dv.p (.sl (some false) T0.size []) from rfl]
     dsimp only;rw[h1,g4,ZlK h3,yaa,yx];dsimp only;rw[if_pos (by simp only[yj];exact⟨g1,g2⟩),ZBT g6,ZQ,TD.er,ZhZ,g3]
   ·cases h
  ·cases h
 ·cases h
def ZAB(P:yg)(t:yb)(all:List TD)(H:List TEnt)(K:Kn O):TD→Option O
 |.rv id v s lo n=>match P.underlying t,H[id]? with
  |some (.slice e),some (.row w s' true e' d)=>(P.info? e).bind λi=>(Zvm P e).bind λz=>d.inner.bind λy=>y.arow.bind λr=>(TP.to Zkz z r.t).bind λz'=>
   if(zOk i&&decide (i.size=s)&&decide (s'=s)&&decide (r.t.size=s)&&w==v&&s !=0&&z.pe.size==s&&decide (n=1))=true then if decide (lo+1≤r.n)=true then
    K all (.tup []) (H.set id (.row v s true e' (.p (.v (.arr r.n r.t) (r.l.set lo z'))))) [] 2 else none else none
  |_,_=>none
 |_=>none
theorem ZyP{t:yb}{x:yo}{c:Call}{xd:TD}(ho:o.op=.call c)(hc:c.callee=.builtin .clear)(ha:c.args.toList=[x])(ht:c.argTypes.toList=[t])
 (hx:arT P ts t x=some xd) (h:ZAB P t all H K xd=some out):∃a d H' hs c,K a d H' hs c=some out∧Good P o ts all H a d H' hs c:=by
 have hv:=Zw (L:=lk H) hx;unfold ZAB at h;split at h
 ·rename_i id v s lo n;split at h
  ·rename_i e w s' e' d hu hd;obtain⟨i,h1,h⟩:=yf.1 h;obtain⟨z,h2,h⟩:=yf.1 h;obtain⟨y,p1,q1⟩:=yf.1 h;obtain⟨r,p2,q2⟩:=yf.1 q1;obtain⟨z',p3,q3⟩:=yf.1 q2;obtain⟨p4,q4⟩:=Za q3;obtain⟨p5,k1⟩:=Za q4;clear q1 q2 q3 q4 h;simp only[yj,decide_eq_true_eq] at p4;obtain⟨⟨⟨⟨⟨⟨⟨g1,g2⟩,g3⟩,g4⟩,g5⟩,g6⟩,g7⟩,g8⟩:=p4;have g8':=g8;subst g8;have p5:=of_decide_eq_true p5;have esub:d.er (lk H)=.p (.arr r.n r.t.size (r.l.map r.t.enc)):=by rw[Xj p1,TD.er,Qg p2]
   refine⟨_,_,_,_,_,k1,ZbF hd rfl rfl,rfl,or3 (⟨rfl,λrest=> ?_,λrest=> ?_,[lo+1≤r.n],⟨p5,ytt⟩,λrest=> ?_⟩)⟩
   ·unfold evN;rw[ho];dsimp only;rw[hc]
   ·unfold evR;rw[ho];dsimp only;rw[hc]
   ·unfold evE;rw[ho];dsimp only;rw[hc];dsimp only;rw[ha,ht];dsimp only;rw[hu,hv];dsimp only[TD.er];rw[h1,Zof h2,Yn hd,TEnt.er,esub];dsimp only;rw[if_pos (by simp only[yj,decide_eq_true_eq];exact⟨⟨⟨⟨⟨⟨⟨g1,g2⟩,g3⟩,g4⟩,g5⟩,g6⟩,g7⟩,ytt⟩),Wy (Qy hd rfl rfl),ZgS z r.t z' p3];have eset:(r.l.set lo z').map r.t.enc=(r.l.map r.t.enc).set lo (r.t.enc z'):=ybp ..;show some ([lo+1≤r.n],Dv.tup [],(erH H).set id (Ent.row v s true e' (.p (.arr r.n s ((r.l.map r.t.enc).set lo (r.t.enc z'))))),rest)=some ([lo+1≤r.n],Dv.tup [],(erH H).set id (Ent.row v s true e' (.p (.arr r.n r.t.size ((r.l.set lo z').map r.t.enc)))),rest);rw[eset,g4]
  ·cases h
 ·cases h
def ZFk(P:yg)(t u:yb)(all:List TD)(H:List TEnt)(K:Kn O)(y:TD):TD→Option O
 |.view id path s lo n=>match P.underlying t,H[id]? with
  |some (.slice e),some (.var d true)=>gpT (lk H) path d λsub hs put=>sub.inner.bind λy0=>y0.arow.bind λr=>(ZyG (lk H) P r.t u y).bind λys=>
   (put (.p (.v (.arr r.n r.t) (r.l.take lo++(ys++r.l.drop (lo+ys.length)))))).bind λd'=>
     if(decide (r.t.size=s)&&decide (P.cellsOf e=s)&&(P.info? e).isSome&&decide (ys.length≤n)&&decide (lo+n≤r.n))=true then K all (.p (.v (.int .i64) (ys.length:Int))) (H.set id (.var d' true)) hs 2 else none
  |_,_=>none
 |_=>none
theorem ZAC{t u:yb}{x y:yo}{c:Call}{xd yd:TD}(ho:o.op=.call c)(hc:c.callee=.builtin .copy)(ha:c.args.toList=[x,y])(ht:c.argTypes.toList=[t,u])
 (hx:arT P ts t x=some xd) (hy:arT P ts u y=some yd) (h:ZFk P t u all H K yd xd=some out):∃a d H' hs c,K a d H' hs c=some out∧Good P o ts all H a d H' hs c:=by
 have hv:=Zw (L:=lk H) hx;have hw:=Zw (L:=lk H) hy;unfold ZFk at h;split at h
 ·rename_i id path s lo n;split at h
  ·rename_i e d hu hd;obtain⟨sub,hs,put,C,k1,k2,k3,k4⟩:=Wp _ _ _ _ h;obtain⟨y0,p1,k1⟩:=yf.1 k1;obtain⟨r,p2,k1⟩:=yf.1 k1;obtain⟨ys,p3,k1⟩:=yf.1 k1;obtain⟨d',p4,k1⟩:=yf.1 k1;obtain⟨p5,k1⟩:=Za k1;simp only[yj,decide_eq_true_eq] at p5;obtain⟨⟨⟨⟨g1,g2⟩,g3⟩,g4⟩,g5⟩:=p5;have esub:sub.er (lk H)=.p (.arr r.n r.t.size (r.l.map r.t.enc)):=by rw[Xj p1,TD.er,Qg p2]
   refine⟨_,_,_,_,_,k1,ZbF hd rfl rfl,rfl,or3 (⟨rfl,λrest=> ?_,λrest=> ?_,C++[ZeT path=Vh path,(ys.map r.t.enc).length≤n,lo+n≤r.n],Zl.2 ⟨k2,(WK _).symm,by rw[yz];exact g4,g5,ytt⟩,λrest=> ?_⟩)⟩
   ·unfold evN;rw[ho];dsimp only;rw[hc]
   ·unfold evR;rw[ho];dsimp only;rw[hc]
   ·unfold evE;rw[ho];dsimp only;rw[hc];dsimp only;rw[ha,ht];dsimp only;rw[hu,hv,hw];dsimp only[TD.er];rw[←g1,ZlK p3,Yn hd];dsimp only[TEnt.er];rw[k3 rest,esub];dsimp only;have:=k4 _ _ p4 rest
    have e1:(TD.p (.v (.arr r.n r.t) (r.l.take lo++(ys++r.l.drop (lo+ys.length))))).er (lk H)=.p (.arr r.n r.t.size (Zpl (r.l.map r.t.enc) (ys.map r.t.enc) lo)):=by
     show Dv.p (Pl.arr r.n r.t.size ((r.l.take lo++(ys++r.l.drop (lo+ys.length))).map r.t.enc))=_;unfold Zpl;rw[yav,yav,ycb,List.map_drop,yz]
    rw[e1] at this;rw[this];dsimp only;rw[if_pos (by simp only[yj,decide_eq_true_eq];exact⟨⟨trivial,by rw[g1];exact g2⟩,g3⟩),Wy (Qy hd rfl rfl),yz];rfl
  ·cases h
 ·cases h
def ZAD(H:List TEnt)(id:Nat):Bool:=
 match H[id]? with
 |some (.var _ false)=>true
 |_=>false
def ZJL(P:yg)(t:yb)(lo hi:Option Int)(all:List TD)(H:List TEnt)(K:Kn O):TD→Option O
 |.ref id path=>match P.underlying t with
  |some (.array n e)=>(Zqv H id).bind λd=>gpT (lk H) path d λsub hs _=>sub.inner.bind λy=>y.arow.bind λr=>
   if(decide (n=r.n)&&okB P e r.t.size&&decide (n≤maxLen))=true then if Zbt n lo hi=true then(if ZAD H id=true then K all (.p (.sl (some true) r.t (VK r.l lo hi))) H (.frz::hs) 1 else
    K all (.p (.sl (some true) r.t (VK r.l lo hi))) (H.set id (.var d false)) (.frz::hs) 2) else none else none
  |_=>none
 |_=>none
theorem ZDE{t:yb}{x:yo}{lo hi:Option yo}{l h':Option Int}{xd:TD}(ho:o.op=.slice t x lo hi none)(hx:arT P ts t x=some xd)(hl:ZgC P ts lo=some l)(hh:ZgC P ts hi=some h')
 (h:ZJL P t l h' all H K xd=some out):∃a d H' hs c,K a d H' hs c=some out∧Good P o ts all H a d H' hs c:=by
 have hv:=Zw (L:=lk H) hx;have hl:=ZbE (L:=lk H) hl;have hh:=ZbE (L:=lk H) hh;unfold ZJL at h;split at h
 ·rename_i id path;split at h
  ·rename_i n e hu;obtain⟨d,h1,h⟩:=yf.1 h;obtain⟨st,h2,h3⟩:=ZfD h1;obtain⟨sub,hs,put,C,k1,k2,k3,_⟩:=Wp _ _ _ _ h;obtain⟨y,p1,k1⟩:=yf.1 k1;obtain⟨r,p2,k1⟩:=yf.1 k1;obtain⟨p4,k1⟩:=Za k1;obtain⟨p5,k1⟩:=Za k1;have esub:sub.er (lk H)=.p (.arr r.n r.t.size (r.l.map r.t.enc)):=by rw[Xj p1,TD.er,Qg p2]
   have nN:∀rest,evN P o (TD.ers (lk H) ts) (.frz::hs++rest)=none:=λrest=>by
    unfold evN;rw[ho];dsimp only;rw[hu,hv,hl,hh];rfl
   split at k1
   ·rename_i hst
    have hst':st=false:=by
     unfold ZAD at hst;rw[h2] at hst
     cases st with
     |false=>rfl
     |true=>cases hst
    subst hst';refine⟨_,_,_,_,_,k1,rfl,rfl,.inr (.inl ⟨rfl,rfl,nN,C++[ZeT path=Vh path]++Y5 n l h',Zl.2 ⟨Zl.2 ⟨k2,(WK _).symm,ytt⟩,ZfC p5⟩,λrest=> ?_⟩)⟩;unfold evR;rw[ho];dsimp only;rw[hu,hv,hl,hh];dsimp only[TD.er];rw[yaa];dsimp only;rw[h3];dsimp only;rw[k3 rest,esub];dsimp only;rw[if_pos (by simpa[okB,and_assoc] using p4),TP.pe,ZgT]
   rename_i hst
   have hst':st=true:=by
    unfold ZAD at hst;rw[h2] at hst
    cases st with
    |true=>rfl
    |false=>exact absurd rfl hst
   subst hst';refine⟨_,_,_,_,_,k1,ZbF h2 rfl rfl,rfl,or3 (⟨rfl,nN,λrest=> ?_,C++[ZeT path=Vh path]++Y5 n l h',Zl.2 ⟨Zl.2 ⟨k2,(WK _).symm,ytt⟩,ZfC p5⟩,λrest=> ?_⟩)⟩
   ·unfold evR;rw[ho];dsimp only;rw[hu,hv,hl,hh];dsimp only[TD.er];rw[yaa];dsimp only;rw[h3]
   ·unfold evE;rw[ho];dsimp only;rw[hu,hv,hl,hh];dsimp only[TD.er];rw[yaa];dsimp only;rw[h3];dsimp only;rw[k3 rest,esub];dsimp only;rw[if_pos (by simpa[okB,and_assoc] using p4),Wy (Qy h2 rfl rfl),TP.pe,ZgT];rfl
  ·cases h
 ·cases h
def ZwW(dst:Tmp)(all:List TD)(H:List TEnt)(K:Kn O):TD→Option O
 |.view id path s lo n=>(Zqv H id).bind λd=>gpT (lk H) path d λsub hs _=>sub.inner.bind λy=>y.arow.bind λr=>
  if(decide (r.t.size=s))=true then if(decide (lo+n≤r.n))=true then K all (.p (.sl (some true) r.t ((r.l.drop lo).take n))) (H.set id (.var d false)) (.still dst::hs) 2 else none else none
 |.rv id v s lo n=>match H[id]? with
  |some (.row w s' _ e d)=>d.inner.bind λy=>y.arow.bind λr=>
   if(decide (r.t.size=s)&&decide (s'=s)&&w==v)=true then if(decide (lo+n≤r.n))=true then K all (.p (.sl none r.t ((r.l.drop lo).take n))) (H.set id (.row v s false e d)) [.still dst] 2 else none else none
  |_=>none
 |_=>none
theorem ZyQ{dst:Tmp}{xd:TD}(h:ZwW dst all H K xd=some out):∃a d H' hs,K a d H' (.still dst::hs) 2=some out∧TD.ers (lk H') a=TD.ers (lk H) all∧a.length=all.length∧
 ∃C,AllP C∧∀rest,Zft (xd.er (lk H)) (erH H) (hs++rest)=some (C,d.er (lk H'),erH H',rest):=by
 unfold ZwW at h;split at h
 ·rename_i id path s lo n;obtain⟨d,h1,h⟩:=yf.1 h;obtain⟨st,h2,h3⟩:=ZfD h1;obtain⟨sub,hs,put,C,k1,k2,k3,_⟩:=Wp _ _ _ _ h;obtain⟨y,p1,k1⟩:=yf.1 k1;obtain⟨r,p2,k1⟩:=yf.1 k1;obtain⟨p4,k1⟩:=Za k1;obtain⟨p5,k1⟩:=Za k1;have p4:=of_decide_eq_true p4;have p5:=of_decide_eq_true p5;have esub:sub.er (lk H)=.p (.arr r.n r.t.size (r.l.map r.t.enc)):=by rw[Xj p1,TD.er,Qg p2]
  refine⟨_,_,_,_,k1,ZbF h2 rfl rfl,rfl,C++[ZeT path=Vh path,lo+n≤r.n],Zl.2 ⟨k2,(WK _).symm,p5,ytt⟩,λrest=> ?_⟩;unfold Zft;rw[show(TD.view id path s lo n).er (lk H)=Dv.view id (Vh path) (path.map Stp.i) s lo n from rfl]
  try dsimp only
  rw[h3]
  try dsimp only
  rw[k3 rest,esub]
  try dsimp only
  rw[if_pos p4,Wy (Qy h2 rfl rfl),TD.er,TP.pe,ycb,List.map_drop,p4]
  try rfl
 ·rename_i id v s lo n;split at h
  ·rename_i w s' st e d hd;obtain⟨y,p1,k1⟩:=yf.1 h;obtain⟨r,p2,k1⟩:=yf.1 k1;obtain⟨p4,k1⟩:=Za k1;obtain⟨p5,k1⟩:=Za k1;simp only[yj,decide_eq_true_eq] at p4;have p5:=of_decide_eq_true p5;have esub:d.er (lk H)=.p (.arr r.n r.t.size (r.l.map r.t.enc)):=by rw[Xj p1,TD.er,Qg p2]
   refine⟨_,_,_,[],k1,ZbF hd rfl rfl,rfl,[lo+n≤r.n],⟨p5,ytt⟩,λrest=> ?_⟩;rw[yx];unfold Zft;rw[show(TD.rv id v s lo n).er (lk H)=Dv.rv id v s lo n from rfl]
   dsimp only;rw[Yn hd,TEnt.er,esub];dsimp only;rw[if_pos (by simp[p4]),Wy (Qy hd rfl rfl),TEnt.er,esub,TD.er,TP.pe,ycb,List.map_drop,p4.1.1]
  ·cases h
 ·cases h
theorem ZyR{x:yo}{dst:Tmp}{xd:TD}(ho:o.op=.assign x∨o.op=.move x)(hd:o.dst=some dst)(hx:arT P ts o.type x=some xd)(h:ZwW dst all H K xd=some out):
 ∃a d H' hs c,K a d H' hs c=some out∧Good P o ts all H a d H' hs c:=by
 have hv:=Zw (L:=lk H) hx;obtain⟨a,d,H',hs,k1,k2,k3,C,k4,k5⟩:=ZyQ h;refine⟨_,_,_,_,_,k1,k2,k3,or3 (⟨rfl,λrest=> ?_,λrest=> ?_,C,k4,λrest=> ?_⟩)⟩
 ·rcases ho with ho|ho <;> (unfold evN;rw[ho];rfl)
 ·rcases ho with ho|ho <;> (unfold evR;rw[ho])
 ·rcases ho with ho|ho
  ·unfold evE;rw[ho];dsimp only;rw[yaa];dsimp only;rw[if_pos hd,hv];exact k5 rest
  ·unfold evE;rw[ho];dsimp only;rw[yaa];dsimp only;rw[if_pos hd,hv];exact k5 rest
def TD.isRw:TD→Bool
 |.rw _=>true
 |_=>false
def TD.isRp:TD→Bool
 |.rp _ _=>true
 |_=>false
theorem ZBX{id:Nat}{T:Ty}{v:List Unit}{st st':Bool}{e e':yb}{l l':List T.den}(hd:H[id]? =some (.rowT T v st e l))(hl:l'.length=l.length):lk (H.set id (.rowT T v st' e' l'))=lk H:=by
 funext j;unfold lk;by_cases hj:id=j
 ·subst hj;rw[getElem?_set_eq' hd,hd];show some _=some _;rw[hl]
 ·rw[getElem?_set_ne' hj]
def ZwX(P:yg)(t:yb)(i:Int)(all:List TD)(H:List TEnt)(K:Kn O):TD→Option O
 |.rw id=>match P.underlying t,H[id]? with
  |some (.slice e),some (.rowT T v st e' l)=>if okB P e T.size=true then if inB i l.length=true then K all (.rp id [.ix i.toNat T.size]) H [] 0 else none else none
  |_,_=>none
 |_=>none
theorem ZwY{t:yb}{x ix:yo}{xd:TD}{q:IntKind×Int}{ip:TP}(ho:o.op=.indexAddr t x ix)(hx:arT P ts t x=some xd)(hi:arT P ts 0 ix=some (.p ip))(hq:Zwu ip=some q)(h:ZwX P t q.2 all H K xd=some out):
 ∃a d H' hs c,K a d H' hs c=some out∧Good P o ts all H a d H' hs c:=by
 have hv:=Zw (L:=lk H) hx;have hw:=Zw (L:=lk H) hi;rw[TD.er,(ZrO hq).1] at hw;unfold ZwX at h;split at h
 ·rename_i id;split at h
  ·rename_i e T v st e' l hu hd;obtain⟨h3,h⟩:=Za h;obtain⟨h4,h⟩:=Za h;refine⟨_,_,_,_,_,h,rfl,rfl,.inl ⟨rfl,rfl,[0≤q.2,q.2 < (l.length:Int)],⟨(ZaK h4).1,(ZaK h4).2,ytt⟩,λrest=> ?_⟩⟩;simp only[yx];unfold evN;rw[ho];dsimp only;rw[hu,hv,hw,(Zcq hd).1,(Zcq hd).2];dsimp only;rw[if_pos (by simpa[okB] using h3)];simp[Vh,Stp.o,Stp.i]
  ·cases h
 ·cases h
def ZFl(P:yg)(t:yb)(all:List TD)(H:List TEnt)(K:Kn O):TD→Option O
 |.rw id=>match P.underlying t,H[id]? with
  |some (.slice _),some (.rowT T v st e' l)=>K all (.p (.v (.int .i64) (l.length:Int))) H [] 0
  |_,_=>none
 |_=>none
theorem ZAE{t:yb}{x:yo}{c:Call}{xd:TD}(ho:o.op=.call c)(hc:c.callee=.builtin .len)(ha:c.args.toList=[x])(ht:c.argTypes.toList=[t])(hx:arT P ts t x=some xd)(h:ZFl P t all H K xd=some out):
 ∃a d H' hs c,K a d H' hs c=some out∧Good P o ts all H a d H' hs c:=by
 have hv:=Zw (L:=lk H) hx;unfold ZFl at h;split at h
 ·rename_i id;split at h
  ·rename_i e T v st e' l hu hd;refine⟨_,_,_,_,_,h,rfl,rfl,.inl ⟨rfl,rfl,[],trivial,λrest=> ?_⟩⟩;simp only[yx];unfold evN;rw[ho];dsimp only;rw[hc];dsimp only;rw[ha,ht];dsimp only;rw[hu,hv,(Zcq hd).1];rfl
  ·cases h
 ·cases h
def ZAF(P:yg)(t:yb)(all:List TD)(H:List TEnt)(K:Kn O):TD→Option O
 |.rp id path=>match H[id]? with
  |some (.rowT T v st e l)=>gpT (lk H) path (.p (.v (.arr l.length T) l)) λsub hs _=>if okT P t (sub.er (lk H))=true then K all sub H hs 1 else none
  |_=>none
 |_=>none
theorem ZyS{t:yb}{x:yo}{xd:TD}(ho:o.op=.load t x)(hx:arT P ts 0 x=some xd)(h:ZAF P t all H K xd=some out):∃a d H' hs c,K a d H' hs c=some out∧Good P o ts all H a d H' hs c:=by
 have hv:=Zw (L:=lk H) hx;unfold ZAF at h;split at h
 ·rename_i id path;split at h
  ·rename_i T v st e l hd;obtain⟨sub,hs,put,C,k1,k2,k3,_⟩:=Wp _ _ _ _ h;obtain⟨k4,k5⟩:=Za k1;refine⟨_,_,_,_,_,k5,rfl,rfl,.inr (.inl ⟨rfl,rfl,λrest=> ?_,C++[ZeT path=Vh path],Zl.2 ⟨k2,(WK _).symm,ytt⟩,λrest=> ?_⟩)⟩
   ·unfold evN;rw[ho];dsimp only;rw[hv];rfl
   ·unfold evR;rw[ho];dsimp only;rw[hv,(Zcq hd).2];dsimp only;rw[Yn hd];dsimp only[TEnt.er];have k6:Yu (.p (.arr l.length T.size (l.map T.enc))) (path.map Stp.i) (hs++rest)=some (C,ZeT path,sub.er (lk H),rest):=k3 rest;rw[k6];dsimp only;rw[if_pos (by rw[yj];exact⟨k4,by simp⟩)]
  ·cases h
 ·cases h
def ZwZ(P:yg)(t:yb)(all:List TD)(H:List TEnt)(K:Kn O)(v:TD):TD→Option O
 |.rp id (.ix i s::r)=>match H[id]? with
  |some (.rowT T u true e l)=>if s=T.size then(l[i]?).bind λy=>gpT (lk H) r (.p (.v T y)) λsub hs put=>(put (v.meltP (lk H))).bind λd1=>d1.inner.bind λz=>(TP.to Zkz z T).bind λy'=>
   if ZlN P t ((v.meltP (lk H)).er (lk H)) (sub.er (lk H))=true then K all .junk (H.set id (.rowT T u true e (l.set i y'))) (.el (T.enc y)::hs) 2 else none else none
  |_=>none
 |_=>none
theorem Zw0{t:yb}{x y:yo}{xd yd:TD}(ho:o.op=.store t x y)(hx:arT P ts 0 x=some xd)(hy:arT P ts t y=some yd)(h:ZwZ P t all H K yd xd=some out):
 ∃a d H' hs c,K a d H' hs c=some out∧Good P o ts all H a d H' hs c:=by
 have hv:=Zw (L:=lk H) hx;have hw:=Zw (L:=lk H) hy;unfold ZwZ at h;split at h
 ·rename_i id i s r;split at h
  ·rename_i T u e l hd;split at h
   ·rename_i hs0;obtain⟨y0,h2,h⟩:=yf.1 h;obtain⟨sub,hs,put,C,k1,k2,k3,k4⟩:=Wp r (.p (.v T y0)) _ out h;obtain⟨d1,p1,k1⟩:=yf.1 k1;obtain⟨z,p2,k1⟩:=yf.1 k1;obtain⟨y',p3,k1⟩:=yf.1 k1;obtain⟨h4,k1⟩:=Za k1;have h4':=h4;unfold ZlN at h4';have hL:lk (H.set id (.rowT T u true e (l.set i y')))=lk H:=ZBX hd (by rw[ybl])
    have hg:∀rest,Yu (.p (.arr l.length T.size (l.map T.enc))) (i::r.map Stp.i) (.el (T.enc y0)::(hs++rest))=some (((l.map T.enc)[i]? =some (T.enc y0))::C,i*T.size+ZeT r,sub.er (lk H),rest):=by
     intro rest;unfold Yu;dsimp only;have:=k3 rest;rw[TD.er,TP.pe] at this;rw[this,yab]
    have hp:∀rest,Vu ((yd.meltP (lk H)).er (lk H)) (.p (.arr l.length T.size (l.map T.enc))) (i::r.map Stp.i) (.el (T.enc y0)::(hs++rest))=some (.p (.arr l.length T.size ((l.set i y').map T.enc))):=by
     intro rest;have:=k4 _ d1 p1 rest;rw[TD.er,TP.pe] at this;unfold Vu;dsimp only;rw[this,Xj p2,TD.er];dsimp only;rw[ZgS z T y' p3, ←ybp]
    refine⟨_,_,_,_,_,k1,by rw[hL],rfl,or3 (⟨rfl,λrest=> ?_,λrest=> ?_,(((l.map T.enc)[i]? =some (T.enc y0))::C)++[i*T.size+ZeT r=Vh (.ix i s::r)],
     Zl.2 ⟨⟨Zn6 h2,k2⟩,by rw[WK,ZeT,Stp.o,hs0],ytt⟩,λrest=> ?_⟩)⟩
    ·unfold evN;rw[ho]
    ·unfold evR;rw[ho]
    ·unfold evE;rw[ho];dsimp only;rw[hv,hw,(Zcq hd).2];dsimp only;rw[Yn hd];dsimp only[TEnt.er];rw[yag,show(Stp.ix i s).i=i from rfl,yaa,hg rest]
     dsimp only;have hst:Zfs (i::r.map Stp.i) (.p (.arr l.length T.size (l.map T.enc))) (yd.er (lk H))=some ((yd.meltP (lk H)).er (lk H)):=ZpE (path:=.ix i s::r) (d:=.p (.v (.arr l.length T) l)) (v:=yd) (new:=yd.meltP (lk H)) (L:=lk H) rfl;rw[hst];dsimp only;rw[hp rest];dsimp only;rw[if_pos (by simp only[yj] at h4' ⊢;exact⟨⟨h4',by simp⟩,by simp[rowN]⟩),Wy hL];simp only[TEnt.er,ybl];rfl
   ·cases h
  ·cases h
 ·cases h
def Zw1(dst:Tmp)(all:List TD)(H:List TEnt)(K:Kn O):TD→Option O
 |.rw id=>match H[id]? with
  |some (.rowT T v st e l)=>K all (.p (.sl none T l)) (H.set id (.rowT T v false e l)) [.still dst] 2
  |_=>none
 |_=>none
theorem Zw2{x:yo}{dst:Tmp}{xd:TD}(ho:o.op=.assign x∨o.op=.move x)(hd:o.dst=some dst)(hx:arT P ts o.type x=some xd)(h:Zw1 dst all H K xd=some out):
 ∃a d H' hs c,K a d H' hs c=some out∧Good P o ts all H a d H' hs c:=by
 have hv:=Zw (L:=lk H) hx;unfold Zw1 at h;split at h
 ·rename_i id;split at h
  ·rename_i T v st e l hr;have hL:lk (H.set id (.rowT T v false e l))=lk H:=ZBX hr rfl
   have k5:∀rest,Zft ((TD.rw id).er (lk H)) (erH H) rest=some ([0+l.length≤l.length],.p (.sl none T.size (l.map T.enc)),erH (H.set id (.rowT T v false e l)),rest):=by
    intro rest;unfold Zft;rw[(Zcq hr).1];dsimp only;rw[Yn hr,TEnt.er];dsimp only;rw[if_pos (by simp),Wy hL,TEnt.er,List.drop_zero, ←yz (f:=T.enc),ybk]
   refine⟨_,_,_,_,_,h,by rw[hL],rfl,or3 (⟨rfl,λrest=> ?_,λrest=> ?_,[0+l.length≤l.length],⟨by omega,ytt⟩,λrest=> ?_⟩)⟩
   ·rcases ho with ho|ho <;> (unfold evN;rw[ho];rfl)
   ·rcases ho with ho|ho <;> (unfold evR;rw[ho])
   ·rcases ho with ho|ho
    ·unfold evE;rw[ho];dsimp only;rw[yaa];dsimp only;rw[if_pos hd,hv];exact k5 rest
    ·unfold evE;rw[ho];dsimp only;rw[yaa];dsimp only;rw[if_pos hd,hv];exact k5 rest
  ·cases h
 ·cases h
theorem ZyT{L M:Lk}{n:Nat}(h:∀id t,id≠n→Z8 L id t none=Z8 M id t none)(x:TEnt)(hf:x.free n=true):x.er L=x.er M:=by
 cases x with
 |var d st=>rw[TEnt.er,TEnt.er,ZeR h d hf]
 |row v s st e d=>rw[TEnt.er,TEnt.er,ZeR h d hf]
 |rowM t np v st e pre d post=>rw[TEnt.er,TEnt.er,ZeR h d hf]
 |_=>rfl
theorem Zoh{T:Ty}{v:List Unit}{st:Bool}{e:yb}{l:List T.den}(h:H.all (TEnt.free H.length)=true):erH (H++[.rowT T v st e l])=erH H++[.row v.length T.size st e (.p (.arr l.length T.size (l.map T.enc)))]:=by
 unfold erH;rw[yav];congr 1;refine ycj λx hx=> ?_;have hf:=ybe.1 h x hx;exact(ZyT (λid t hn=>Zdw id t hn) x hf).symm
theorem ZrR{T:Ty}{v:List Unit}{st:Bool}{e:yb}{l:List T.den}:(TD.rw H.length).er (lk (H++[.rowT T v st e l]))=.rv H.length v.length T.size 0 l.length:=
 (Zcq (H:=H++[.rowT T v st e l]) (List.getElem?_concat_length ..)).1
def ZsQ(P:yg)(row:Bool)(t u:yb)(all:List TD)(H:List TEnt)(K:Kn O)(y:TD):TD→Option O
 |.rw id=>match P.underlying t,H[id]? with
  |some (.slice e),some (.rowT T v st e' l)=>(P.info? e).bind λi=>ZyO P T u H (λys hs=>
   if(zOk i&&decide (i.size=T.size)&&decide (P.cellsOf e=T.size)&&decide (e'=e)&&decide (T.size≠0))=true then if apB l.length ys.length i.bytes=true then
    K (TD.stales (lk H) id all) (.rw id) ((H.map (TEnt.stale (lk H) id)).set id (.rowT T (()::v) st e (l++ys))) (.raw::hs) 2 else none else none) y
  |_,_=>none
 |.p (.sl (some false) _ [])=>match P.underlying t with
  |some (.slice e)=>(P.info? e).bind λi=>(ZkA P tyD e).bind λT=>(ZyG (lk H) P T u y).bind λys=>
   if(zOk i&&i.size !=0&&decide (i.size=T.size)&&decide (P.cellsOf e=T.size)&&TD.frees H.length all&&H.all (TEnt.free H.length))=true then if ZAf ys.length i.bytes=true then
    K all (.rw H.length) (H++[.rowT T [] true e ys]) [.arr] 2 else none else none
  |_=>none
 |_=>none
theorem Zus{row:Bool}{t u:yb}{x y:yo}{c:Call}{xd yd:TD}(ho:o.op=.call c)(hc:c.callee=.builtin .append)(ha:c.args.toList=[x,y])(ht:c.argTypes.toList=[t,u])
 (hv:ZB P (TD.ers (lk H) ts) t x=xd.er (lk H)) (hy:arT P ts u y=some yd) (h:ZsQ P row t u all H K yd xd=some out):∃a d H' hs c,K a d H' hs c=some out∧Good P o ts all H a d H' hs c:=by
 have hw:=Zw (L:=lk H) hy;unfold ZsQ at h;split at h
 ·rename_i id;split at h
  ·rename_i e T v st e' l hu hd;obtain⟨i,h1,h⟩:=yf.1 h;obtain⟨ys,hs,C,k1,k2,k3⟩:=Znm h;obtain⟨k4,k6⟩:=Za k1;obtain⟨k5,kk⟩:=Za k6;clear k1 k6;simp only[yj,decide_eq_true_eq] at k4;obtain⟨⟨⟨⟨g1,g2⟩,g3⟩,g4⟩,g5⟩:=k4;subst g4;simp only[apB,yj,decide_eq_true_eq] at k5;have hlt:id < H.length:=(yr.1 hd).1
   refine⟨_,_,_,_,_,kk,ers_stale (λid' t hn=>Zbj (lk H) id' t hn) all,ZfE all,or3 (⟨rfl,λrest=> ?_,λrest=> ?_,
    C++[l.length≤l.length,(l.length+(ys.map T.enc).length)*i.bytes≤Zt,l.length+(ys.map T.enc).length≤maxLen,st=true∨l.length=l.length],Zl.2 ⟨k2,yn _,by simpa using k5.1,by simpa using k5.2,.inr rfl,ytt⟩,λrest=> ?_⟩)⟩
   ·unfold evN;rw[ho];dsimp only;rw[hc];dsimp only;rw[ha,ht,yaa]
   ·unfold evR;rw[ho];dsimp only;rw[hc]
   ·unfold evE;rw[ho];dsimp only;rw[hc];dsimp only;rw[ha,ht];dsimp only;rw[hu,hv,hw,(Zcq hd).1];rw[yaa];dsimp only;rw[h1,k3 rest,Yn hd];dsimp only[TEnt.er]
    have hnew:((H.map (TEnt.stale (lk H) id)).set id (.rowT T (()::v) st e' (l++ys)))[id]? =some (.rowT T (()::v) st e' (l++ys)):=by
     rw[ycr (by rw[yz];exact hlt)]
    have hH:erH ((H.map (TEnt.stale (lk H) id)).set id (.rowT T (()::v) st e' (l++ys)))=(erH H).set id (.row (v.length+1) T.size st e' (.p (.arr (l.length+ys.length) T.size (l.map T.enc++ys.map T.enc)))):=by
     unfold erH;rw[ybp,ybd]
     have:(TEnt.rowT T (()::v) st e' (l++ys)).er (lk ((H.map (TEnt.stale (lk H) id)).set id (.rowT T (()::v) st e' (l++ys))))=.row (v.length+1) T.size st e' (.p (.arr (l.length+ys.length) T.size (l.map T.enc++ys.map T.enc))):=by
      simp only[TEnt.er,yae,yp,yav]
     rw[this];congr 1;refine ycj λx hx=> ?_;exact ZlL (λid t hn=>Zbj (lk H) id t hn) x
    rw[if_pos (by simp[g1,g2,g5]),hH,(Zcq hnew).1];simp only[yz,yae,yp];rw[show(l.map T.enc).take l.length=l.map T.enc by rw[←yz (f:=T.enc),ybk]]
  ·cases h
 ·rename_i T0;split at h
  ·rename_i e hu;obtain⟨i,h1,h⟩:=yf.1 h;obtain⟨T,h2,h⟩:=yf.1 h;obtain⟨ys,h3,h⟩:=yf.1 h;obtain⟨k4,h⟩:=Za h;obtain⟨k5,h⟩:=Za h;simp only[yj,decide_eq_true_eq] at k4;obtain⟨⟨⟨⟨⟨g1,g2⟩,g3⟩,g4⟩,g5⟩,g6⟩:=k4;obtain⟨g7,g8⟩:=Zdu k5;refine⟨_,_,_,_,_,h,ZhY g5,rfl,or3 (⟨rfl,λrest=> ?_,λrest=> ?_,[(ys.map T.enc).length*i.bytes≤Zt,(ys.map T.enc).length≤maxLen],⟨by rw[yz];exact g7,by rw[yz];exact g8,ytt⟩,λrest=> ?_⟩)⟩
   ·unfold evN;rw[ho];dsimp only;rw[hc];dsimp only;rw[ha,ht];rfl
   ·unfold evR;rw[ho];dsimp only;rw[hc]
   ·unfold evE;rw[ho];dsimp only;rw[hc];dsimp only;rw[ha,ht];dsimp only;rw[hu,hv,hw,show(TD.p (TP.sl (some false) T0 [])).er (lk H)=Dv.p (.sl (some false) T0.size []) from rfl]
    dsimp only;rw[h1,g4,ZlK h3,yaa,yx];dsimp only;rw[if_pos (by simp only[yj];exact⟨g1,g2⟩),Zoh g6,ZQ,ZrR,g3];simp only[yz,ycq]
  ·cases h
 ·cases h
def ZFm(P:yg)(ts:List TD)(t:yb)(len:Nat)(parts:List (Nat×yo))(all:List TD)(H:List TEnt)(K:Kn O):Option O:=
 ZAq (lk H) P ts t len parts λT l e=>if(decide (l.length=len)&&TD.frees H.length all&&H.all (TEnt.free H.length))=true then K all (.rw H.length) (H++[.rowT T [] true e l]) [.arr] 2 else none
theorem ZAG{t:yb}{len:Nat}{parts:Array (Nat×yo)}(ho:o.op=.buildSlice t len parts)(h:ZFm P ts t len parts.toList all H K=some out):
 ∃a d H' hs c,K a d H' hs c=some out∧Good P o ts all H a d H' hs c:=by
 unfold ZFm at h;obtain⟨e,T,l,i,xs,h1,hu,hi,hl,hz,hs,hx⟩:=ZhW h;obtain⟨h2,h1⟩:=Za h1;simp only[yj,decide_eq_true_eq] at h2;obtain⟨⟨h2,g5⟩,g6⟩:=h2;refine⟨_,_,_,_,_,h1,ZhY g5,rfl,or3 (⟨rfl,λrest=> ?_,λrest=> ?_,[],trivial,λrest=> ?_⟩)⟩
 ·unfold evN;rw[ho];rfl
 ·unfold evR;rw[ho]
 ·unfold evE;rw[ho];dsimp only;rw[yaa,yx];dsimp only;rw[hu];dsimp only;rw[hi,hl];dsimp only;rw[if_pos (by simpa using hz),hx,Zoh g6,ZrR,ZQ,hs,h2];rfl
def ZAH(P:yg)(ts:List TD)(t:yb)(len:Nat)(parts:List (Nat×yo))(id:Nat)(all:List TD)(H:List TEnt)(K:Kn O):Option O:=
 ZAq (lk H) P ts t len parts λT l e=>match H[id]? with
  |some (.rowT T' v _ e' _)=>if(decide (l.length=len)&&decide (e'=e)&&decide (T'.size=T.size))=true then K (TD.stales (lk H) id all) (.rw id) ((H.map (TEnt.stale (lk H) id)).set id (.rowT T (()::v) true e l)) [.fresh id] 2 else none
  |_=>none
theorem ZyU{t:yb}{len id:Nat}{parts:Array (Nat×yo)}(ho:o.op=.buildSlice t len parts)(h:ZAH P ts t len parts.toList id all H K=some out):
 ∃a d H' hs c,K a d H' hs c=some out∧Good P o ts all H a d H' hs c:=by
 unfold ZAH at h;obtain⟨e,T,l,i,xs,h1,hu,hi,hl,hz,hs,hx⟩:=ZhW h;split at h1
 case h_2=>cases h1
 rename_i T0 v st e' l0 hd;obtain⟨h2,h1⟩:=Za h1;simp only[yj,decide_eq_true_eq] at h2;obtain⟨⟨h2,rfl⟩,h3⟩:=h2;have hlt:id < H.length:=(yr.1 hd).1
 have hnew:((H.map (TEnt.stale (lk H) id)).set id (.rowT T (()::v) true e' l))[id]? =some (.rowT T (()::v) true e' l):=by
  rw[ycr (by rw[yz];exact hlt)]
 have hH:erH ((H.map (TEnt.stale (lk H) id)).set id (.rowT T (()::v) true e' l))=(erH H).set id (.row (v.length+1) T.size true e' (.p (.arr l.length T.size (l.map T.enc)))):=by
  unfold erH;rw[ybp,ybd]
  have:(TEnt.rowT T (()::v) true e' l).er (lk ((H.map (TEnt.stale (lk H) id)).set id (.rowT T (()::v) true e' l)))=.row (v.length+1) T.size true e' (.p (.arr l.length T.size (l.map T.enc))):=by
   simp only[TEnt.er,yae]
  rw[this];congr 1;refine ycj λx hx=> ?_;exact ZlL (λid t hn=>Zbj (lk H) id t hn) x
 refine⟨_,_,_,_,_,h1,ers_stale (λid' t hn=>Zbj (lk H) id' t hn) all,ZfE all,or3 (⟨rfl,λrest=> ?_,λrest=> ?_,[],trivial,λrest=> ?_⟩)⟩
 ·unfold evN;rw[ho];rfl
 ·unfold evR;rw[ho]
 ·unfold evE;rw[ho];dsimp only;rw[yaa,yx];dsimp only;rw[hu,Yn hd];dsimp only[TEnt.er];rw[hi,hl];dsimp only;rw[if_pos (by rw[yj,yj,beq_iff_eq,beq_iff_eq];exact⟨⟨hz,rfl⟩,h3.trans hs.symm⟩),hx,hH,(Zcq hnew).1,hs, ←h2];simp only[yae]
def ZAI(P:yg)(t:yb)(n n':Int)(all:List TD)(H:List TEnt)(K:Kn O):Option O:=
 match P.underlying t with
 |some (.slice e)=>(P.info? e).bind λi=>(ZkA P tyD e).bind λT=>
  if(zOk i&&i.size !=0&&decide (i.size=T.size)&&TD.frees H.length all&&H.all (TEnt.free H.length))=true then if(decide (n=0)&&Zqw n' i.bytes)=true then K all (.rw H.length) (H++[.rowT T [] true e []]) [.arr] 2 else none else none
 |_=>none
theorem ZyV{t:yb}{l c:yo}{n n':Num}(ho:o.op=.makeSlice t l c)(hl:(arT P ts 0 l).bind TD.num=some n)(hc:(arT P ts 0 c).bind TD.num=some n')(hk:n.k=.i64)(hk':n'.k=.i64)
 (h:ZAI P t n.n n'.n all H K=some out):∃a d H' hs c,K a d H' hs c=some out∧Good P o ts all H a d H' hs c:=by
 obtain⟨ld,l1,l2⟩:=yf.1 hl;obtain⟨cd,c1,c2⟩:=yf.1 hc;have hv:=Zw (L:=lk H) l1;have hw:=Zw (L:=lk H) c1;rw[ZeQ l2,hk] at hv;rw[ZeQ c2,hk'] at hw;unfold ZAI at h;have nN:∀hs,evN P o (TD.ers (lk H) ts) hs=none:=λhs=>by unfold evN;rw[ho]
 have nR:∀hs,evR P o (TD.ers (lk H) ts) (erH H) hs=none:=λhs=>by unfold evR;rw[ho]
 split at h
 ·rename_i e hu;obtain⟨i,h1,h⟩:=yf.1 h;obtain⟨T,h2,h⟩:=yf.1 h;obtain⟨h3,h⟩:=Za h;obtain⟨h4,h⟩:=Za h;simp only[yj,decide_eq_true_eq] at h3;obtain⟨⟨⟨g0,h3⟩,g5⟩,g6⟩:=h3;simp only[Zqw,yj,decide_eq_true_eq] at h4;obtain⟨g1,g2⟩:=Zdu h4.2.2;refine⟨_,_,_,_,_,h,ZhY g5,rfl,or3 (⟨rfl,λrest=>nN _,λrest=>nR _,[n.n=0,0≤n'.n,n'.n.toNat*i.bytes≤Zt,n'.n.toNat≤maxLen],⟨h4.1,h4.2.1,g1,g2,ytt⟩,λrest=> ?_⟩)⟩;unfold evE;rw[ho];dsimp only;rw[hu,hv,hw];dsimp only;rw[h1,yaa,yx];dsimp only;rw[if_pos (by simpa using g0),Zoh g6,ZrR,ZQ,h3];rfl
 ·cases h
def Zw3(P:yg)(t:yb)(dst:Tmp)(all:List TD)(H:List TEnt)(K:Kn O):TD→Option O
 |.p (.sl (some false) T [])=>match P.underlying t with
  |some (.slice e)=>(P.info? e).bind λi=>if(zOk i&&i.size !=0&&decide (i.size=T.size)&&TD.frees H.length all&&H.all (TEnt.free H.length))=true then K all (.rw H.length) (H++[.rowT T [] true e []]) [.freshR dst] 2 else none
  |_=>none
 |_=>none
theorem Zw4{x:yo}{dst:Tmp}{xd:TD}(ho:o.op=.assign x)(hd:o.dst=some dst)(hx:arT P ts o.type x=some xd)(h:Zw3 P o.type dst all H K xd=some out):
 ∃a d H' hs c,K a d H' hs c=some out∧Good P o ts all H a d H' hs c:=by
 have hv:=Zw (L:=lk H) hx;unfold Zw3 at h;split at h
 ·rename_i T;split at h
  ·rename_i e hu;obtain⟨i,h1,h⟩:=yf.1 h;obtain⟨h2,h⟩:=Za h;simp only[yj,decide_eq_true_eq] at h2;obtain⟨⟨⟨g0,g3⟩,g5⟩,g6⟩:=h2;refine⟨_,_,_,_,_,h,ZhY g5,rfl,or3 (⟨rfl,λrest=> ?_,λrest=> ?_,[],trivial,λrest=> ?_⟩)⟩
   ·unfold evN;rw[ho];rfl
   ·unfold evR;rw[ho]
   ·unfold evE;rw[ho];dsimp only;rw[yaa,yx];dsimp only;rw[if_pos hd,hu,hv,show(TD.p (TP.sl (some false) T [])).er (lk H)=Dv.p (.sl (some false) T.size []) from rfl]
    dsimp only;rw[h1];dsimp only;rw[if_pos (by simpa using g0),Zoh g6,ZrR,ZQ,g3];rfl
  ·cases h
 ·cases h
def ZsR(P:yg)(t:yb)(lo hi:Option Int)(all:List TD)(H:List TEnt)(K:Kn O):TD→Option O
 |.rw id=>match P.underlying t,H[id]?,lo,hi with
  |some (.slice e),some (.rowT T v true e' l),none,some h=>if(okB P e T.size&&decide (T.size≠0))=true then if(decide (0≤h)&&decide (h.toNat≤l.length))=true then
    K (TD.stales (lk H) id all) (.rw id) ((H.map (TEnt.stale (lk H) id)).set id (.rowT T v true e' (l.take h.toNat))) [.arr] 2 else none else none
  |_,_,_,_=>none
 |_=>none
theorem Zut{t:yb}{x:yo}{lo hi:Option yo}{l h':Option Int}{xd:TD}(ho:o.op=.slice t x lo hi none)(hx:arT P ts t x=some xd)(hl:ZgC P ts lo=some l)(hh:ZgC P ts hi=some h')(h:ZsR P t l h' all H K xd=some out):
 ∃a d H' hs c,K a d H' hs c=some out∧Good P o ts all H a d H' hs c:=by
 have hv:=Zw (L:=lk H) hx;have hl2:=ZbE (L:=lk H) hl;have hh2:=ZbE (L:=lk H) hh;unfold ZsR at h;split at h
 ·rename_i id;split at h
  ·rename_i e T v e' xs h2 hu hd;obtain⟨h3,h⟩:=Za h;obtain⟨h4,h⟩:=Za h;simp only[yj,decide_eq_true_eq] at h3 h4;obtain⟨h3a,h3b⟩:=ZHz h3.1;have hlt:id < H.length:=(yr.1 hd).1
   have hnew:((H.map (TEnt.stale (lk H) id)).set id (.rowT T v true e' (xs.take h2.toNat)))[id]? =some (.rowT T v true e' (xs.take h2.toNat)):=by
    rw[ycr (by rw[yz];exact hlt)]
   have hlen:(xs.take h2.toNat).length=h2.toNat:=by rw[List.length_take];omega
   have hH:erH ((H.map (TEnt.stale (lk H) id)).set id (.rowT T v true e' (xs.take h2.toNat)))=(erH H).set id (.row v.length T.size true e' (.p (.arr h2.toNat T.size ((xs.map T.enc).take h2.toNat)))):=by
    unfold erH;rw[ybp,ybd]
    have:(TEnt.rowT T v true e' (xs.take h2.toNat)).er (lk ((H.map (TEnt.stale (lk H) id)).set id (.rowT T v true e' (xs.take h2.toNat))))=.row v.length T.size true e' (.p (.arr h2.toNat T.size ((xs.map T.enc).take h2.toNat))):=by
     simp only[TEnt.er,hlen,ycb]
    rw[this];congr 1;refine ycj λx hx=> ?_;exact ZlL (λid t hn=>Zbj (lk H) id t hn) x
   refine⟨_,_,_,_,_,h,ers_stale (λid' t hn=>Zbj (lk H) id' t hn) all,ZfE all,or3 (⟨rfl,λrest=> ?_,λrest=> ?_,[0≤h2,h2.toNat≤xs.length],⟨h4.1,h4.2,ytt⟩,λrest=> ?_⟩)⟩
   ·unfold evN;rw[ho];dsimp only;rw[hu,hv,(Zcq hd).1,hl2,hh2];rfl
   ·unfold evR;rw[ho];dsimp only;rw[hu,hv,(Zcq hd).1,hl2,hh2];rfl
   ·unfold evE;rw[ho];dsimp only;rw[hu,hv,(Zcq hd).1,hl2,hh2];dsimp only;rw[yaa,yx];dsimp only;rw[Yn hd,TEnt.er];dsimp only;rw[if_pos (by simp[h3a,h3b,h3.2]),hH,(Zcq hnew).1,hlen]
  ·cases h
 ·cases h
def TEnt.rowQ:TEnt→Option (Nat×Nat×Nat)
 |.rowN t _ v _ _ pre post=>some (v.length,t.size,pre.length+post.length)
 |.rowM t _ v _ _ pre _ post=>some (v.length,t.size,pre.length+(post.length+1))
 |_=>none
theorem Zw5{L:Lk}{id:Nat}{v:List Unit}{s N:Nat}(h:Z8 L id (.sl (.st [])) none=([v,yy s (),yy N ()]:List (List Unit))):
 (TD.rw id).er L=.rv id v.length s 0 N∧∀path,(TD.rp id path).er L=.rref id v.length (Vh path) (path.map Stp.i):=by
 refine⟨?_,λpath=> ?_⟩
 ·rw[TD.er];unfold Zck;rw[h];show Dv.rv id v.length (yy s ()).length 0 (yy N ()).length=_;rw[ycp,ycp]
 ·rw[TD.er];unfold Zck;rw[h];rfl
theorem ZHP{id:Nat}{x:TEnt}{q:Nat×Nat×Nat}(hd:H[id]? =some x)(h:x.rowQ=some q):(TD.rw id).er (lk H)=.rv id q.1 q.2.1 0 q.2.2∧∀path,(TD.rp id path).er (lk H)=.rref id q.1 (Vh path) (path.map Stp.i):=by
 cases x <;> first|cases h|skip
 all_goals
  refine Zw5 ?_;unfold Z8 lk;dsimp only;rw[hd];rfl
end
end Go.Ev
end
section
namespace Go.Ev
abbrev TV:=Σ t:Ty,t.den
inductive Sh where
 |v (t:Ty)
 |elem (t:Ty)
 |nil (t:Ty)
 |sl (nn:Bool) (t:Ty)
 |own (j:Nat) (t:Ty)
 |ref (j:Nat) (path:List Stp)
 |mp (j:Nat)
 |rw(j:Nat)
 |rp (j s:Nat) (path:List Stp)
 |view (j:Nat) (path:List Stp) (s lo n:Nat)
 |fn (g:yv) (l:List Sh)
 |agg (l:List Sh)
 |arr (n s:Nat) (l:List Sh)
 |tup (l:List Sh)
 |iface (t:yb) (x:Sh)
 |ptr0|fn0|if0|map0
 |junk
instance:Inhabited Sh:=⟨.junk⟩
def Stp.beq:Stp→Stp→Bool
 |.fld i o,.fld j p=>decide (i=j)&&decide (o=p)
 |.ix i o,.ix j p=>decide (i=j)&&decide (o=p)
 |_,_=>false
def ZlO:List Stp→List Stp→Bool
 |[],[]=>true
 |q::r,p::s=>q.beq p&&ZlO r s
 |_,_=>false
theorem ZfF:∀{l m:List Stp},ZlO l m=true→l=m
 |[],[],_=>rfl
 |[],_::_,h=>by cases h
 |_::_,[],h=>by cases h
 |q::r,p::s,h=>by
  simp only[ZlO,yj] at h;rw[ZfF h.2];congr 1;cases q <;> cases p <;> simp[Stp.beq] at h <;> simp[h.1]
def TD.toT(L:Lk)(t:Ty):TD→Option t.den
 |.p x=>TP.to Zkz x t
 |.own id _ u c=>match t with
  |.sl w=>Ty.castL u w (Z8 L id u c)
  |_=>none
 |_=>none
theorem ZJM{L:Lk}{t:Ty}{d:TD}{y:t.den}(h:d.toT L t=some y):Wk (d.er L) (.p (t.enc y)):=by
 cases d with
 |p x=>exact Wk.p (Zyx (show TP.to Zkz x t=some y from h))
 |own id nn u c=>
  cases t with
  |sl w=>
   obtain⟨e,h2⟩:=ZK (show Ty.castL u w (Z8 L id u c)=some y from h)
   subst e;subst h2
   exact Wk.own_sl (PlsWk.refl _)
  |_=>cases h
 |_=>cases h
def ZK7(t:Ty):TD→Option t.den
 |.elem x=>TP.to Zkz x t
 |_=>none
theorem Wk.elem{x y:Pl}(h:PlWk x y):Wk (.elem x) (.elem y):=⟨rfl,rfl,λσ vs r=>by
 simp only[repD] at r ⊢;obtain⟨b,o,us,e,r1,r2⟩:=r;exact⟨b,o,us,e,h.rep _ _ _ r1,r2⟩⟩
theorem WkL.fn{f:yv}{ds es:List Dv}(h:WkL ds es):Wk (.fn f ds) (.fn f es):=⟨rfl,rfl,λσ vs r=>by
 simp only[repD] at r ⊢;obtain⟨fs,cs,e,e0,r⟩:=r;exact⟨fs,cs,e,e0,h.vs r⟩⟩
theorem WkL.sizes{ds es:List Dv}(h:WkL ds es)(s:Nat):(∀x,x∈ds→x.size=s)→∀x,x∈es→x.size=s:=by
 induction h with
 |nil=>intro _ x hx;cases hx
 |cons h k ih=>
  intro hh x hx;rcases List.mem_cons.1 hx with rfl|hx
  ·rw[←h.size];exact hh _ (yau ..)
  ·exact ih (λy hy=>hh y (yay _ hy)) x hx
theorem WkL.arr{n s:Nat}{ds es:List Dv}(h:WkL ds es):Wk (.arr n s ds) (.arr n s es):=⟨rfl,rfl,λσ vs r=>by
 simp only[repD] at r ⊢;obtain⟨r1,r2,r3⟩:=r;have:=(WkL.agg h).rep σ vs (by simp only[repD];exact r3);simp only[repD] at this;exact⟨by rw[←h.len];exact r1,h.sizes s r2,this⟩⟩
theorem Wk.iface{t:yb}{x y:Dv}(h:Wk x y):Wk (.iface t x) (.iface t y):=⟨rfl,rfl,λσ vs r=>by
 simp only[repD] at r ⊢;obtain⟨v,e,r1,r2⟩:=r;refine⟨v,e,λha=> ?_,λha=>h.rep _ _ (r2 (by rw[h.agg];exact ha))⟩;obtain⟨cs,e1,e2⟩:=r1 (by rw[h.agg];exact ha);exact⟨cs,e1,h.rep _ _ e2⟩⟩
mutual
def Sh.mt(L:Lk):Sh→TD→Option (TD×List TV)
 |.v t,d=>(d.toT L t).map λy=>(.p (.v t y),[⟨t,y⟩])
 |.elem t,d=>(ZK7 t d).map λy=>(.elem (.v t y),[⟨t,y⟩])
 |.nil t,d=>match d with
  |.p x=>if x.nilT t=true then some (.p (.sl (some false) t []),[]) else none
  |_=>none
 |.sl nn t,d=>match d with
  |.p (.sl (some b) u xs)=>if b=nn then(Ty.castL u t xs).map λy=>(.p (.sl (some nn) t y),[⟨.sl t,y⟩]) else none
  |_=>none
 |.own j t,d=>match d with
  |.own id _ u none=>if id=j∧u=t then some (.own j none t none,[]) else none
  |_=>none
 |.ref j p,d=>match d with
  |.ref id q=>if id=j∧ZlO p q=true then some (.ref j p,[]) else none
  |_=>none
 |.mp j,d=>match d with
  |.mp id=>if id=j then some (.mp j,[]) else none
  |_=>none
 |.rw j,d=>match d with
  |.rw id=>if id=j then some (.rw j,[]) else none
  |_=>none
 |.rp j s p,d=>match d with
  |.rp id (.ix i s'::q)=>if id=j∧s'=s∧ZlO p q=true then some (.rp j (.ix i s::p),[⟨.int .i64,(i:Int)⟩]) else none
  |_=>none
 |.view j p s lo n,d=>match d with
  |.view id q s' lo' n'=>if id=j∧ZlO p q=true∧s=s'∧lo=lo'∧n=n' then some (.view j p s lo n,[]) else none
  |_=>none
 |.fn g l,d=>match d with
  |.fn f ds=>if f=g then(Sh.mts L l ds).map λq=>(.fn g q.1,q.2) else none
  |_=>none
 |.agg l,d=>match d with
  |.agg ds=>(Sh.mts L l ds).map λq=>(.agg q.1,q.2)
  |_=>none
 |.arr n s l,d=>match d with
  |.arr m s' ds=>if m=n∧s'=s then(Sh.mts L l ds).map λq=>(.arr n s q.1,q.2) else none
  |_=>none
 |.tup l,d=>match d with
  |.tup ds=>(Sh.mts L l ds).map λq=>(.tup q.1,q.2)
  |_=>none
 |.iface t x,d=>match d with
  |.iface u y=>if u=t then(Sh.mt L x y).map λq=>(.iface t q.1,q.2) else none
  |_=>none
 |.ptr0,d=>match d with
  |.p .ptr0=>some (.p .ptr0,[])
  |_=>none
 |.fn0,d=>match d with
  |.p .fn0=>some (.p .fn0,[])
  |_=>none
 |.if0,d=>match d with
  |.p .if0=>some (.p .if0,[])
  |_=>none
 |.map0,d=>match d with
  |.p .map0=>some (.p .map0,[])
  |_=>none
 |.junk,d=>if(d.er L).size=1∧(d.er L).isAgg=false then some (.junk,[]) else none
def Sh.mts(L:Lk):List Sh→List TD→Option (List TD×List TV)
 |[],ds=>match ds with
  |[]=>some ([],[])
  |_=>none
 |s::r,ds=>match ds with
  |d::q=>match Sh.mt L s d,Sh.mts L r q with
   |some a,some b=>some (a.1::b.1,a.2++b.2)
   |_,_=>none
  |[]=>none
end
mutual
def Sh.fill:Sh→List TV→Option (TD×List TV)
 |.v t,vs=>match vs with
  |x::r=>(Ty.cast x.1 t x.2).map λy=>(.p (.v t y),r)
  |[]=>none
 |.elem t,vs=>match vs with
  |x::r=>(Ty.cast x.1 t x.2).map λy=>(.elem (.v t y),r)
  |[]=>none
 |.nil t,vs=>some (.p (.sl (some false) t []),vs)
 |.sl nn t,vs=>match vs with
  |x::r=>(Ty.cast x.1 (.sl t) x.2).map λ(y:List t.den)=>(.p (.sl (some nn) t y),r)
  |[]=>none
 |.own j t,vs=>some (.own j none t none,vs)
 |.ref j p,vs=>some (.ref j p,vs)
 |.mp j,vs=>some (.mp j,vs)
 |.rw j,vs=>some (.rw j,vs)
 |.rp j s p,vs=>match vs with
  |x::r=>(Ty.cast x.1 (.int .i64) x.2).map λ(i:Int)=>(.rp j (.ix i.toNat s::p),r)
  |[]=>none
 |.view j p s lo n,vs=>some (.view j p s lo n,vs)
 |.fn g l,vs=>(Sh.fills l vs).map λq=>(.fn g q.1,q.2)
 |.agg l,vs=>(Sh.fills l vs).map λq=>(.agg q.1,q.2)
 |.arr n s l,vs=>(Sh.fills l vs).map λq=>(.arr n s q.1,q.2)
 |.tup l,vs=>(Sh.fills l vs).map λq=>(.tup q.1,q.2)
 |.iface t x,vs=>(Sh.fill x vs).map λq=>(.iface t q.1,q.2)
 |.ptr0,vs=>some (.p .ptr0,vs)
 |.fn0,vs=>some (.p .fn0,vs)
 |.if0,vs=>some (.p .if0,vs)
 |.map0,vs=>some (.p .map0,vs)
 |.junk,vs=>some (.junk,vs)
def Sh.fills:List Sh→List TV→Option (List TD×List TV)
 |[],vs=>some ([],vs)
 |s::r,vs=>(Sh.fill s vs).bind λa=>(Sh.fills r a.2).map λb=>(a.1::b.1,b.2)
end
theorem Y6(t:Ty)(x:t.den):Ty.cast t t x=some x:=by
 unfold Ty.cast;split
 ·rfl
 ·rename_i h _;exact absurd rfl h
mutual
theorem ZlP{L:Lk}:∀(s:Sh)(d:TD)(q:TD×List TV),s.mt L d=some q→∀rest,s.fill (q.2++rest)=some (q.1,rest)
 |.v t,d,q,h,rest=>by
  simp only[Sh.mt] at h;obtain⟨y,_,rfl⟩:=Zc h
  simp[Sh.fill,Y6]
 |.elem t,d,q,h,rest=>by
  simp only[Sh.mt] at h;obtain⟨y,_,rfl⟩:=Zc h
  simp[Sh.fill,Y6]
 |.nil t,d,q,h,rest=>by
  simp only[Sh.mt] at h;split at h
  ·split at h <;> cases h;rfl
  ·cases h
 |.sl nn t,d,q,h,rest=>by
  simp only[Sh.mt] at h;split at h
  ·split at h
   ·obtain⟨w,h1,rfl⟩:=Zc h;exact congrArg (Option.map λ(y:List t.den)=>(TD.p (.sl (some nn) t y),rest)) (Y6 (.sl t) w)
   ·cases h
  ·cases h
 |.own j t,d,q,h,rest=>by
  simp only[Sh.mt] at h;split at h
  ·split at h <;> cases h;rfl
  ·cases h
 |.ref j p,d,q,h,rest=>by
  simp only[Sh.mt] at h;split at h
  ·split at h <;> cases h;rfl
  ·cases h
 |.mp j,d,q,h,rest=>by
  simp only[Sh.mt] at h;split at h
  ·split at h <;> cases h;rfl
  ·cases h
 |.rw j,d,q,h,rest=>by
  simp only[Sh.mt] at h;split at h
  ·split at h <;> cases h;rfl
  ·cases h
 |.rp j s p,d,q,h,rest=>by
  simp only[Sh.mt] at h;split at h
  ·rename_i id i s' q';split at h
   ·cases h;exact congrArg (Option.map λ(i:Int)=>(TD.rp j (.ix i.toNat s::p),rest)) (Y6 (.int .i64) (i:Int))
   ·cases h
  ·cases h
 |.view j p s lo n,d,q,h,rest=>by
  simp only[Sh.mt] at h;split at h
  ·split at h <;> cases h;rfl
  ·cases h
 |.fn g l,d,q,h,rest=>by
  simp only[Sh.mt] at h;split at h
  ·split at h
   ·obtain⟨w,h1,rfl⟩:=Zc h;simp only[Sh.fill,mts_fills l _ w h1 rest,yab]
   ·cases h
  ·cases h
 |.agg l,d,q,h,rest=>by
  simp only[Sh.mt] at h;split at h
  ·obtain⟨w,h1,rfl⟩:=Zc h;simp only[Sh.fill,mts_fills l _ w h1 rest,yab]
  ·cases h
 |.arr n s l,d,q,h,rest=>by
  simp only[Sh.mt] at h;split at h
  ·split at h
   ·obtain⟨w,h1,rfl⟩:=Zc h;simp only[Sh.fill,mts_fills l _ w h1 rest,yab]
   ·cases h
  ·cases h
 |.tup l,d,q,h,rest=>by
  simp only[Sh.mt] at h;split at h
  ·obtain⟨w,h1,rfl⟩:=Zc h;simp only[Sh.fill,mts_fills l _ w h1 rest,yab]
  ·cases h
 |.iface t x,d,q,h,rest=>by
  simp only[Sh.mt] at h;split at h
  ·split at h
   ·obtain⟨w,h1,rfl⟩:=Zc h;simp only[Sh.fill,ZlP x _ w h1 rest,yab]
   ·cases h
  ·cases h
 |.ptr0,d,q,h,rest=>by
  simp only[Sh.mt] at h
  split at h <;> cases h;rfl
 |.fn0,d,q,h,rest=>by
  simp only[Sh.mt] at h
  split at h <;> cases h;rfl
 |.if0,d,q,h,rest=>by
  simp only[Sh.mt] at h
  split at h <;> cases h;rfl
 |.map0,d,q,h,rest=>by
  simp only[Sh.mt] at h
  split at h <;> cases h;rfl
 |.junk,d,q,h,rest=>by
  simp only[Sh.mt] at h;split at h <;> cases h;rfl
theorem mts_fills{L:Lk}:∀(l:List Sh)(ds:List TD)(q:List TD×List TV),Sh.mts L l ds=some q→∀rest,Sh.fills l (q.2++rest)=some (q.1,rest)
 |[],ds,q,h,rest=>by
  simp only[Sh.mts] at h
  split at h <;> cases h;rfl
 |s::r,ds,q,h,rest=>by
  simp only[Sh.mts] at h;split at h
  ·split at h
   ·rename_i a b h1 h2;cases h;simp only[Sh.fills,yaj,ZlP s _ a h1,ya,mts_fills r _ b h2,yab]
   ·cases h
  ·cases h
end
mutual
theorem ZsS{L M:Lk}(hL:∀id t,Z8 L id t none=Z8 M id t none):∀(s:Sh)(d:TD)(q:TD×List TV),s.mt L d=some q→Wk (d.er L) (q.1.er M)
 |.v t,d,q,h=>by
  simp only[Sh.mt] at h;obtain⟨y,h1,rfl⟩:=Zc h
  exact ZJM h1
 |.elem t,d,q,h=>by
  simp only[Sh.mt] at h;obtain⟨y,h1,rfl⟩:=Zc h;cases d <;> first|cases h1|skip
  exact Wk.elem (Zyx h1)
 |.nil t,d,q,h=>by
  simp only[Sh.mt] at h;split at h
  ·split at h
   ·rename_i hn;cases h;refine Wk.of_eq ?_;rw[TD.er,ZBV hn];rfl
   ·cases h
  ·cases h
 |.sl nn t,d,q,h=>by
  simp only[Sh.mt] at h;split at h
  ·split at h
   ·rename_i e;subst e;obtain⟨w,h1,rfl⟩:=Zc h;obtain⟨e,h2⟩:=ZK h1;subst e;subst h2;exact Wk.refl _
   ·cases h
  ·cases h
 |.own j t,d,q,h=>by
  simp only[Sh.mt] at h;split at h
  ·split at h
   ·rename_i e;obtain⟨rfl,rfl⟩:=e;cases h;rw[TD.er,TD.er,hL];exact Wk.own rfl
   ·cases h
  ·cases h
 |.ref j p,d,q,h=>by
  simp only[Sh.mt] at h;split at h
  ·split at h
   ·rename_i e;obtain⟨rfl,e⟩:=e;cases h;rw[ZfF e];exact Wk.refl _
   ·cases h
  ·cases h
 |.mp j,d,q,h=>by
  simp only[Sh.mt] at h;split at h
  ·split at h
   ·rename_i e;subst e;cases h;exact Wk.refl _
   ·cases h
  ·cases h
 |.rw j,d,q,h=>by
  simp only[Sh.mt] at h;split at h
  ·split at h
   ·rename_i e;subst e;cases h;refine Wk.of_eq ?_;rw[TD.er,TD.er];simp only[Zck,hL]
   ·cases h
  ·cases h
 |.rp j s p,d,q,h=>by
  simp only[Sh.mt] at h;split at h
  ·split at h
   ·rename_i e;obtain⟨rfl,rfl,e⟩:=e;cases h;rw[ZfF e];refine Wk.of_eq ?_;rw[TD.er,TD.er];simp only[Zck,hL]
   ·cases h
  ·cases h
 |.view j p s lo n,d,q,h=>by
  simp only[Sh.mt] at h;split at h
  ·split at h
   ·rename_i e;obtain⟨rfl,e,rfl,rfl,rfl⟩:=e;cases h;rw[ZfF e];exact Wk.refl _
   ·cases h
  ·cases h
 |.fn g l,d,q,h=>by
  simp only[Sh.mt] at h;split at h
  ·split at h
   ·rename_i e;subst e;obtain⟨w,h1,rfl⟩:=Zc h;exact WkL.fn (mts_wk hL l _ w h1)
   ·cases h
  ·cases h
 |.agg l,d,q,h=>by
  simp only[Sh.mt] at h;split at h
  ·obtain⟨w,h1,rfl⟩:=Zc h;exact WkL.agg (mts_wk hL l _ w h1)
  ·cases h
 |.arr n s l,d,q,h=>by
  simp only[Sh.mt] at h;split at h
  ·split at h
   ·rename_i e;obtain⟨rfl,rfl⟩:=e;obtain⟨w,h1,rfl⟩:=Zc h;exact WkL.arr (mts_wk hL l _ w h1)
   ·cases h
  ·cases h
 |.tup l,d,q,h=>by
  simp only[Sh.mt] at h;split at h
  ·obtain⟨w,h1,rfl⟩:=Zc h;exact WkL.tup (mts_wk hL l _ w h1)
  ·cases h
 |.iface t x,d,q,h=>by
  simp only[Sh.mt] at h;split at h
  ·split at h
   ·rename_i e;subst e;obtain⟨w,h1,rfl⟩:=Zc h;exact Wk.iface (ZsS hL x _ w h1)
   ·cases h
  ·cases h
 |.ptr0,d,q,h=>by
  simp only[Sh.mt] at h
  split at h <;> cases h;exact Wk.refl _
 |.fn0,d,q,h=>by
  simp only[Sh.mt] at h
  split at h <;> cases h;exact Wk.refl _
 |.if0,d,q,h=>by
  simp only[Sh.mt] at h
  split at h <;> cases h;exact Wk.refl _
 |.map0,d,q,h=>by
  simp only[Sh.mt] at h
  split at h <;> cases h;exact Wk.refl _
 |.junk,d,q,h=>by
  simp only[Sh.mt] at h;split at h
  ·rename_i e;cases h;exact Wk.junk e.2 e.1
  ·cases h
theorem mts_wk{L M:Lk}(hL:∀id t,Z8 L id t none=Z8 M id t none):∀(l:List Sh)(ds:List TD)(q:List TD×List TV),Sh.mts L l ds=some q→WkL (TD.ers L ds) (TD.ers M q.1)
 |[],ds,q,h=>by
  simp only[Sh.mts] at h
  split at h <;> cases h;exact .nil
 |s::r,ds,q,h=>by
  simp only[Sh.mts] at h;split at h
  ·split at h
   ·rename_i a b h1 h2;cases h;exact .cons (ZsS hL s _ a h1) (mts_wk hL r _ b h2)
   ·cases h
  ·cases h
end
inductive ESh where
 |var (s:Sh) (st:Bool)
 |log (t:Ty) (e:yb)
 |map (tid:yb) (k v:Ty)
 |row (t:Ty) (st:Bool) (e:yb)
 |rowN (t:Ty) (np:List Nat) (st:Bool) (e:yb)
 |rowM (t:Ty) (np:List Nat) (st:Bool) (e:yb) (s:Sh)
 |gone
def Qz(k v:Ty):Ty:=.sl (.st [k,v])
def ZJN(L:Lk)(t:Ty)(d:TD):Option t.den:=(d.flat L).bind λx=>TP.to Zkz x t
theorem ZBY{L:Lk}{t:Ty}{d:TD}{y:t.den}(h:ZJN L t d=some y):Wk (d.er L) (.p (t.enc y)):=by
 obtain⟨x,h1,h2⟩:=yf.1 h;have hf:(d.er L).flat=some x.pe:=by rw[ZrP,h1];rfl
 have hw:Wk (d.er L) (.p x.pe):=⟨(Zpq _ _ hf).symm,(Zx0 hf).symm,λσ vs r=>by simp only[repD];exact ZlC _ _ _ hf r⟩;have hz:=Zyx h2;exact⟨hw.size.trans hz.size,hw.agg.trans hz.agg,λσ vs r=>(Wk.p hz).rep σ vs (hw.rep σ vs r)⟩
def ESh.mt(L:Lk):ESh→TEnt→Option (TEnt×List TV)
 |.var s st,.var d st'=>if st=st'∨st=false then(s.mt L d).map λq=>(.var q.1 st,q.2) else none
 |.log t e,.log u e' xs=>if e=e' then(Ty.castL u t xs).map λys=>(.log t e ys,[⟨.sl t,ys⟩]) else none
 |.map tid k v,.map tid' k' v' l=>if tid=tid' then(Ty.cast (Qz k' v') (Qz k v) l).map λ(m:List (k.den×v.den))=>(.map tid k v m,[⟨Qz k v,m⟩]) else none
 |.row t st e,.rowT u v st' e' xs=>if(st=st'∨st=false)∧e=e' then(Ty.castL u t xs).map λys=>(.rowT t v st e ys,[⟨.sl (.st []),v⟩,⟨.sl t,ys⟩]) else none
 |.rowN t np st e,.rowN u np' v st' e' pre post=>if(st=st'∨st=false)∧e=e'∧np=np' then(Ty.castL u t pre).bind λys=>(Ty.castL u t post).map λzs=>
   (.rowN t np v st e ys zs,[⟨.sl (.st []),v⟩,⟨.sl t,ys⟩,⟨.sl t,zs⟩]) else none
 |.rowN t np st e,.rowM u np' v st' e' pre mid post=>if st=st'∧e=e'∧np=np' then(Ty.castL u t pre).bind λys=>(Ty.castL u t post).bind λzs=>(ZJN L t mid).map λy=>
   (.rowN t np v st e (ys++[y]) zs,[⟨.sl (.st []),v⟩,⟨.sl t,ys++[y]⟩,⟨.sl t,zs⟩]) else none
 |.rowM t np st e s,.rowM u np' v st' e' pre mid post=>if st=st'∧e=e'∧np=np' then(Ty.castL u t pre).bind λys=>(Ty.castL u t post).bind λzs=>(s.mt L mid).map λq=>
   (.rowM t np v st e ys q.1 zs,[⟨.sl (.st []),v⟩,⟨.sl t,ys⟩,⟨.sl t,zs⟩]++q.2) else none
 |.gone,.gone=>some (.gone,[])
 |_,_=>none
def ESh.fill:ESh→List TV→Option (TEnt×List TV)
 |.var s st,vs=>(s.fill vs).map λq=>(.var q.1 st,q.2)
 |.log t e,vs=>match vs with
  |x::r=>(Ty.cast x.1 (.sl t) x.2).map λ(y:List t.den)=>(.log t e y,r)
  |[]=>none
 |.map tid k v,vs=>match vs with
  |x::r=>(Ty.cast x.1 (Qz k v) x.2).map λ(y:List (k.den×v.den))=>(.map tid k v y,r)
  |[]=>none
 |.row t st e,vs=>match vs with
  |x::y::r=>(Ty.cast x.1 (.sl (.st [])) x.2).bind λ(v:List Unit)=>(Ty.cast y.1 (.sl t) y.2).map λ(l:List t.den)=>(.rowT t v st e l,r)
  |_=>none
 |.rowN t np st e,vs=>match vs with
  |x::y::z::r=>(Ty.cast x.1 (.sl (.st [])) x.2).bind λ(v:List Unit)=>(Ty.cast y.1 (.sl t) y.2).bind λ(l:List t.den)=>(Ty.cast z.1 (.sl t) z.2).bind λ(m:List t.den)=>some (.rowN t np v st e l m,r)
  |_=>none
 |.rowM t np st e s,vs=>match vs with
  |x::y::z::r=>(Ty.cast x.1 (.sl (.st [])) x.2).bind λ(v:List Unit)=>(Ty.cast y.1 (.sl t) y.2).bind λ(l:List t.den)=>(Ty.cast z.1 (.sl t) z.2).bind λ(m:List t.den)=>
   (s.fill r).map λq=>(.rowM t np v st e l q.1 m,q.2)
  |_=>none
 |.gone,vs=>some (.gone,vs)
def ESh.mts(L:Lk):List ESh→List TEnt→Option (List TEnt×List TV)
 |[],[]=>some ([],[])
 |s::r,d::q=>match ESh.mt L s d,ESh.mts L r q with
  |some a,some b=>some (a.1::b.1,a.2++b.2)
  |_,_=>none
 |_,_=>none
def ESh.fills:List ESh→List TV→Option (List TEnt×List TV)
 |[],vs=>some ([],vs)
 |s::r,vs=>(ESh.fill s vs).bind λa=>(ESh.fills r a.2).map λb=>(a.1::b.1,b.2)
theorem ZFn{O:Type}{t:Ty}(v:List Unit)(a b:List t.den)(k:List Unit→List t.den→List t.den→Option O):
 ((Ty.cast (.sl (.st [])) (.sl (.st [])) v).bind λ(v:List Unit)=>(Ty.cast (.sl t) (.sl t) a).bind λ(l:List t.den)=>(Ty.cast (.sl t) (.sl t) b).bind λ(m:List t.den)=>k v l m)=k v a b:=by
 have e1:=Y6 (.sl (.st [])) v;have e2:=Y6 (.sl t) a;have e3:=Y6 (.sl t) b;rw[e1,e2,e3];rfl
theorem ZFo{L:Lk}{s:ESh}{d:TEnt}{q:TEnt×List TV}(h:s.mt L d=some q)(rest:List TV):s.fill (q.2++rest)=some (q.1,rest):=by
 unfold ESh.mt at h;split at h
 ·split at h
  ·obtain⟨w,h1,rfl⟩:=Zc h;simp only[ESh.fill,ZlP _ _ w h1 rest,yab]
  ·cases h
 ·split at h
  ·obtain⟨w,h1,rfl⟩:=Zc h;rename_i t e _ _ _ _;exact congrArg (Option.map λ(y:List t.den)=>(TEnt.log t e y,rest)) (Y6 (.sl t) w)
  ·cases h
 ·split at h
  ·obtain⟨w,h1,rfl⟩:=Zc h;rename_i tid k v _ _ _ _ _;exact congrArg (Option.map λ(y:List (k.den×v.den))=>(TEnt.map tid k v y,rest)) (Y6 (Qz k v) w)
  ·cases h
 ·split at h
  ·obtain⟨w,h1,rfl⟩:=Zc h;rename_i t st e _ v _ _ _ _;have e1:=Y6 (.sl (.st [])) v;have e2:=Y6 (.sl t) w;show((Ty.cast (.sl (.st [])) (.sl (.st [])) v).bind λ(v:List Unit)=>(Ty.cast (.sl t) (.sl t) w).map λ(l:List t.den)=>(TEnt.rowT t v st e l,rest))=_;rw[e1,e2];rfl
  ·cases h
 ·rename_i t np st e u np' v st' e' pre post;split at h
  ·obtain⟨a,h1,h⟩:=yf.1 h;obtain⟨b,h2,rfl⟩:=Zc h;exact ZFn v a b (λv l m=>some (TEnt.rowN t np v st e l m,rest))
  ·cases h
 ·rename_i t np st e u np' v st' e' pre mid post;split at h
  ·obtain⟨a,h1,h⟩:=yf.1 h;obtain⟨b,h2,h⟩:=yf.1 h;obtain⟨c,h3,rfl⟩:=Zc h;exact ZFn v (a++[c]) b (λv l m=>some (TEnt.rowN t np v st e l m,rest))
  ·cases h
 ·rename_i t np st e s u np' v st' e' pre mid post;split at h
  ·obtain⟨a,h1,h⟩:=yf.1 h;obtain⟨b,h2,h⟩:=yf.1 h;obtain⟨c,h3,rfl⟩:=Zc h;have:=ZFn v a b (λv l m=>(s.fill (c.2++rest)).map λq=>(TEnt.rowM t np v st e l q.1 m,q.2));refine this.trans ?_;rw[ZlP _ _ c h3 rest];rfl
  ·cases h
 ·cases h;rfl
 ·cases h
theorem Za4{L:Lk}:∀{l:List ESh}{H:List TEnt}{q:List TEnt×List TV},ESh.mts L l H=some q→∀rest,ESh.fills l (q.2++rest)=some (q.1,rest)
 |[],[],q,h,rest=>by cases h;rfl
 |[],_::_,q,h,rest=>by cases h
 |_::_,[],q,h,rest=>by cases h
 |s::r,d::H,q,h,rest=>by
  simp only[ESh.mts] at h;split at h
  ·rename_i a b h1 h2;cases h;simp only[ESh.fills,yaj,ZFo h1,ya,Za4 h2,yab]
  ·cases h
theorem ZJO{L:Lk}{s:ESh}{d:TEnt}{q:TEnt×List TV}(h:s.mt L d=some q):lkE (some q.1)=lkE (some d):=by
 unfold ESh.mt at h;split at h
 ·split at h
  ·obtain⟨w,h1,rfl⟩:=Zc h;rfl
  ·cases h
 ·split at h
  ·obtain⟨w,h1,rfl⟩:=Zc h;obtain⟨e,h2⟩:=ZK h1;subst e;subst h2;rfl
  ·cases h
 ·split at h
  ·obtain⟨w,h1,rfl⟩:=Zc h;rfl
  ·cases h
 ·split at h
  ·obtain⟨w,h1,rfl⟩:=Zc h;obtain⟨e,h2⟩:=ZK h1;subst e;subst h2;rfl
  ·cases h
 ·split at h
  ·obtain⟨a,h1,h⟩:=yf.1 h;obtain⟨b,h2,rfl⟩:=Zc h;obtain⟨e,h3⟩:=ZK h1;subst e;obtain⟨_,h4⟩:=ZK h2;subst h3;subst h4;rfl
  ·cases h
 ·split at h
  ·obtain⟨a,h1,h⟩:=yf.1 h;obtain⟨b,h2,h⟩:=yf.1 h;obtain⟨c,h3,rfl⟩:=Zc h;obtain⟨e,h4⟩:=ZK h1;subst e;obtain⟨_,h5⟩:=ZK h2;subst h4;subst h5;simp only[lkE,yp,yae,ycq];rw[ycg,Nat.add_comm (0+1)]
  ·cases h
 ·split at h
  ·obtain⟨a,h1,h⟩:=yf.1 h;obtain⟨b,h2,h⟩:=yf.1 h;obtain⟨c,h3,rfl⟩:=Zc h;obtain⟨e,h4⟩:=ZK h1;subst e;obtain⟨_,h5⟩:=ZK h2;subst h4;subst h5;rfl
  ·cases h
 ·cases h;rfl
 ·cases h
theorem Zh0{L:Lk}:∀{l:List ESh}{H:List TEnt}{q:List TEnt×List TV},ESh.mts L l H=some q→q.1.length=H.length∧lk q.1=lk H
 |[],[],q,h=>by cases h;exact⟨rfl,rfl⟩
 |[],_::_,q,h=>by cases h
 |_::_,[],q,h=>by cases h
 |s::r,d::H,q,h=>by
  simp only[ESh.mts] at h;split at h
  ·rename_i a b h1 h2;cases h;obtain⟨e1,e2⟩:=Zh0 h2;refine⟨by simp[e1],funext λi=> ?_⟩
   cases i with
   |zero=>exact ZJO h1
   |succ i=>exact congrFun e2 i
  ·cases h
theorem ZBZ:∀(l:List Dv){m m':List Dv},WkL m m'→WkL (l++m) (l++m')
 |[],_,_,h=>h
 |x::l,_,_,h=>.cons (Wk.refl x) (ZBZ l h)
theorem ZB0{l m:List Dv}{d d':Dv}(h:Wk d d'):WkL (l++d::m) (l++d'::m):=ZBZ l (.cons h (WkL.refl m))
theorem ZFp{n s:Nat}(xs:List Pl):Wk (.arr n s (xs.map .p)) (.p (.arr n s xs)):=⟨rfl,rfl,λσ vs r=>by
 simp only[repD,repC] at r ⊢;obtain⟨h1,h2,h3⟩:=r;exact⟨by simpa using h1,λx hx=>h2 (.p x) (List.mem_map_of_mem hx),ZiA.1 h3⟩⟩
theorem ZJP{n s:Nat}{d:Dv}{x:Pl}(l m:List Pl)(h:Wk d (.p x)):Wk (.arr n s (l.map .p++d::m.map .p)) (.p (.arr n s (l++x::m))):=by
 have h1:Wk (.arr n s (l.map .p++d::m.map .p)) (.arr n s (l.map .p++.p x::m.map .p)):=WkL.arr (ZB0 h);have h2:=ZFp (n:=n) (s:=s) (l++x::m);rw[yav,yag] at h2;exact⟨rfl,rfl,λσ vs r=>h2.rep σ vs (h1.rep σ vs r)⟩
theorem ZB1{L M:Lk}{t:Ty}{np:List Nat}{v:List Unit}{st:Bool}{e:yb}{a b:List t.den}{mid:TD}{c:t.den}(hw:Wk (mid.er L) (.p (t.enc c))):
 WkE ((TEnt.rowM t np v st e a mid b).er L) ((TEnt.rowN t np v st e (a++[c]) b).er M):=by
 have h:=ZJP (a.map t.enc) (b.map λx=>(Zvg np (.v t x)).pe) (n:=a.length+(b.length+1)) (s:=t.size) hw;rw[ybd,ybd] at h;have e1:(a++[c]).length+b.length=a.length+(b.length+1):=by rw[yp,yae,ycq];omega
 have e2:(a++[c]).map t.enc++(b.map λx=>(Zvg np (.v t x)).pe)=a.map t.enc++t.enc c::b.map λx=>(Zvg np (.v t x)).pe:=by rw[yav,yaj];rfl
 rw[TEnt.er,TEnt.er,e1,e2];exact .row ⟨h,rfl⟩
theorem ZJQ{L M:Lk}(hL:∀id t,Z8 L id t none=Z8 M id t none){s:ESh}{d:TEnt}{q:TEnt×List TV}(h:s.mt L d=some q):WkE (d.er L) (q.1.er M):=by
 unfold ESh.mt at h;split at h
 ·split at h
  ·rename_i e;obtain⟨w,h1,rfl⟩:=Zc h;rcases e with e|e
   ·subst e;exact .var (ZsS hL _ _ w h1)
   ·subst e;exact .varz (ZsS hL _ _ w h1)
  ·cases h
 ·split at h
  ·rename_i e;subst e;obtain⟨w,h1,rfl⟩:=Zc h;obtain⟨e,h2⟩:=ZK h1;subst e;subst h2;exact .refl _
  ·cases h
 ·split at h
  ·rename_i e;subst e;obtain⟨w,h1,rfl⟩:=Zc h;obtain⟨e,h2⟩:=Zbh h1;unfold Qz at e;simp only[Ty.sl.injEq,Ty.st.injEq,List.cons.injEq,and_true] at e;obtain⟨e1,e2⟩:=e;subst e1;subst e2;subst h2;exact .refl _
  ·cases h
 ·split at h
  ·rename_i e;obtain⟨e0,e1⟩:=e;subst e1;obtain⟨w,h1,rfl⟩:=Zc h;obtain⟨e,h2⟩:=ZK h1;subst e;subst h2;rcases e0 with e0|e0
   ·subst e0;exact .refl _
   ·subst e0;exact .lock
  ·cases h
 ·split at h
  ·rename_i e;obtain⟨e0,e1,e2⟩:=e;subst e1;subst e2;obtain⟨a,h1,h⟩:=yf.1 h;obtain⟨b,h2,rfl⟩:=Zc h;obtain⟨e,h3⟩:=ZK h1;subst e;obtain⟨_,h4⟩:=ZK h2;subst h3;subst h4;rcases e0 with e0|e0
   ·subst e0;exact .refl _
   ·subst e0;exact .lock
  ·cases h
 ·rename_i _ _ _ _ _ _ _ _ _ pre mid post;split at h
  ·rename_i e;obtain⟨e0,e1,e2⟩:=e;subst e0;subst e1;subst e2;obtain⟨a,h1,h⟩:=yf.1 h;obtain⟨b,h2,h⟩:=yf.1 h;obtain⟨c,h3,rfl⟩:=Zc h;obtain⟨e,h4⟩:=ZK h1;subst e;obtain⟨_,h5⟩:=ZK h2;subst h4;subst h5;exact ZB1 (ZBY h3)
  ·cases h
 ·split at h
  ·rename_i e;obtain⟨e0,e1,e2⟩:=e;subst e0;subst e1;subst e2;obtain⟨a,h1,h⟩:=yf.1 h;obtain⟨b,h2,h⟩:=yf.1 h;obtain⟨c,h3,rfl⟩:=Zc h;obtain⟨e,h4⟩:=ZK h1;subst e;obtain⟨_,h5⟩:=ZK h2;subst h4;subst h5;rw[TEnt.er,TEnt.er];exact .row ⟨WkL.arr (ZB0 (ZsS hL _ _ c h3)),rfl⟩
  ·cases h
 ·cases h;exact .refl _
 ·cases h
theorem ZlQ{L M:Lk}(hL:∀id t,Z8 L id t none=Z8 M id t none):∀{l:List ESh}{H:List TEnt}{q:List TEnt×List TV},ESh.mts L l H=some q→WkH (H.map (TEnt.er L)) (q.1.map (TEnt.er M))
 |[],[],q,h=>by cases h;exact .nil
 |[],_::_,q,h=>by cases h
 |_::_,[],q,h=>by cases h
 |s::r,d::H,q,h=>by
  simp only[ESh.mts] at h;split at h
  ·rename_i a b h1 h2;cases h;exact .cons (ZJQ hL h1) (ZlQ hL h2)
  ·cases h
def ofD:(ts:List Ty)→Ty.dens ts→List TV
 |[],_=>[]
 |[t],x=>[⟨t,x⟩]
 |t::u::r,x=>⟨t,x.1⟩::ofD (u::r) x.2
def toD:(ts:List Ty)→List TV→Option (Ty.dens ts)
 |[],[]=>some ()
 |[t],[x]=>Ty.cast x.1 t x.2
 |t::u::r,x::l=>Zmz (Ty.cast x.1 t x.2) (toD (u::r) l)
 |_,_=>none
theorem Zc9:∀(ts:List Ty)(l:List TV)(x:Ty.dens ts),toD ts l=some x→ofD ts x=l
 |[],[],x,h=>rfl
 |[],_::_,x,h=>by cases h
 |[t],[],x,h=>by cases h
 |[t],[y],x,h=>by
  obtain⟨e,h2⟩:=Zbh (show Ty.cast y.1 t y.2=some x from h)
  obtain⟨u,y⟩:=y;dsimp only at e h2;subst e;subst h2
  rfl
 |[t],_::_::_,x,h=>by cases h
 |t::u::r,[],x,h=>by cases h
 |t::u::r,y::l,x,h=>by
  obtain⟨h1,h2⟩:=Za2 (α:=t.den) (β:=Ty.dens (u::r)) (show Zmz (Ty.cast y.1 t y.2) (toD (u::r) l)=some x from h)
  obtain⟨e,h3⟩:=Zbh h1;obtain⟨u',y⟩:=y;dsimp only at e h3;subst e;have:=Zc9 (u::r) l x.2 h2;show(⟨u',x.1⟩:TV)::ofD (u::r) x.2=_;rw[this,h3]
abbrev Slots:=List (Nat×Sh)
def shs(sl:Slots)(n:Nat):List Sh:=(yw n).map λi=>(sl.lookup i).getD .junk
def V2(n:Nat)(sl:Slots)(es:List ESh)(vs:List TV):Option (List TD×List TEnt):=
 (Sh.fills (shs sl n) vs).bind λq=>(ESh.fills es q.2).bind λw=>if w.2.isEmpty then some (q.1,w.1) else none
theorem ZlR:∀{l:List Sh}{vs:List TV}{q:List TD×List TV},Sh.fills l vs=some q→q.1.length=l.length
 |[],vs,q,h=>by simp only[Sh.fills] at h;cases h;rfl
 |s::r,vs,q,h=>by
  simp only[Sh.fills] at h;obtain⟨a,h1,h⟩:=yf.1 h;obtain⟨b,h2,rfl⟩:=Zc h;simp[ZlR h2]
theorem Zh1{n:Nat}{sl:Slots}{es:List ESh}{vs:List TV}{q:List TD×List TEnt}(h:V2 n sl es vs=some q):q.1.length=n:=by
 unfold V2 at h;obtain⟨a,h1,h⟩:=yf.1 h;obtain⟨b,h2,h⟩:=yf.1 h;split at h
 ·cases h;rw[ZlR h1];simp[shs]
 ·cases h
structure XSh where
 ex:Ex
 sl:Slots
 es:List ESh
 ty:List Ty
def XSh.sum:List XSh→Type
 |[]=>Empty
 |[e]=>Ty.dens e.ty
 |e::f::r=>Ty.dens e.ty⊕XSh.sum (f::r)
abbrev Kc(O:Type):=Ex→List TD→List TEnt→Option O
def xT{O:Type}(n:Nat):(l:List XSh)→XSh.sum l→Kc O→Option O
 |[],_,_=>none
 |[e],o,K=>(V2 n e.sl e.es (ofD e.ty o)).bind λs=>K e.ex s.1 s.2
 |e::f::r,o,K=>match (o:Ty.dens e.ty⊕XSh.sum (f::r)) with
  |.inl o=>(V2 n e.sl e.es (ofD e.ty o)).bind λs=>K e.ex s.1 s.2
  |.inr o=>xT n (f::r) o K
def ZyW:(l:List XSh)→XSh.sum l→XSh→List TV→Prop
 |[],_,_,_=>False
 |[e],o,x,vs=>x=e∧vs=ofD e.ty o
 |e::f::r,o,x,vs=>match (o:Ty.dens e.ty⊕XSh.sum (f::r)) with
  |.inl o=>x=e∧vs=ofD e.ty o
  |.inr o=>ZyW (f::r) o x vs
theorem ZrS{O:Type}{n:Nat}{K:Kc O}{out:O}:∀{l:List XSh}{o:XSh.sum l},xT n l o K=some out→∃e vs s,ZyW l o e vs∧V2 n e.sl e.es vs=some s∧K e.ex s.1 s.2=some out
 |[],_,h=>by cases h
 |[e],o,h=>by
  obtain⟨s,h1,h2⟩:=yf.1 (show(V2 n e.sl e.es (ofD e.ty o)).bind (λs=>K e.ex s.1 s.2)=some out from h)
  exact⟨e,_,s,⟨rfl,rfl⟩,h1,h2⟩
 |e::f::r,.inl o,h=>by
  obtain⟨s,h1,h2⟩:=yf.1 (show(V2 n e.sl e.es (ofD e.ty o)).bind (λs=>K e.ex s.1 s.2)=some out from h)
  exact⟨e,_,s,⟨rfl,rfl⟩,h1,h2⟩
 |e::f::r,.inr o,h=>by
  obtain⟨e',vs,s,h1,h2,h3⟩:=ZrS (l:=f::r) (o:=o) h;exact⟨e',vs,s,h1,h2,h3⟩
mutual
def TD.rn(f:Nat→Option Nat):TD→Option TD
 |.p x=>some (.p x)
 |.elem x=>some (.elem x)
 |.ref id path=>(f id).map λi=>.ref i path
 |.own id nn t c=>(f id).map λi=>.own i nn t c
 |.view id path s lo n=>(f id).map λi=>.view i path s lo n
 |.agg xs=>(TD.rns f xs).map .agg
 |.arr n s xs=>(TD.rns f xs).map (.arr n s)
 |.fn g cap=>(TD.rns f cap).map (.fn g)
 |.iface t x=>(TD.rn f x).map (.iface t)
 |.tup xs=>(TD.rns f xs).map .tup
 |.mp id=>(f id).map .mp
 |.rv id v s lo n=>(f id).map λi=>.rv i v s lo n
 |.rref id v path=>(f id).map λi=>.rref i v path
 |.rw id=>(f id).map .rw
 |.rp id path=>(f id).map λi=>.rp i path
 |.junk=>some .junk
def TD.rns(f:Nat→Option Nat):List TD→Option (List TD)
 |[]=>some []
 |x::r=>match TD.rn f x,TD.rns f r with
  |some y,some ys=>some (y::ys)
  |_,_=>none
end
def TEnt.rn(f:Nat→Option Nat):TEnt→Option TEnt
 |.var d st=>(d.rn f).map λd'=>.var d' st
 |.row v s st e d=>(d.rn f).map λd'=>.row v s st e d'
 |.rowM t np v st e pre d post=>(d.rn f).map λd'=>.rowM t np v st e pre d' post
 |e=>some e
def TEnt.rns(f:Nat→Option Nat):List TEnt→Option (List TEnt)
 |[]=>some []
 |x::r=>match TEnt.rn f x,TEnt.rns f r with
  |some y,some ys=>some (y::ys)
  |_,_=>none
def Rc(f:Nat→Option Nat)(L M:Lk):Prop:=∀id j t,f id=some j→Z8 L id t none=Z8 M j t none
theorem ZHQ{f:Nat→Option Nat}{L M:Lk}(h:Rc f L M){id j:Nat}(e:f id=some j)(t:Ty)(c:Option (List t.den)):Z8 L id t c=Z8 M j t c:=by
 cases c with
 |none=>exact h id j t e
 |some _=>rfl
mutual
theorem ZfG{f:Nat→Option Nat}{L M:Lk}(h:Rc f L M):∀(d d':TD),d.rn f=some d'→Dv.rn f (d.er L)=some (d'.er M)
 |.p x,d',e=>by cases e;rfl
 |.elem x,d',e=>by cases e;rfl
 |.ref id path,d',e=>by
  obtain⟨i,h1,rfl⟩:=Zc e
  simp only[TD.er,Dv.rn,h1,yab]
 |.own id nn t c,d',e=>by
  obtain⟨i,h1,rfl⟩:=Zc e
  simp only[TD.er,Dv.rn,h1,yab,ZHQ h h1]
 |.view id path s lo n,d',e=>by
  obtain⟨i,h1,rfl⟩:=Zc e
  simp only[TD.er,Dv.rn,h1,yab]
 |.agg xs,d',e=>by
  obtain⟨i,h1,rfl⟩:=Zc e
  simp only[TD.er,Dv.rn,rns_er h xs i h1,yab]
 |.arr n s xs,d',e=>by
  obtain⟨i,h1,rfl⟩:=Zc e
  simp only[TD.er,Dv.rn,rns_er h xs i h1,yab]
 |.fn g xs,d',e=>by
  obtain⟨i,h1,rfl⟩:=Zc e
  simp only[TD.er,Dv.rn,rns_er h xs i h1,yab]
 |.iface t x,d',e=>by
  obtain⟨i,h1,rfl⟩:=Zc e
  simp only[TD.er,Dv.rn,ZfG h x i h1,yab]
 |.tup xs,d',e=>by
  obtain⟨i,h1,rfl⟩:=Zc e
  simp only[TD.er,Dv.rn,rns_er h xs i h1,yab]
 |.mp id,d',e=>by
  obtain⟨i,h1,rfl⟩:=Zc e
  simp only[TD.er,Dv.rn,h1,yab]
 |.rv id v s lo n,d',e=>by
  obtain⟨i,h1,rfl⟩:=Zc e
  simp only[TD.er,Dv.rn,h1,yab]
 |.rref id v path,d',e=>by
  obtain⟨i,h1,rfl⟩:=Zc e
  simp only[TD.er,Dv.rn,h1,yab]
 |.rw id,d',e=>by
  obtain⟨i,h1,rfl⟩:=Zc e
  simp only[TD.er,Dv.rn,h1,yab,Zck,h _ _ _ h1]
 |.rp id path,d',e=>by
  obtain⟨i,h1,rfl⟩:=Zc e
  simp only[TD.er,Dv.rn,h1,yab,Zck,h _ _ _ h1]
 |.junk,d',e=>by cases e;rfl
theorem rns_er{f:Nat→Option Nat}{L M:Lk}(h:Rc f L M):∀(ds es:List TD),TD.rns f ds=some es→Dv.rns f (TD.ers L ds)=some (TD.ers M es)
 |[],es,e=>by cases e;rfl
 |x::r,es,e=>by
  simp only[TD.rns] at e;split at e
  ·rename_i y ys h1 h2;cases e;simp only[TD.ers,Dv.rns,ZfG h x y h1,rns_er h r ys h2]
  ·cases e
end
theorem ZAJ{α:Type}(f:Nat→Option Nat)(g:α→Pl):∀(l:List α)(m:List Dv),Dv.rns f ((l.map λx=>.p (g x))++m)=(Dv.rns f m).map λq=>(l.map λx=>.p (g x))++q
 |[],m=>by cases h:Dv.rns f m <;> simp[h]
 |x::l,m=>by
  rw[yag,yaa,Dv.rns,Dv.rn,ZAJ f g l m];cases Dv.rns f m <;> rfl
theorem ZHR{α β:Type}{f:Nat→Option Nat}{g:α→Pl}{g':β→Pl}{l:List α}{d d':Dv}{m:List β}(h:Dv.rn f d=some d'):
 Dv.rns f ((l.map λx=>.p (g x))++d::m.map λx=>.p (g' x))=some ((l.map λx=>.p (g x))++d'::m.map λx=>.p (g' x)):=by
 have e:=ZAJ f g' m [];rw[ybi] at e;rw[ZAJ,Dv.rns,h,e];simp[Dv.rns]
theorem ZFq{f:Nat→Option Nat}{L M:Lk}(h:Rc f L M){e e':TEnt}(k:e.rn f=some e'):Ent.rn f (e.er L)=some (e'.er M):=by
 cases e with
 |var d st=>
  obtain⟨i,h1,rfl⟩:=Zc k
  simp only[TEnt.er,Ent.rn,ZfG h d i h1,yab]
 |row v s st e d=>
  obtain⟨i,h1,rfl⟩:=Zc k
  simp only[TEnt.er,Ent.rn,ZfG h d i h1,yab]
 |rowM t np v st e pre d post=>
  obtain⟨i,h1,rfl⟩:=Zc k
  simp only[TEnt.er,Ent.rn,Dv.rn,ZHR (ZfG h d i h1),yab]
 |_=>cases k;rfl
theorem ZB2{f:Nat→Option Nat}{L M:Lk}(h:Rc f L M):∀(ds es:List TEnt),TEnt.rns f ds=some es→Ent.rns f (ds.map (TEnt.er L))=some (es.map (TEnt.er M))
 |[],es,e=>by cases e;rfl
 |x::r,es,e=>by
  simp only[TEnt.rns] at e;split at e
  ·rename_i y ys h1 h2;cases e;simp only[yag,Ent.rns,ZFq h h1,ZB2 h r ys h2]
  ·cases e
theorem ZFr{f:Nat→Option Nat}{e e':TEnt}(k:e.rn f=some e'):lkE (some e')=lkE (some e):=by
 cases e with
 |var d st=>obtain⟨i,h1,rfl⟩:=Zc k;rfl
 |row v s st e d=>obtain⟨i,h1,rfl⟩:=Zc k;rfl
 |rowM t np v st e pre d post=>obtain⟨i,h1,rfl⟩:=Zc k;rfl
 |_=>cases k;rfl
theorem ZyX{f:Nat→Option Nat}:∀{ds es:List TEnt},TEnt.rns f ds=some es→es.length=ds.length∧∀(j:Nat),lkE (es[j]?)=lkE (ds[j]?)
 |[],es,e=>by cases e;exact⟨rfl,λ_=>rfl⟩
 |x::r,es,e=>by
  simp only[TEnt.rns] at e;split at e
  ·rename_i y ys h1 h2;cases e;obtain⟨g1,g2⟩:=ZyX h2;refine⟨by simp[g1],λj=> ?_⟩
   cases j with
   |zero=>exact ZFr h1
   |succ j=>exact g2 j
  ·cases e
def Wq(H:List TEnt)(all:List Nat):List Nat→Option (List TEnt)
 |[]=>some []
 |id::r=>match (H[id]?).bind (TEnt.rn (toIds all)),Wq H all r with
  |some e,some es=>some (e::es)
  |_,_=>none
theorem ZeU{H:List TEnt}{all:List Nat}:∀{ids:List Nat}{Hin:List TEnt},Wq H all ids=some Hin→Hin.length=ids.length∧∀(j id:Nat),ids[j]? =some id→id < H.length∧lkE (Hin[j]?)=lkE (H[id]?)
 |[],Hin,h=>by cases h;exact⟨rfl,λj id e=>by simp at e⟩
 |i::r,Hin,h=>by
  simp only[Wq] at h;split at h
  ·rename_i e es h1 h2;cases h;obtain⟨g1,g2⟩:=ZeU h2;obtain⟨e0,h3,h4⟩:=yf.1 h1;refine⟨by simp[g1],λj id hj=> ?_⟩
   cases j with
   |zero=>
    cases hj
    exact⟨(yr.1 h3).1,by rw[h3];exact ZFr h4⟩
   |succ j=>exact g2 j id hj
  ·cases h
theorem Wj{H:List TEnt}{all:List Nat}{M:Lk}(h:Rc (toIds all) (lk H) M):∀{ids:List Nat}{Hin:List TEnt},Wq H all ids=some Hin→subEnts (erH H) all ids=some (Hin.map (TEnt.er M))
 |[],Hin,e=>by cases e;rfl
 |i::r,Hin,e=>by
  simp only[Wq] at e;split at e
  ·rename_i e0 es h1 h2;cases e;obtain⟨e1,h3,h4⟩:=yf.1 h1;simp only[subEnts,Yn h3,ya,ZFq h h4,Wj h h2,yag]
  ·cases e
mutual
def TD.lay(L:Lk)(S:List Nat):TD→TD
 |.own id nn t c=>if S.contains id then .own id nn t (some (Z8 L id t c)) else .own id nn t c
 |.agg xs=>.agg (TD.lays L S xs)
 |.arr m s xs=>.arr m s (TD.lays L S xs)
 |.fn f xs=>.fn f (TD.lays L S xs)
 |.iface t x=>.iface t (TD.lay L S x)
 |.tup xs=>.tup (TD.lays L S xs)
 |.p x=>.p x
 |.elem x=>.elem x
 |.ref id path=>.ref id path
 |.view id path s lo n=>.view id path s lo n
 |.mp id=>.mp id
 |.rv id v s lo n=>.rv id v s lo n
 |.rref id v path=>.rref id v path
 |.rw id=>if S.contains id then .rv id (Zck L id 0) (Zck L id 1) 0 (Zck L id 2) else .rw id
 |.rp id path=>if S.contains id then .rref id (Zck L id 0) path else .rp id path
 |.junk=>.junk
def TD.lays(L:Lk)(S:List Nat):List TD→List TD
 |[]=>[]
 |x::r=>TD.lay L S x::TD.lays L S r
end
mutual
def TD.under(n:Nat):TD→Bool
 |.own id _ _ c=>c.isSome || decide (id < n)
 |.rw id=>decide (id < n)
 |.rp id _=>decide (id < n)
 |.agg xs=>TD.unders n xs
 |.arr _ _ xs=>TD.unders n xs
 |.fn _ xs=>TD.unders n xs
 |.iface _ x=>TD.under n x
 |.tup xs=>TD.unders n xs
 |_=>true
def TD.unders(n:Nat):List TD→Bool
 |[]=>true
 |x::r=>TD.under n x&&TD.unders n r
end
def TEnt.lay(L:Lk)(S:List Nat):TEnt→TEnt
 |.var d st=>.var (d.lay L S) st
 |.row v s st e d=>.row v s st e (d.lay L S)
 |.rowM t np v st e pre d post=>.rowM t np v st e pre (d.lay L S) post
 |e=>e
def TEnt.under(n:Nat):TEnt→Bool
 |.var d _=>d.under n
 |.row _ _ _ _ d=>d.under n
 |.rowM _ _ _ _ _ _ d _=>d.under n
 |_=>true
def Lo(S:List Nat)(n:Nat)(L M:Lk):Prop:=∀id t,S.contains id=false→id < n→Z8 L id t none=Z8 M id t none
mutual
theorem ZsT{L M:Lk}{S:List Nat}{n:Nat}(h:Lo S n L M):∀(d:TD),d.under n=true→(d.lay L S).er M=d.er L
 |.p _,_=>rfl
 |.elem _,_=>rfl
 |.ref _ _,_=>rfl
 |.own id nn t c,hf=>by
  rw[TD.lay];split
  ·rfl
  ·rename_i hn
   cases c with
   |none=>
    have:id < n:=by simpa[TD.under] using hf
    rw[TD.er,TD.er,h id t (by simpa using hn) this]
   |some _=>rfl
 |.view _ _ _ _ _,_=>rfl
 |.agg xs,hf=>by rw[TD.lay,TD.er,TD.er,ers_lay h xs hf]
 |.arr _ _ xs,hf=>by rw[TD.lay,TD.er,TD.er,ers_lay h xs hf]
 |.fn _ xs,hf=>by rw[TD.lay,TD.er,TD.er,ers_lay h xs hf]
 |.iface _ x,hf=>by rw[TD.lay,TD.er,TD.er,ZsT h x hf]
 |.tup xs,hf=>by rw[TD.lay,TD.er,TD.er,ers_lay h xs hf]
 |.mp _,_=>rfl
 |.rv _ _ _ _ _,_=>rfl
 |.rref _ _ _,_=>rfl
 |.rw id,hf=>by
  rw[TD.lay];split
  ·rfl
  ·rename_i hn;have:id < n:=by simpa[TD.under] using hf
   simp only[TD.er,Zck,h id _ (by simpa using hn) this]
 |.rp id _,hf=>by
  rw[TD.lay];split
  ·rfl
  ·rename_i hn;have:id < n:=by simpa[TD.under] using hf
   simp only[TD.er,Zck,h id _ (by simpa using hn) this]
 |.junk,_=>rfl
theorem ers_lay{L M:Lk}{S:List Nat}{n:Nat}(h:Lo S n L M):∀(ds:List TD),TD.unders n ds=true→TD.ers M (TD.lays L S ds)=TD.ers L ds
 |[],_=>rfl
 |x::r,hf=>by
  simp only[TD.unders,yj] at hf;rw[TD.lays,TD.ers,TD.ers,ZsT h x hf.1,ers_lay h r hf.2]
end
theorem ZyY{L:Lk}{S:List Nat}:∀(l:List TD),(TD.lays L S l).length=l.length
 |[]=>rfl
 |_::r=>by rw[TD.lays,yae,yae,ZyY r]
theorem ZHS{L M:Lk}{S:List Nat}{n:Nat}(h:Lo S n L M){e:TEnt}(hf:e.under n=true):(e.lay L S).er M=e.er L:=by
 cases e with
 |var d st=>rw[TEnt.lay,TEnt.er,TEnt.er,ZsT h d hf]
 |row v s st e d=>rw[TEnt.lay,TEnt.er,TEnt.er,ZsT h d hf]
 |rowM t np v st e pre d post=>rw[TEnt.lay,TEnt.er,TEnt.er,ZsT h d hf]
 |_=>rfl
theorem ZHT{L:Lk}{S:List Nat}(e:Option TEnt):lkE (e.map (TEnt.lay L S))=lkE e:=by
 cases e with
 |none=>rfl
 |some e=>cases e <;> rfl
theorem Zqy{α β:Type}(f:α→β):∀(ids:List Nat)(A B:List α),(putBack A ids B).map f=putBack (A.map f) ids (B.map f)
 |[],A,B=>by simp[putBack]
 |id::r,A,[]=>by simp[putBack]
 |id::r,A,b::B=>by simp only[putBack,yag];rw[Zqy f r,ybp]
def TD.argI(L:Lk)(ids:List Nat):TD→TD
 |.own id nn t c=>if ids.contains id then .own id nn t c else .p (.sl nn t (Z8 L id t c))
 |.agg ds=>if TD.ownss ids ds then .agg ds else TD.melt L ds
 |d=>d
theorem Zw6{L:Lk}{ids:List Nat}(d:TD):(d.argI L ids).er L=Dv.argI ids (d.er L):=by
 cases d with
 |own id nn t c=>
  rw[TD.argI,TD.er,Dv.argI]
  split <;> rfl
 |p _=>rfl
 |elem _=>rfl
 |ref _ _=>rfl
 |view _ _ _ _ _=>rfl
 |agg ds=>
  rw[TD.argI,TD.er,Dv.argI,ownss_er];split
  ·rw[TD.er]
  ·exact ZBO _
 |arr _ _ _=>rfl
 |fn _ _=>rfl
 |iface _ _=>rfl
 |tup _=>rfl
 |mp _=>rfl
 |rv _ _ _ _ _=>rfl
 |rref _ _ _=>rfl
 |rw _=>rfl
 |rp _ _=>rfl
 |junk=>rfl
def ZsU(P:yg)(ts:List TD):List yo→List yb→Option (List TD)
 |[],_=>some []
 |_,[]=>some []
 |x::r,t::q=>match arT P ts t x,ZsU P ts r q with
  |some a,some b=>some (a::b)
  |_,_=>none
theorem Zoi{P:yg}{ts:List TD}{L:Lk}(ids:List Nat):∀{l:List yo}{ty:List yb}{ds:List TD},ZsU P ts l ty=some ds→
 ((l.zip ty).map λq=>(ZB P (TD.ers L ts) q.2 q.1).argI ids)=TD.ers L (ds.map (TD.argI L ids))
 |[],ty,ds,h=>by cases h;rfl
 |x::r,[],ds,h=>by cases h;rfl
 |x::r,t::q,ds,h=>by
  simp only[ZsU] at h;split at h
  ·rename_i a b h1 h2;cases h;simp only[List.zip_cons_cons,yag,TD.ers,Zw (L:=L) h1,Zw6,Zoi ids h2]
  ·cases h
theorem ZB3{L:Lk}(ids:List Nat)(ds:List TD):(TD.ers L ds).map (Dv.argI ids)=TD.ers L (ds.map (TD.argI L ids)):=by
 rw[ZP,ZP,ybd,ybd];exact ycj λx _=>(Zw6 x).symm
structure Fs(P:yg)where
 g:yv
 ps:List Sh
 es:List ESh
 ins:List Ty
 xs:List XSh
 M:Ty.dens ins→Option (XSh.sum xs)
def Fs.Ok{P:yg}(s:Fs P):Prop:=
 ∀x o,s.M x=some o→∃args R H,Sh.fills s.ps (ofD s.ins x)=some (args,R)∧ESh.fills s.es R=some (H,[])∧
  ∀e vs s',ZyW s.xs o e vs→V2 1 e.sl e.es vs=some s'→∃r,s'.1=[r]∧Con P s.g (TD.ers (lk H) args) (erH H) (r.er (lk s'.2)) (erH s'.2)
def AllOk{P:yg}:List (Fs P)→Prop
 |[]=>True
 |s::r=>s.Ok∧AllOk r
mutual
def Sh.ids:Sh→TD→List (Nat×Nat)
 |.own j _,d=>match d with
  |.own id _ _ none=>[(j,id)]
  |_=>[]
 |.ref j _,d=>match d with
  |.ref id _=>[(j,id)]
  |_=>[]
 |.mp j,d=>match d with
  |.mp id=>[(j,id)]
  |_=>[]
 |.rw j,d=>match d with
  |.rw id=>[(j,id)]
  |_=>[]
 |.rp j _ _,d=>match d with
  |.rp id _=>[(j,id)]
  |_=>[]
 |.view j _ _ _ _,d=>match d with
  |.view id _ _ _ _=>[(j,id)]
  |_=>[]
 |.fn _ l,d=>match d with
  |.fn _ ds=>Sh.idsL l ds
  |_=>[]
 |.agg l,d=>match d with
  |.agg ds=>Sh.idsL l ds
  |_=>[]
 |.arr _ _ l,d=>match d with
  |.arr _ _ ds=>Sh.idsL l ds
  |_=>[]
 |.tup l,d=>match d with
  |.tup ds=>Sh.idsL l ds
  |_=>[]
 |.iface _ x,d=>match d with
  |.iface _ y=>Sh.ids x y
  |_=>[]
 |_,_=>[]
def Sh.idsL:List Sh→List TD→List (Nat×Nat)
 |[],_=>[]
 |s::r,ds=>match ds with
  |d::q=>Sh.ids s d++Sh.idsL r q
  |[]=>[]
end
def ZJR(H:List TEnt):List ESh→Nat→List (Nat×Nat)→List (Nat×Nat)
 |[],_,l=>l
 |e::r,j,l=>ZJR H r (j+1) (match e,(l.lookup j).bind λid=>Zqv H id with
  |.var s _,some d=>l++Sh.ids s d
  |_,_=>l)
def ZIX(H:List TEnt)(ps:List Sh)(es:List ESh)(ds:List TD):Option (List Nat):=
 let l:=ZJR H es 0 (Sh.idsL ps ds)
 (yw es.length).mapM λj=>l.lookup j
def Zw7{P:yg}(s:Fs P)(H:List TEnt)(args:List TD)(ids:List Nat):Option (Ty.dens s.ins):=
 if once ids then(TD.rns (toIds ids) (args.map (TD.argI (lk H) ids))).bind λa2=>(Wq H ids ids).bind λHin=>
  (Sh.mts (lk Hin) s.ps a2).bind λq=>(ESh.mts (lk Hin) s.es Hin).bind λw=>toD s.ins (q.2++w.2)
 else none
theorem Zas{H Hin:List TEnt}{ids:List Nat}(h:Wq H ids ids=some Hin):Rc (toIds ids) (lk H) (lk Hin):=by
 intro id j t e;obtain⟨g1,g2⟩:=ZeU h;have hj:=idxOf?_some e;have:=(g2 j id hj).2;unfold Z8 lk;dsimp only;rw[this]
theorem ZHU{P:yg}{s:Fs P}{H:List TEnt}{args:List TD}{ids:List Nat}{x:Ty.dens s.ins}(h:Zw7 s H args ids=some x):
 once ids=true∧∃Hin a2 a3 H3 R,Wq H ids ids=some Hin∧subEnts (erH H) ids ids=some (erH Hin)∧Dv.rns (toIds ids) (TD.ers (lk H) (args.map (TD.argI (lk H) ids)))=some (TD.ers (lk Hin) a2)∧
  Sh.fills s.ps (ofD s.ins x)=some (a3,R)∧ESh.fills s.es R=some (H3,[])∧WkL (TD.ers (lk Hin) a2) (TD.ers (lk H3) a3)∧WkH (erH Hin) (erH H3):=by
 unfold Zw7 at h;split at h
 ·rename_i ho;obtain⟨a2,h1,h⟩:=yf.1 h;obtain⟨Hin,h2,h⟩:=yf.1 h;obtain⟨q,h3,h⟩:=yf.1 h;obtain⟨w,h4,h⟩:=yf.1 h;obtain⟨g1,g2⟩:=Zh0 h4;have e:=Zc9 _ _ _ h;have hc:∀id t,Z8 (lk Hin) id t none=Z8 (lk w.1) id t none:=λid t=>by rw[g2]
  refine⟨ho,Hin,a2,q.1,w.1,w.2,h2,Wj (Zas h2) h2,rns_er (Zas h2) _ _ h1, ?_, ?_,mts_wk hc _ _ _ h3,ZlQ hc h4⟩
  ·rw[e];exact mts_fills _ _ _ h3 _
  ·have:=Za4 h4 []
   rwa [ybi] at this
 ·cases h
section
variable{P:yg}{o:Oper}{ts all:List TD}{H:List TEnt}{O:Type}{K:Kn O}{out:O}
def ZHV(all:List TD)(H:List TEnt)(K:Kn O)(ids:List Nat)(r:TD)(Hn:List TEnt):Option O:=
 if(ids.isEmpty&&Hn.isEmpty)=true then(r.rn λ_=>none).bind λr'=>K all r' H [.call (r.er (lk [])) [] []] 0 else
 (r.rn (fromIds ids H.length)).bind λr'=>(TEnt.rns (fromIds ids H.length) Hn).bind λHb=>
   if(decide (ids.length≤Hn.length)&&TD.unders H.length all&&H.all (TEnt.under H.length))=true then
    K (TD.lays (lk H) ids all) r' (putBack (H.map (TEnt.lay (lk H) ids)) ids Hb) [.call (r.er (lk Hn)) (erH Hn) ids] 2
   else none
def ZsV(s:Fs P)(all:List TD)(H:List TEnt)(K:Kn O)(args:List TD)(ids:List Nat)(x:Ty.dens s.ins):Option O:=
 (s.M x).bind λy=>xT 1 s.xs y λ_ rs Hn=>match rs with
   |[r]=>ZHV all H K ids r Hn
   |_=>none
def ZyZ(g:yv)(all:List TD)(H:List TEnt)(K:Kn O)(args:List TD)(other:Option O):List (Fs P)→Option O
 |[]=>other
 |s::rest=>if s.g=g then match (ZIX H s.ps s.es args).bind λids=>(Zw7 s H args ids).map λx=>(ids,x) with
   |some q=>ZsV s all H K args q.1 q.2
   |none=>ZyZ g all H K args other rest
  else ZyZ g all H K args other rest
mutual
def Sh.exD:Sh→TD→Bool
 |.v t,d=>match d with
  |.p (.v u _)=>match Ty.dec u t with
   |isTrue _=>true
   |isFalse _=>false
  |_=>false
 |.own _ _,d=>match d with
  |.own _ none _ none=>true
  |_=>false
 |.ref _ _,d=>match d with
  |.ref _ _=>true
  |_=>false
 |.mp _,d=>match d with
  |.mp _=>true
  |_=>false
 |.rw _,d=>match d with
  |.rw _=>true
  |_=>false
 |.agg l,d=>match d with
  |.agg ds=>Sh.exDs l ds
  |_=>false
 |.arr _ _ l,d=>match d with
  |.arr _ _ ds=>Sh.exDs l ds
  |_=>false
 |.ptr0,_=>true
 |.fn0,_=>true
 |.if0,_=>true
 |.map0,_=>true
 |_,_=>false
def Sh.exDs:List Sh→List TD→Bool
 |[],[]=>true
 |s::r,d::q=>Sh.exD s d&&Sh.exDs r q
 |_,_=>false
end
theorem ZMb{L:Lk}{t:Ty}{d:TD}{q:TD×List TV}(h:Sh.exD (.v t) d=true)(k:Sh.mt L (.v t) d=some q):q.1=d:=by
 unfold Sh.exD at h;split at h
 ·rename_i u y;split at h
  ·rename_i e _;subst e;unfold Sh.mt TD.toT TP.to at k;dsimp only at k;rw[Y6,yab] at k;cases k;rfl
  ·cases h
 ·cases h
theorem ZJS{L:Lk}{j:Nat}{t:Ty}{d:TD}{q:TD×List TV}(h:Sh.exD (.own j t) d=true)(k:Sh.mt L (.own j t) d=some q):q.1=d:=by
 unfold Sh.exD at h;split at h
 ·unfold Sh.mt at k;dsimp only at k;split at k
  ·rename_i e;obtain⟨rfl,rfl⟩:=e;cases k;rfl
  ·cases k
 ·cases h
theorem ZJT{L:Lk}{j:Nat}{p:List Stp}{d:TD}{q:TD×List TV}(h:Sh.exD (.ref j p) d=true)(k:Sh.mt L (.ref j p) d=some q):q.1=d:=by
 unfold Sh.exD at h;split at h
 ·unfold Sh.mt at k;dsimp only at k;split at k
  ·rename_i e;obtain⟨rfl,e2⟩:=e;have:=ZfF e2;subst this;cases k;rfl
  ·cases k
 ·cases h
theorem ZK8{L:Lk}{j:Nat}{d:TD}{q:TD×List TV}(h:Sh.exD (.mp j) d=true)(k:Sh.mt L (.mp j) d=some q):q.1=d:=by
 unfold Sh.exD at h;split at h
 ·unfold Sh.mt at k;dsimp only at k;split at k
  ·rename_i e;subst e;cases k;rfl
  ·cases k
 ·cases h
theorem ZK9{L:Lk}{j:Nat}{d:TD}{q:TD×List TV}(h:Sh.exD (.rw j) d=true)(k:Sh.mt L (.rw j) d=some q):q.1=d:=by
 unfold Sh.exD at h;split at h
 ·unfold Sh.mt at k;dsimp only at k;split at k
  ·rename_i e;subst e;cases k;rfl
  ·cases k
 ·cases h
mutual
theorem ZIY{L:Lk}:∀(s:Sh)(d:TD)(q:TD×List TV),Sh.exD s d=true→Sh.mt L s d=some q→q.1=d
 |.v t,d,q,h,k=>ZMb h k
 |.own j t,d,q,h,k=>ZJS h k
 |.ref j p,d,q,h,k=>ZJT h k
 |.mp j,d,q,h,k=>ZK8 h k
 |.rw j,d,q,h,k=>ZK9 h k
 |.agg l,.agg ds,q,h,k=>by
  have k:(Sh.mts L l ds).map (λq=>(TD.agg q.1,q.2))=some q:=by unfold Sh.mt at k;exact k
  have h:Sh.exDs l ds=true:=by unfold Sh.exD at h;exact h
  obtain⟨w,k1,k2⟩:=Zc k;rw[←k2]
  exact congrArg TD.agg (exs_mts l ds w h k1)
 |.arr n s l,.arr m s2 ds,q,h,k=>by
  have k:(if m=n∧s2=s then(Sh.mts L l ds).map (λq=>(TD.arr n s q.1,q.2)) else none)=some q:=by unfold Sh.mt at k;exact k
  have h:Sh.exDs l ds=true:=by unfold Sh.exD at h;exact h
  split at k
  ·rename_i e;obtain⟨w,k1,k2⟩:=Zc k;rw[←k2,e.1,e.2];exact congrArg (TD.arr n s) (exs_mts l ds w h k1)
  ·cases k
 |.ptr0,d,q,h,k=>by
  unfold Sh.mt at k
  split at k <;> first|(cases k;rfl)|cases k
 |.fn0,d,q,h,k=>by
  unfold Sh.mt at k
  split at k <;> first|(cases k;rfl)|cases k
 |.if0,d,q,h,k=>by
  unfold Sh.mt at k
  split at k <;> first|(cases k;rfl)|cases k
 |.map0,d,q,h,k=>by
  unfold Sh.mt at k;split at k <;> first|(cases k;rfl)|cases k
theorem exs_mts{L:Lk}:∀(l:List Sh)(ds:List TD)(q:List TD×List TV),Sh.exDs l ds=true→Sh.mts L l ds=some q→q.1=ds
 |[],[],q,_,k=>by
  simp only[Sh.mts] at k;cases k
  rfl
 |[],_::_,_,h,_=>by cases h
 |_::_,[],_,h,_=>by cases h
 |s::r,d::ds,q,h,k=>by
  simp only[Sh.exDs,yj] at h;simp only[Sh.mts] at k;split at k
  ·rename_i a b k1 k2;cases k;rw[ZIY s d a h.1 k1,exs_mts r ds b h.2 k2]
  ·cases k
end
def ESh.exE:ESh→TEnt→Bool
 |.var s st,.var d st'=>(st==st')&&s.exD d
 |.log t _,.log u _ _=>match Ty.dec u t with
  |isTrue _=>true
  |isFalse _=>false
 |.gone,.gone=>true
 |_,_=>false
theorem ZJU{L:Lk}{s:ESh}{d:TEnt}{q:TEnt×List TV}(h:s.exE d=true)(k:s.mt L d=some q):q.1=d:=by
 unfold ESh.exE at h;split at h
 ·simp only[yj,beq_iff_eq] at h;obtain⟨rfl,h⟩:=h;simp only[ESh.mt] at k;split at k
  ·obtain⟨w,k1,rfl⟩:=Zc k;show TEnt.var w.1 _=_;rw[ZIY _ _ w h k1]
  ·cases k
 ·split at h
  ·rename_i e _;subst e;simp only[ESh.mt] at k;split at k
   ·rename_i e;subst e;obtain⟨w,k1,rfl⟩:=Zc k;obtain⟨e1,e2⟩:=ZK k1;cases e1;subst e2;rfl
   ·cases k
  ·cases h
 ·simp only[ESh.mt] at k;cases k;rfl
 ·cases h
def ESh.exs:List ESh→List TEnt→Bool
 |[],[]=>true
 |s::r,d::q=>s.exE d&&ESh.exs r q
 |_,_=>false
theorem Zy0{L:Lk}:∀{l:List ESh}{ds:List TEnt}{q:List TEnt×List TV},ESh.exs l ds=true→ESh.mts L l ds=some q→q.1=ds
 |[],[],q,_,k=>by
  simp only[ESh.mts] at k;cases k
  rfl
 |[],_::_,_,h,_=>by cases h
 |_::_,[],_,h,_=>by cases h
 |s::r,d::ds,q,h,k=>by
  simp only[ESh.exs,yj] at h;simp only[ESh.mts] at k;split at k
  ·rename_i a b k1 k2;cases k;rw[ZJU h.1 k1,Zy0 h.2 k2]
  ·cases k
structure Rs(P:yg)where
 g:yv
 ps:List Sh
 es:List ESh
 ins:List Ty
 r:Sh
 t:List Ty
 M:Ty.dens ins→Option (Ty.dens t)
def Rs.Ok{P:yg}(s:Rs P):Prop:=
 ∀x o,s.M x=some o→∃args R H,Sh.fills s.ps (ofD s.ins x)=some (args,R)∧ESh.fills s.es R=some (H,[])∧
  ∀q,Sh.fill s.r (ofD s.t o)=some q→Con P s.g (TD.ers (lk H) args) (erH H) (q.1.er (lk H)) (erH H)
def AllRo{P:yg}:List (Rs P)→Prop
 |[]=>True
 |s::r=>s.Ok∧AllRo r
mutual
theorem ZrT{f g:Nat→Option Nat}(hfg:∀i j,f i=some j→g j=some i):∀(d d':Dv),d.rn f=some d'→d'.rn g=some d
 |.p x,d',h=>by cases h;rfl
 |.elem x,d',h=>by cases h;rfl
 |.ref id o p,d',h=>by
  simp only[Dv.rn,yq] at h;obtain⟨i,h1,rfl⟩:=h
  simp only[Dv.rn,hfg _ _ h1,yab]
 |.own id nn s xs,d',h=>by
  simp only[Dv.rn,yq] at h;obtain⟨i,h1,rfl⟩:=h
  simp only[Dv.rn,hfg _ _ h1,yab]
 |.view id o p s lo n,d',h=>by
  simp only[Dv.rn,yq] at h;obtain⟨i,h1,rfl⟩:=h
  simp only[Dv.rn,hfg _ _ h1,yab]
 |.agg xs,d',h=>by
  simp only[Dv.rn,yq] at h;obtain⟨i,h1,rfl⟩:=h
  simp only[Dv.rn,rns_back hfg _ _ h1,yab]
 |.arr n s xs,d',h=>by
  simp only[Dv.rn,yq] at h;obtain⟨i,h1,rfl⟩:=h
  simp only[Dv.rn,rns_back hfg _ _ h1,yab]
 |.fn k xs,d',h=>by
  simp only[Dv.rn,yq] at h;obtain⟨i,h1,rfl⟩:=h
  simp only[Dv.rn,rns_back hfg _ _ h1,yab]
 |.iface t x,d',h=>by
  simp only[Dv.rn,yq] at h;obtain⟨i,h1,rfl⟩:=h
  simp only[Dv.rn,ZrT hfg _ _ h1,yab]
 |.tup xs,d',h=>by
  simp only[Dv.rn,yq] at h;obtain⟨i,h1,rfl⟩:=h
  simp only[Dv.rn,rns_back hfg _ _ h1,yab]
 |.mp id,d',h=>by
  simp only[Dv.rn,yq] at h;obtain⟨i,h1,rfl⟩:=h
  simp only[Dv.rn,hfg _ _ h1,yab]
 |.rv id v s lo n,d',h=>by
  simp only[Dv.rn,yq] at h;obtain⟨i,h1,rfl⟩:=h
  simp only[Dv.rn,hfg _ _ h1,yab]
 |.rref id v o p,d',h=>by
  simp only[Dv.rn,yq] at h;obtain⟨i,h1,rfl⟩:=h
  simp only[Dv.rn,hfg _ _ h1,yab]
 |.junk,d',h=>by cases h;rfl
theorem rns_back{f g:Nat→Option Nat}(hfg:∀i j,f i=some j→g j=some i):∀(d d':List Dv),Dv.rns f d=some d'→Dv.rns g d'=some d
 |[],d',h=>by cases h;rfl
 |x::r,d',h=>by
  simp only[Dv.rns] at h;split at h
  ·rename_i y ys h1 h2;cases h;simp only[Dv.rns,ZrT hfg x y h1,rns_back hfg r ys h2]
  ·cases h
end
theorem ZFs{f g:Nat→Option Nat}(hfg:∀i j,f i=some j→g j=some i){e e':Ent}(h:e.rn f=some e'):e'.rn g=some e:=by
 cases e with
 |var d st=>
  simp only[Ent.rn,yq] at h;obtain⟨y,h1,rfl⟩:=h
  simp only[Ent.rn,ZrT hfg _ _ h1,yab]
 |row v s st t d=>
  simp only[Ent.rn,yq] at h;obtain⟨y,h1,rfl⟩:=h
  simp only[Ent.rn,ZrT hfg _ _ h1,yab]
 |log _ _ _=>cases h;rfl
 |map _ _=>cases h;rfl
 |gone=>cases h;rfl
theorem ZFt{H:List Ent}{ids:List Nat}{Hin:List Ent}(ho:once ids=true)(h:subEnts H ids ids=some Hin):∃Hb,Ent.rns (fromIds ids H.length) Hin=some Hb∧putBack H ids Hb=H:=by
 have hfg:∀i j,toIds ids i=some j→fromIds ids H.length j=some i:=by
  intro i j e;have hj:=idxOf?_some e;unfold fromIds;rw[if_pos (yr.1 hj).1,hj]
 have key:∀(l:List Nat)(A:List Ent),subEnts H ids l=some A→∃B,Ent.rns (fromIds ids H.length) A=some B∧B.length=l.length∧∀(j id:Nat),l[j]? =some id→B[j]? =H[id]? ∧id < H.length:=by
  intro l
  induction l with
  |nil=>
   intro A hA;simp only[subEnts,yi] at hA;subst hA
   exact⟨[],rfl,rfl,λj id hj=>by simp at hj⟩
  |cons x r ih=>
   intro A hA;simp only[subEnts] at hA;split at hA
   ·rename_i e es h1 h2;cases hA;obtain⟨B,b1,b2,b3⟩:=ih es h2;obtain⟨e0,g1,g2⟩:=yf.1 h1;refine⟨e0::B, ?_,by simp[b2],λj id hj=> ?_⟩
    ·simp only[Ent.rns,ZFs hfg g2,b1]
    ·cases j with
     |zero=>
      simp only[yar,yi] at hj;subst hj
      exact⟨by rw[yar,g1],(yr.1 g1).1⟩
     |succ j=>exact b3 j id (by simpa using hj)
   ·cases hA
 obtain⟨Hb,b1,b2,b3⟩:=key ids Hin h
 have hlt:∀i,i∈ids→i < H.length:=λi hi=>by
  obtain⟨j,hj⟩:=List.getElem?_of_mem hi;exact(b3 j i hj).2
 refine⟨Hb,b1, ?_⟩;have hle:ids.length≤Hb.length:=by omega
 apply ybq;intro i;have hlen:(putBack H ids Hb).length=H.length:=by rw[Zby _ _ _ hle];omega
 by_cases hi:i < H.length
 ·by_cases hm:i∈ids
  ·obtain⟨j,hj⟩:=List.getElem?_of_mem hm;rw[ZfA H ids Hb j i ho hle hlt hj,(b3 j i hj).1]
  ·exact Qb H ids Hb i hle hi hm
 ·rw[yap (by omega),yap (by omega)]
structure Sp(P:yg)where
 l:List (Fs P):=[]
 hd:(O:Type)→yv→List TD→List TEnt→(TD→List TEnt→Option O)→Option O:=λ_ _ _ _ _=>none
 mt:List (yb×String×yv):=[]
 ro:List (Rs P):=[]
def HdOk(P:yg)(hd:(O:Type)→yv→List TD→List TEnt→(TD→List TEnt→Option O)→Option O):Prop:=
 ∀(O:Type)(g:yv)(args:List TD)(H:List TEnt)(K:TD→List TEnt→Option O)(out:O),hd O g args H K=some out→
  ∃r H',K r H'=some out∧Con P g (TD.ers (lk H) args) (erH H) (r.er (lk H')) (erH H')
def MtOk(P:yg):List (yb×String×yv)→Prop
 |[]=>True
 |q::r=>ZC4 P q.1 q.2.1 q.2.2∧MtOk P r
def ZFu:List (yb×String×yv)→yb→String→Option yv
 |[],_,_=>none
 |q::r,t,n=>if q.1=t then if q.2.1=n then some q.2.2 else ZFu r t n else ZFu r t n
theorem Zw8:∀{l:List (yb×String×yv)}{t:yb}{n:String}{g:yv},MtOk P l→ZFu l t n=some g→ZC4 P t n g
 |[],_,_,_,_,h=>by cases h
 |q::r,t,n,g,hk,h=>by
  unfold ZFu at h;split at h
  ·rename_i e1;split at h
   ·rename_i e2;cases h;rw[←e1, ←e2];exact hk.1
   ·exact Zw8 hk.2 h
  ·exact Zw8 hk.2 h
structure SpOk(s:Sp P):Prop where
 l:AllOk s.l
 hd:HdOk P s.hd
 mt:MtOk P s.mt
 ro:AllRo s.ro
theorem ZB4:HdOk P (λ_ _ _ _ _=>none):=λ_ _ _ _ _ _ h=>by cases h
theorem okS{l:List (Fs P)}(h:AllOk l):SpOk ({ l:=l}:Sp P):=⟨h,ZB4,trivial,ytt⟩
theorem okR{l:List (Fs P)}{mt:List (yb×String×yv)}{ro:List (Rs P)}(h:AllOk l)(k:MtOk P mt)(r:AllRo ro):SpOk ({ l:=l,mt:=mt,ro:=ro}:Sp P):=⟨h,ZB4,k,r⟩
mutual
def TD.look:TD→List Nat
 |.ref id _=>[id]
 |.own id _ _ _=>[id]
 |.view id _ _ _ _=>[id]
 |.mp id=>[id]
 |.rv id _ _ _ _=>[id]
 |.rref id _ _=>[id]
 |.rw id=>[id]
 |.rp id _=>[id]
 |.agg xs=>TD.looks xs
 |.arr _ _ xs=>TD.looks xs
 |.fn _ xs=>TD.looks xs
 |.iface _ x=>TD.look x
 |.tup xs=>TD.looks xs
 |_=>[]
def TD.looks:List TD→List Nat
 |[]=>[]
 |x::r=>TD.look x++TD.looks r
end
def TEnt.look:TEnt→List Nat
 |.var d _=>d.look
 |.row _ _ _ _ d=>d.look
 |.rowM _ _ _ _ _ _ d _=>d.look
 |_=>[]
def Zqz(h:List TEnt):Nat→List Nat→List Nat→List Nat
 |0,_,got=>got
 |_+1,[],got=>got
 |k+1,id::r,got=>if got.contains id then Zqz h k r got else Zqz h k (((h[id]?).map TEnt.look).getD []++r) (id::got)
def inT(sp:Sp P)(g:yv)(all:List TD)(H:List TEnt)(K:Kn O)(args:List TD):Option O:=
 let ids:=Zqz H 100000 (TD.looks args) []
 if once ids then(TD.rns (toIds ids) (args.map (TD.argI (lk H) ids))).bind λa2=>(Wq H ids ids).bind λHin=>
  sp.hd O g a2 Hin λr Hn=>ZHV all H K ids r Hn
 else none
def ZB5(g:yv)(all:List TD)(H:List TEnt)(K:Kn O)(args:List TD)(other:Option O):List (Rs P)→Option O
 |[]=>other
 |s::rest=>if s.g=g then(ZIX H s.ps s.es args).bind λids=>(Wq H ids ids).bind λHin=>if(once ids&& !ids.isEmpty&&ESh.exs s.es Hin)=true then
   (TD.rns (toIds ids) (args.map (TD.argI (lk H) ids))).bind λa2=>(Sh.mts (lk Hin) s.ps a2).bind λq=>(ESh.mts (lk Hin) s.es Hin).bind λw=>(toD s.ins (q.2++w.2)).bind λx=>
     (s.M x).bind λy=>(Sh.fill s.r (ofD s.t y)).bind λq=>(q.1.rn λ_=>none).bind λr'=>K all r' H [.call (q.1.er (lk Hin)) (erH Hin) ids] 3
   else none
  else ZB5 g all H K args other rest
def ZFv(sp:Sp P)(g:yv)(all:List TD)(H:List TEnt)(K:Kn O)(args:List TD):Option O:=ZB5 g all H K args (ZyZ g all H K args (inT sp g all H K args) sp.l) sp.ro
structure CallOk(P:yg)(g:yv)(all args:List TD)(H:List TEnt)(a':List TD)(d:TD)(H':List TEnt)(hs:List Hint)(cls:Nat):Prop where
 same:TD.ers (lk H') a'=TD.ers (lk H) all
 len:a'.length=all.length
 op:∃(ids:List Nat)(Hin Hn Hb:List Ent)(az:List Dv)(r:Dv),once ids=true∧ids.length≤Hn.length∧subEnts (erH H) ids ids=some Hin∧
  Dv.rns (toIds ids) (TD.ers (lk H) (args.map (TD.argI (lk H) ids)))=some az∧Con P g az Hin r Hn∧r.rn (fromIds ids H.length)=some (d.er (lk H'))∧Ent.rns (fromIds ids H.length) Hn=some Hb∧
  erH H'=putBack (erH H) ids Hb∧hs=[.call r Hn ids]∧(cls=2∧¬(ids=[]∧Hn=[])∨(cls=3∧erH H'=erH H∧¬(ids=[]∧Hn=[]))∨cls=0∧ids=[]∧Hn=[]∧H'=H∧a'=all∧r=d.er (lk H')∧r.rn (λ_=>none)=some r)
theorem Zvo{g:yv}{args:List TD}{ids:List Nat}{Hin:List TEnt}{az:List Dv}{r4:TD}{Hn:List TEnt}(honce:once ids=true)(p1:Wq H ids ids=some Hin)(p2:subEnts (erH H) ids ids=some (erH Hin))
 (p3:Dv.rns (toIds ids) (TD.ers (lk H) (args.map (TD.argI (lk H) ids)))=some az) (hcon':Con P g az (erH Hin) (r4.er (lk Hn)) (erH Hn)) (h9:ZHV all H K ids r4 Hn=some out):
 ∃a d H' hs c,K a d H' hs c=some out∧CallOk P g all args H a d H' hs c:=by
 unfold ZHV at h9;split at h9
 ·rename_i hem;rw[yj] at hem;have i1:ids=[]:=by simpa using hem.1
  have i2:Hn=[]:=by simpa using hem.2
  subst i1;subst i2;obtain⟨r',hr',h9⟩:=yf.1 h9;have f1:=ZfG (L:=lk []) (M:=lk H) (λid j t e=>by cases e) _ _ hr';have f2:=Za0 (f:=λ_=>none) _ _ f1;have f3:r4.er (lk [])=r'.er (lk H):=Option.some.inj (f2.symm.trans f1);have hin0:Hin=[]:=by cases p1;rfl
  subst hin0;refine⟨_,_,_,_,_,h9,rfl,rfl,[],[],[],[],az,r4.er (lk []),rfl,yn _,rfl,p3,hcon', ?_,rfl, ?_,rfl,.inr (.inr ⟨rfl,rfl,rfl,rfl,rfl,f3,f2⟩)⟩
  ·rw[←f3];exact Za0 _ _ f1
  ·rw[Zqn]
 rename_i hne;obtain⟨r',hr',h9⟩:=yf.1 h9;obtain⟨Hb,hHb,h9⟩:=yf.1 h9;obtain⟨hk,h9⟩:=Za h9;simp only[yj,decide_eq_true_eq] at hk;obtain⟨⟨k1,k2⟩,k3⟩:=hk;obtain⟨b1,b2⟩:=ZyX hHb;obtain⟨s1,s2⟩:=ZeU p1
 have hlt:∀i,i∈ids→i < H.length:=λi hi=>by
  obtain⟨j,hj⟩:=List.getElem?_of_mem hi;exact(s2 j i hj).1
 have hlo:Lo ids H.length (lk H) (lk (putBack (H.map (TEnt.lay (lk H) ids)) ids Hb)):=by
  intro id t hn hl;unfold Z8 lk;dsimp only
  rw[Qb _ _ _ id (by rw[b1];exact k1) (by rw[yz];exact hl) (λhm=>by
   rw[List.contains_eq_any_beq] at hn;simp at hn;exact hn id hm rfl),yal,ZHT]
 have hrc:Rc (fromIds ids H.length) (lk Hn) (lk (putBack (H.map (TEnt.lay (lk H) ids)) ids Hb)):=by
  intro j i t e
  have key:lk (putBack (H.map (TEnt.lay (lk H) ids)) ids Hb) i=lk Hn j:=by
   show lkE ((putBack (H.map (TEnt.lay (lk H) ids)) ids Hb)[i]?)=lkE (Hn[j]?);rw[←b2 j];unfold fromIds at e;split at e
   ·rw[ZfA _ _ _ j i honce (by rw[b1];exact k1) (λi hi=>by rw[yz];exact hlt i hi) e]
   ·rename_i hj;cases e;have:=ZgM (H.map (TEnt.lay (lk H) ids)) ids Hb j (by rw[b1];exact k1) (by omega);rw[yz] at this;rw[this]
  unfold Z8;rw[key]
 have e2:(putBack (H.map (TEnt.lay (lk H) ids)) ids Hb).map (TEnt.er (lk (putBack (H.map (TEnt.lay (lk H) ids)) ids Hb)))=putBack (erH H) ids (Hb.map (TEnt.er (lk (putBack (H.map (TEnt.lay (lk H) ids)) ids Hb)))):=by
  rw[Zqy,ybd];congr 1;refine ycj λe he=> ?_;exact ZHS hlo (ybe.1 k3 e he)
 have f1:=ZfG hrc _ _ hr';have f2:=ZB2 hrc _ _ hHb;refine⟨_,_,_,_,_,h9,ers_lay hlo all k2,ZyY all,ids,erH Hin,erH Hn,_,az,r4.er (lk Hn),honce,by rw[ZQ];exact k1,p2,p3,hcon',f1,f2,e2,rfl,.inl ⟨rfl,λhh=>hne ?_⟩⟩;have i2:Hn=[]:=by have:=hh.2;unfold erH at this;simpa using this
 rw[i2,hh.1];rfl
theorem Zuu{args:List TD}{s:Fs P}{ids:List Nat}{x:Ty.dens s.ins}(ok:s.Ok)(hp:Zw7 s H args ids=some x)(h:ZsV s all H K args ids x=some out):
 ∃a d H' hs c,K a d H' hs c=some out∧CallOk P s.g all args H a d H' hs c:=by
 unfold ZsV at h;obtain⟨y,hM,h0⟩:=yf.1 h;obtain⟨e,vs,s',hsel,hfs,h9⟩:=ZrS h0;clear h0 h;obtain⟨honce,Hin,a2,a3,H3,R,p1,p2,p3,p4,p5,p6,p7⟩:=ZHU hp;obtain⟨args,R1,H4,q1,q2,hcon⟩:=ok x y hM;obtain⟨r4,hr4,hcon⟩:=hcon e vs s' hsel hfs;rw[hr4] at h9;dsimp only at h9;rw[p4] at q1;cases q1;rw[p5] at q2;cases q2;generalize s'.2=Hn at h9 hcon;exact Zvo honce p1 p2 p3 (ZBF hcon p6 p7) h9
theorem Znn{g:yv}{args:List TD}{other:Option O}(ho:other=some out→∃a d H' hs c,K a d H' hs c=some out∧CallOk P g all args H a d H' hs c):∀{l:List (Fs P)},AllOk l→ZyZ g all H K args other l=some out→
 ∃a d H' hs c,K a d H' hs c=some out∧CallOk P g all args H a d H' hs c
 |[],_,h=>ho h
 |s::r,ok,h=>by
  unfold ZyZ at h;split at h
  ·rename_i hg;split at h
   ·rename_i q hq;obtain⟨ids,h1,hq⟩:=yf.1 hq;obtain⟨x,h2,rfl⟩:=Zc hq;exact hg ▸ Zuu ok.1 h2 h
   ·exact Znn ho ok.2 h
  ·exact Znn ho ok.2 h
theorem ZFw{sp:Sp P}{g:yv}{args:List TD}(ok:SpOk sp)(h:inT sp g all H K args=some out):∃a d H' hs c,K a d H' hs c=some out∧CallOk P g all args H a d H' hs c:=by
 unfold inT at h;dsimp only at h;generalize Zqz H 100000 (TD.looks args) []=ids at h;obtain⟨ho,h⟩:=Za h;obtain⟨a2,h1,h⟩:=yf.1 h;obtain⟨Hin,h2,h⟩:=yf.1 h;obtain⟨r,Hn,h3,h4⟩:=ok.hd _ _ _ _ _ _ h;exact Zvo ho h2 (Wj (Zas h2) h2) (rns_er (Zas h2) _ _ h1) h4 h3
theorem ZsW{g:yv}{args:List TD}{other:Option O}(ho:other=some out→∃a d H' hs c,K a d H' hs c=some out∧CallOk P g all args H a d H' hs c):∀{l:List (Rs P)},AllRo l→ZB5 g all H K args other l=some out→
 ∃a d H' hs c,K a d H' hs c=some out∧CallOk P g all args H a d H' hs c
 |[],_,h=>ho h
 |s::r,ok,h=>by
  unfold ZB5 at h;split at h
  ·rename_i hg;obtain⟨ids,_,h⟩:=yf.1 h;obtain⟨Hin,h2,h⟩:=yf.1 h;obtain⟨hk,h⟩:=Za h;simp only[yj,Bool.not_eq_true',List.isEmpty_eq_false_iff] at hk;obtain⟨⟨k1,k2⟩,k3⟩:=hk;obtain⟨a2,h3,h⟩:=yf.1 h;obtain⟨q,h4,h⟩:=yf.1 h;obtain⟨⟨w1,w2⟩,h5,h⟩:=yf.1 h;obtain⟨x,h6,h⟩:=yf.1 h;obtain⟨y,h7,h⟩:=yf.1 h;obtain⟨z,h8,h⟩:=yf.1 h;obtain⟨r',h9,h⟩:=yf.1 h;have hw:w1=Hin:=Zy0 k3 h5;subst hw;obtain⟨az,R,H3,q1,q2,hcon⟩:=ok.1 x y h7;have e:=Zc9 _ _ _ h6;rw[e,mts_fills _ _ _ h4 _] at q1;cases q1;have q3:=Za4 h5 [];rw[ybi] at q3;rw[q3] at q2;cases q2;have hcon:=hcon z h8;have p2:=Wj (Zas h2) h2;have p3:=rns_er (Zas h2) _ _ h3;have hcon:=ZBF hcon (mts_wk (λ_ _=>rfl) _ _ _ h4) (WkH.refl _);have f1:=ZfG (f:=λ_=>none) (L:=lk w1) (M:=lk H) (λid j t e=>by cases e) _ _ h9;have f2:=Za0 (f:=λ_=>none) _ _ f1;have f3:z.1.er (lk w1)=r'.er (lk H):=Option.some.inj (f2.symm.trans f1);obtain⟨Hb,b1,b2⟩:=ZFt k1 p2;have hlen:=(ZeU h2).1;refine⟨_,_,_,_,_,h,rfl,rfl,ids,erH w1,erH w1,Hb,TD.ers (lk w1) a2,z.1.er (lk w1),k1,by rw[ZQ];omega,p2,p3,hg ▸ hcon, ?_,by rw[←ZQ H];exact b1,b2.symm,rfl,.inr (.inl ⟨rfl,rfl,λhh=>k2 hh.1⟩)⟩;rw[←f3];exact Za0 _ _ f1
  ·exact ZsW ho ok.2 h
theorem Zy1{sp:Sp P}{g:yv}{args:List TD}(ok:SpOk sp)(h:ZFv sp g all H K args=some out):∃a d H' hs c,K a d H' hs c=some out∧CallOk P g all args H a d H' hs c:=
 ZsW (λh=>Znn (λh=>ZFw ok h) ok.l h) ok.ro h
theorem ZDF{c:Call}{f:yo}{g:yv}{cap az:List TD}{a:List TD}{d:TD}{H':List TEnt}{hs:List Hint}{cls:Nat}(ho:o.op=.call c)(hc:c.callee=.value f)(hf:arT P ts 0 f=some (.fn g cap))
 (hb:(ZcN P (Ziw g)&&c.args.size==c.argTypes.size)=true) (ha:ZsU P ts c.args.toList c.argTypes.toList=some az) (h:CallOk P (Ziw g) all (if g < big then az++cap else cap++az) H a d H' hs cls):Good P o ts all H a d H' hs cls:=by
 have hfv:=Zw (L:=lk H) hf;obtain⟨ids,Hin,Hn,Hb,az',r,honce,hle,p2,p3,hcon,f1,f2,e2,rfl,hcl⟩:=h.op
 have ea:Xi P ids (TD.ers (lk H) ts) c g (TD.ers (lk H) cap)=TD.ers (lk H) ((if g < big then az++cap else cap++az).map (TD.argI (lk H) ids)):=by
  unfold Xi;split
  ·rw[Zoi ids ha,ZB3,yav,ZP,ZP,ZP,yav]
  ·rw[Zoi ids ha,ZB3,yav,ZP,ZP,ZP,yav]
 have ge:¬(ids=[]∧Hn=[])→GoodE P o ts H d H' [.call r Hn ids]:=λhne=>by
  refine⟨λrest=> ?_,λrest=> ?_,[Con P (Ziw g) az' Hin r Hn],⟨hcon,ytt⟩,λrest=> ?_⟩
  ·unfold evN;rw[ho];dsimp only;rw[hc];dsimp only;rw[hfv];dsimp only[TD.er];rw[yaa,yx];split
   ·rename_i e1 e2;exfalso;simp only[List.cons.injEq,Hint.call.injEq] at e2;exact hne ⟨e2.1.2.2,e2.1.2.1⟩
   ·rename_i e2;cases e2
   ·rfl
  ·unfold evR;rw[ho];dsimp only;rw[hc]
  ·unfold evE;rw[ho];dsimp only;rw[hc];dsimp only;rw[hfv];dsimp only[TD.er];rw[yaa,yx];dsimp only;rw[if_pos (by simp only[yj,decide_eq_true_eq] at hb ⊢;exact⟨⟨hb,honce⟩,hle⟩)];rw[ea,p3,p2,ZQ,f1,f2];dsimp only;rw[e2]
 rcases hcl with⟨rfl,hne⟩|⟨rfl,hsm,hne⟩|⟨rfl,rfl,rfl,rfl,rfl,rfl,hrn⟩
 ·exact⟨h.same,h.len,or3 ⟨rfl,ge hne⟩⟩
 ·exact⟨h.same,h.len,.inr (.inr (.inr ⟨rfl,hsm,ge hne⟩))⟩
 ·refine⟨h.same,h.len,.inl ⟨rfl,rfl,[Con P (Ziw g) az' [] (d.er (lk H')) []],⟨?_,ytt⟩,λrest=> ?_⟩⟩
  ·cases p2;exact hcon
  ·unfold evN;rw[ho];dsimp only;rw[hc];dsimp only;rw[hfv];dsimp only[TD.er];rw[yaa,yx];dsimp only;rw[if_pos hb,ea, ←Znc,p3,Znc,hrn]
theorem ZDG{c:Call}{recv:yo}{name:String}{t:yb}{x:TD}{g:yv}{az:List TD}{a:List TD}{d:TD}{H':List TEnt}{hs:List Hint}{cls:Nat}(ho:o.op=.call c)(hc:c.callee=.invoke recv name)(hf:arT P ts 0 recv=some (.iface t x))
 (hm:ZC4 P t name g) (hb:(ZcN P g&&c.args.size==c.argTypes.size)=true) (ha:ZsU P ts c.args.toList c.argTypes.toList=some az) (h:CallOk P g all (x::az) H a d H' hs cls):Good P o ts all H a d H' (.meth g::hs) 2:=by
 have hfv:=Zw (L:=lk H) hf;obtain⟨ids,Hin,Hn,Hb,az',r,honce,hle,p2,p3,hcon,f1,f2,e2,rfl,hcl⟩:=h.op
 have ea:(x.er (lk H)).argI ids::Xi P ids (TD.ers (lk H) ts) c 0 []=TD.ers (lk H) ((x::az).map (TD.argI (lk H) ids)):=by
  unfold Xi;rw[if_pos (by decide),Zoi ids ha,List.map_nil,ybi,yag,TD.ers,Zw6]
 refine⟨h.same,h.len,or3 (⟨rfl,λrest=> ?_,λrest=> ?_,[ZC4 P t name g,Con P g az' Hin r Hn],⟨hm,hcon,ytt⟩,λrest=> ?_⟩)⟩
 ·unfold evN;rw[ho];dsimp only;rw[hc]
 ·unfold evR;rw[ho];dsimp only;rw[hc]
 ·unfold evE;rw[ho];dsimp only;rw[hc];dsimp only;rw[hfv];dsimp only[TD.er];rw[yaa,yaa,yx];dsimp only;rw[if_pos (by simp only[yj,decide_eq_true_eq] at hb ⊢;exact⟨⟨hb,honce⟩,hle⟩)];rw[ea,p3,p2,ZQ,f1,f2];dsimp only;rw[e2]
end
end Go.Ev
end
section
namespace Go.Ev
section
variable{P:yg}{o:Oper}{ts all:List TD}{H:List TEnt}{O:Type}{K:Kn O}{out:O}
def TD.isView:TD→Bool
 |.view _ _ _ _ _=>true
 |_=>false
def TD.isNilSl:TD→Bool
 |.p (.sl (some false) _ [])=>true
 |_=>false
def TD.isRef:TD→Bool
 |.ref _ _=>true
 |_=>false
def TD.isRref:TD→Bool
 |.rref _ _ _=>true
 |_=>false
def TD.isRv:TD→Bool
 |.rv _ _ _ _ _=>true
 |_=>false
def ZHW(a:TD)(lo hi:Option Int):Bool:=
 match a with
 |.rv _ _ _ _ n=> !Zbt n lo hi
 |_=>false
def TD.isOwn:TD→Bool
 |.own _ _ _ _=>true
 |_=>false
def TD.isMp:TD→Bool
 |.mp _=>true
 |_=>false
def Zoj(l:List Tmp):Option Tmp→Bool
 |some t=>l.contains t
 |none=>false
def ZkC(P:yg)(o:Oper)(ts all:List TD)(H:List TEnt)(K:Kn O):Option O:=opN (lk H) P o ts λd hs=>K all d H hs 0
theorem Vc(h:ZkC P o ts all H K=some out):∃a d H' hs c,K a d H' hs c=some out∧Good P o ts all H a d H' hs c:=by
 obtain⟨d,hs,h1,h2⟩:=ZFb h;exact⟨_,_,_,_,_,h1,rfl,rfl,.inl ⟨rfl,rfl,h2⟩⟩
def ZB6(P:yg)(hi:HI)(o:Oper)(x:yo)(asg:Bool)(ts all:List TD)(H:List TEnt)(K:Kn O):Option O:=
 match o.dst,arT P ts o.type x with
 |some t,some d=>if hi.still.contains t&&(d.isView || d.isRv) then ZwW t all H K d else if hi.still.contains t&&d.isRw then Zw1 t all H K d else if asg&&(hi.rowt.contains t&&d.isNilSl) then Zw3 P o.type t all H K d else if asg&&(hi.own.contains t&&d.isNilSl) then ZAw P o.type t all H K d else ZkC P o ts all H K
 |_,_=>ZkC P o ts all H K
def TD.numI(d:TD):Option Num:=
 match d.num with
 |some a=>if a.k=.i64 then some a else none
 |none=>none
def opT(P:yg)(hi:HI)(specs:Sp P)(o:Oper)(ts all:List TD)(H:List TEnt)(K:Kn O):Option O:=
 match o.op with
 |.move x=>ZB6 P hi o x false ts all H K
 |.assign x=>ZB6 P hi o x true ts all H K
 |.slice t x lo h none=>if Zoj hi.frz o.dst then(arT P ts t x).bind λa=>(ZgC P ts lo).bind λl=>(ZgC P ts h).bind λr=>ZJL P t l r all H K a
  else(arT P ts t x).bind λa=>(ZgC P ts lo).bind λl=>(ZgC P ts h).bind λr=>if(Zoj hi.rowt o.dst&&a.isRw)=true then ZsR P t l r all H K a else if ZHW a l r=true then ZAu P t l r all H K a else ZkC P o ts all H K
 |.load t x=>(arT P ts 0 x).bind λd=>if d.isRef || d.isRref then ZFe P t all H K d else if d.isRp then ZAF P t all H K d else ZkC P o ts all H K
 |.lookup t x ix ok=>(arT P ts t x).bind λd=>ZwH P t all H ok K (λkt=>arT P ts kt ix) d
 |.makeMap t none=>ZsN P t all H K
 |.makeSlice t l c=>((arT P ts 0 l).bind TD.numI).bind λn=>((arT P ts 0 c).bind TD.numI).bind λn'=>if Zoj hi.rowt o.dst then ZAI P t n.n n'.n all H K else Znk P t (Zoj hi.own o.dst) (Zoj hi.row o.dst) n.n n'.n all H K
 |.mapUpdate t x k v=>(arT P ts t x).bind λd=>ZwL P t all H K (λkt=>arT P ts kt k) (λet=>arT P ts et v) d
 |.alloc t=>ZAx P hi o.dst t all H K
 |.box t x=>(arT P ts t x).bind (ZJK hi o.dst all H K)
 |.store t x y=>(arT P ts 0 x).bind λa=>(arT P ts t y).bind λv=>if a.isRp then ZwZ P t all H K v a else ZAy P (ZK5 hi x) t all H K v a
 |.buildSlice t len parts=>if Zoj hi.rowt o.dst then(match (o.dst.bind λd=>hi.rew.lookup d).bind λs=>all[s]? with
  |some (.rw id)=>ZAH P ts t len parts.toList id all H K
  |_=>ZFm P ts t len parts.toList all H K) else if Zoj hi.row o.dst then(if ZK6 P ts t (lk H) parts.toList=true then ZwQ P ts t len parts.toList all H K else ZsP P ts t len parts.toList all H K) else if Zoj hi.own o.dst then ZwS P ts t len parts.toList all H K else ZkC P o ts all H K
 |.indexAddr t x ix=>(arT P ts t x).bind λa=>if a.isRw then(arT P ts 0 ix).bind λb=>b.inner.bind λip=>(Zwu ip).bind λq=>ZwX P t q.2 all H K a else ZkC P o ts all H K
 |.call c=>match c.callee with
  |.builtin .len=>match c.args.toList,c.argTypes.toList with
   |[x],[t]=>(arT P ts t x).bind λd=>if d.isMp then ZwJ P t all H K d else if d.isRw then ZFl P t all H K d else ZkC P o ts all H K
   |_,_=>none
  |.builtin .append=>match c.args.toList,c.argTypes.toList with
   |[x,y],[t,u]=>(arT P ts t x).bind λa=>(arT P ts u y).bind λb=>if a.isRw || (a.isNilSl&&Zoj hi.rowt o.dst) then ZsQ P true t u all H K b a else if a.isOwn || a.isRv || (a.isNilSl&&(Zoj hi.own o.dst || Zoj hi.row o.dst)) then ZwU P (Zoj hi.own o.dst) (Zoj hi.row o.dst) t u all H K b (if hi.eqs=true then ZAA H a else a) else ZkC P o ts all H K
   |_,_=>none
  |.builtin .copy=>match c.args.toList,c.argTypes.toList with
   |[x,y],[t,u]=>(arT P ts t x).bind λa=>(arT P ts u y).bind λb=>ZFk P t u all H K b a
   |_,_=>none
  |.builtin .clear=>match c.args.toList,c.argTypes.toList with
   |[x],[t]=>(arT P ts t x).bind λa=>ZAB P t all H K a
   |_,_=>none
  |.builtin .delete=>match c.args.toList,c.argTypes.toList with
   |[x,y],[t,u]=>(arT P ts t x).bind λa=>ZwN P t all H K (arT P ts u y) a
   |_,_=>none
  |.value f=>match arT P ts 0 f with
   |some (.fn g cap)=>if(ZcN P (Ziw g)&&c.args.size==c.argTypes.size)=true then(ZsU P ts c.args.toList c.argTypes.toList).bind λaz=>ZFv specs (Ziw g) all H K (if g < big then az++cap else cap++az) else ZkC P o ts all H K
   |_=>none
  |.invoke recv name=>match arT P ts 0 recv with
   |some (.iface t x)=>(ZFu specs.mt t name).bind λg=>if(ZcN P g&&c.args.size==c.argTypes.size)=true then(ZsU P ts c.args.toList c.argTypes.toList).bind λaz=>ZFv specs g all H (λa d H' hs _=>K a d H' (.meth g::hs) 2) (x::az) else none
   |_=>none
  |_=>none
 |_=>ZkC P o ts all H K
theorem Zbk{d:TD}{n:Num}(h:d.numI=some n):d.num=some n∧n.k=.i64:=by
 unfold TD.numI at h;split at h
 ·rename_i a hn;split at h
  ·rename_i e;cases h;exact⟨hn,e⟩
  ·cases h
 ·cases h
theorem ZsX{hi:HI}{x:yo}{asg:Bool}(ho:if asg=true then o.op=.assign x else o.op=.move x)(h:ZB6 P hi o x asg ts all H K=some out):∃a d H' hs c,K a d H' hs c=some out∧Good P o ts all H a d H' hs c:=by
 unfold ZB6 at h;split at h
 ·rename_i t d hd hx;split at h
  ·refine ZyR (x:=x) ?_ hd hx h;cases asg
   ·exact .inr ho
   ·exact .inl ho
  split at h
  ·refine Zw2 (x:=x) ?_ hd hx h;cases asg
   ·exact .inr ho
   ·exact .inl ho
  split at h
  ·rename_i ha;rw[yj] at ha;rw[if_pos ha.1] at ho;exact Zw4 ho hd hx h
  ·split at h
   ·rename_i ha;rw[yj] at ha;rw[if_pos ha.1] at ho;exact ZyK ho hd hx h
   ·exact Vc h
 ·exact Vc h
theorem ZsY{hi:HI}{specs:Sp P}(ok:SpOk specs)(h:opT P hi specs o ts all H K=some out):∃a d H' hs c,K a d H' hs c=some out∧Good P o ts all H a d H' hs c:=by
 unfold opT at h;split at h
 ·rename_i x ho;exact ZsX (asg:=false) ho h
 ·rename_i x ho;exact ZsX (asg:=true) ho h
 ·rename_i t x lo hi' ho;split at h
  ·obtain⟨a,h1,h⟩:=yf.1 h;obtain⟨l,h2,h⟩:=yf.1 h;obtain⟨r,h3,h⟩:=yf.1 h;exact ZDE ho h1 h2 h3 h
  ·obtain⟨a,h1,h⟩:=yf.1 h;obtain⟨l,h2,h⟩:=yf.1 h;obtain⟨r,h3,h⟩:=yf.1 h;split at h
   ·exact Zut ho h1 h2 h3 h
   split at h
   ·exact ZyI ho h1 h2 h3 h
   ·exact Vc h
 ·rename_i t x ho;obtain⟨d,h1,h⟩:=yf.1 h;split at h
  ·exact ZAt ho h1 h
  split at h
  ·exact ZyS ho h1 h
  ·exact Vc h
 ·rename_i t x ix okk ho;obtain⟨d,h1,h⟩:=yf.1 h;exact ZwI ho h1 h
 ·rename_i t ho;exact Zuq ho h
 ·rename_i t l c ho;obtain⟨n,h1,h⟩:=yf.1 h;obtain⟨n',h2,h⟩:=yf.1 h;obtain⟨d1,g1,g2⟩:=yf.1 h1;obtain⟨d2,g3,g4⟩:=yf.1 h2;split at h
  ·exact ZyV ho (by rw[g1];exact(Zbk g2).1) (by rw[g3];exact(Zbk g4).1) (Zbk g2).2 (Zbk g4).2 h
  exact Zrj ho (by rw[g1];exact(Zbk g2).1) (by rw[g3];exact(Zbk g4).1) (Zbk g2).2 (Zbk g4).2 h
 ·rename_i t x k v ho;obtain⟨d,h1,h⟩:=yf.1 h;exact ZwM ho h1 h
 ·rename_i t ho;exact ZyM ho h
 ·rename_i t x ho;obtain⟨d,h1,h⟩:=yf.1 h;exact ZDC ho h1 h
 ·rename_i t x y ho;obtain⟨a,h1,h⟩:=yf.1 h;obtain⟨v,h2,h⟩:=yf.1 h;split at h
  ·exact Zw0 ho h1 h2 h
  ·exact ZyN ho h1 h2 h
 ·rename_i t len parts ho;split at h
  ·split at h
   ·exact ZyU ho h
   ·exact ZAG ho h
  split at h
  ·split at h
   ·exact ZwR ho h
   ·exact Zur ho h
  split at h
  ·exact ZwT ho h
  ·exact Vc h
 ·rename_i t x ix ho;obtain⟨a,h1,h⟩:=yf.1 h;split at h
  ·obtain⟨b,h2,h⟩:=yf.1 h;obtain⟨ip,h3,h⟩:=yf.1 h;obtain⟨q,h4,h⟩:=yf.1 h;rw[Xj h3] at h2;exact ZwY ho h1 h2 h4 h
  ·exact Vc h
 ·rename_i c ho;split at h
  ·rename_i hc;split at h
   ·rename_i x t ha ht;obtain⟨d,h1,h⟩:=yf.1 h;split at h
    ·exact ZwK ho hc ha ht h1 h
    split at h
    ·exact ZAE ho hc ha ht h1 h
    ·exact Vc h
   ·cases h
  ·rename_i hc;split at h
   ·rename_i x y t u ha ht;obtain⟨a,h1,h⟩:=yf.1 h;obtain⟨b,h2,h⟩:=yf.1 h;split at h
    ·exact Zus ho hc ha ht (Zw h1) h2 h
    split at h
    ·refine ZwV ho hc ha ht ?_ h2 h;split
     ·rw[ZDD];exact Zw h1
     ·exact Zw h1
    ·exact Vc h
   ·cases h
  ·rename_i hc;split at h
   ·rename_i x y t u ha ht;obtain⟨a,h1,h⟩:=yf.1 h;obtain⟨b,h2,h⟩:=yf.1 h;exact ZAC ho hc ha ht h1 h2 h
   ·cases h
  ·rename_i hc;split at h
   ·rename_i x t ha ht;obtain⟨a,h1,h⟩:=yf.1 h;exact ZyP ho hc ha ht h1 h
   ·cases h
  ·rename_i hc;split at h
   ·rename_i x y t u ha ht;obtain⟨a,h1,h⟩:=yf.1 h;exact ZwO ho hc ha ht h1 h
   ·cases h
  ·rename_i f hc;split at h
   ·rename_i g cap hf;split at h
    ·rename_i hb;obtain⟨az,h1,h⟩:=yf.1 h;obtain⟨a,d,H',hs,cc,k1,k2⟩:=Zy1 ok h;exact⟨a,d,H',hs,cc,k1,ZDF ho hc hf hb h1 k2⟩
    ·exact Vc h
   ·cases h
  ·rename_i recv name hc;split at h
   ·rename_i t x hf;obtain⟨g,hg,h⟩:=yf.1 h;obtain⟨hb,h⟩:=Za h;obtain⟨az,h1,h⟩:=yf.1 h;obtain⟨a,d,H',hs,cc,k1,k2⟩:=Zy1 ok h;exact⟨a,d,H',_,_,k1,ZDG ho hc hf (Zw8 ok.mt hg) hb h1 k2⟩
   ·cases h
  ·cases h
 ·exact Vc h
def ZAK(ops:Array Oper)(j:Nat):Option Tmp:=(ops[j]?).bind (·.dst)
def Zuv(b:Bool):TD:=.p (.v .bool b)
def ZFx:TD→Bool
 |.tup []=>true
 |_=>false
def gT(P:yg)(hi:HI)(specs:Sp P)(ops:Array Oper)(o:Oper)(ts all:List TD)(H:List TEnt)(K:Kn O):Option O:=
 match o.guard with
 |none=>opT P hi specs o ts all H K
 |some (j,want)=>(ZAK ops j).bind λt=>match (ts.getD t .junk).boolT with
  |some b=>
   if b=true then
    if true=want then opT P hi specs o (ts.set t (Zuv true)) (all.set t (Zuv true)) H λa d H' hs c=>K a d H' (.b true::hs) c
    else K (all.set t (Zuv true)) (.tup []) H [.b true] 0
   else
    if false=want then opT P hi specs o (ts.set t (Zuv false)) (all.set t (Zuv false)) H λa d H' hs c=>K a d H' (.b false::hs) c
    else K (all.set t (Zuv false)) (.tup []) H [.b false] 0
  |none=>if ZFx (ts.getD t .junk) then K all (.tup []) H [.raw] 0 else none
structure GoodG(P:yg)(ops:Array Oper)(o:Oper)(ts all:List TD)(H:List TEnt)(all':List TD)(d:TD)(H':List TEnt)(hs:List Hint)(cls:Nat):Prop where
 same:TD.ers (lk H') all'=TD.ers (lk H) all
 len:all'.length=all.length
 op:∃C,AllP C∧∀rest,evG P ops o (TD.ers (lk H) ts) (erH H) (hs++rest)=some (C,d.er (lk H'),erH H',rest)
 sam:cls=3→erH H'=erH H
 cls:∀rest,clsOf P o (TD.ers (lk H) ts) (erH H) (hs++rest)≤cls
theorem Zw9{d:TD}{a:List TD}{H':List TEnt}{hs:List Hint}{c:Nat}(h:Good P o ts all H a d H' hs c):∃C,AllP C∧(∀rest,Zix P o (TD.ers (lk H) ts) (erH H) (hs++rest)=some (C,d.er (lk H'),erH H',rest))∧
 ∀rest,(if(evN P o (TD.ers (lk H) ts) (hs++rest)).isSome then 0 else if(evR P o (TD.ers (lk H) ts) (erH H) (hs++rest)).isSome then 1 else 2)≤c:=by
 rcases h.op with⟨rfl,rfl,C,h1,h2⟩|⟨rfl,rfl,h0,C,h1,h2⟩|⟨rfl,h0,h00,C,h1,h2⟩|⟨rfl,_,h0,h00,C,h1,h2⟩
 ·exact⟨C,h1,λrest=>by unfold Zix;rw[h2 rest],λrest=>by rw[h2 rest];simp⟩
 ·exact⟨C,h1,λrest=>by unfold Zix;rw[h0 rest];dsimp only;rw[h2 rest],λrest=>by rw[h0 rest,h2 rest];simp⟩
 ·exact⟨C,h1,λrest=>by unfold Zix;rw[h0 rest];dsimp only;rw[h00 rest];exact h2 rest,λrest=>by rw[h0 rest,h00 rest];simp⟩
 ·exact⟨C,h1,λrest=>by unfold Zix;rw[h0 rest];dsimp only;rw[h00 rest];exact h2 rest,λrest=>by rw[h0 rest,h00 rest];simp⟩
theorem ZsZ{d:TD}{a:List TD}{H':List TEnt}{hs:List Hint}{c:Nat}(h:Good P o ts all H a d H' hs c)(hc:c=3):erH H'=erH H:=by
 subst hc;rcases h.op with⟨e,_⟩|⟨e,_⟩|⟨e,_⟩|⟨_,e,_⟩
 ·cases e
 ·cases e
 ·cases e
 ·exact e
theorem Zy2{l:List TD}{t:Nat}{b:Bool}(h:(l.getD t .junk).boolT=some b):l.getD t .junk=Zuv b:=by
 unfold TD.boolT at h;split at h
 ·rename_i x hx;unfold TP.boolB at h;split at h
  ·cases h;exact hx
  ·cases h
 ·cases h
theorem set_same{l:List TD}{t:Nat}{d:TD}(h:l.getD t .junk=d):(l.set t d)=l:=by
 apply ybq;intro i;rw[ybw];split
 ·rename_i e;subst e;split
  ·rename_i hl;rw[←h,ycw,yac hl];rfl
  ·rename_i hl;rw[yap (by omega)]
 ·rfl
theorem ZB7{hi:HI}{specs:Sp P}{ops:Array Oper}(ok:SpOk specs)(hg:∀j want t,o.guard=some (j,want)→ZAK ops j=some t→ts.getD t .junk=all.getD t .junk)(h:gT P hi specs ops o ts all H K=some out):
 ∃a d H' hs c,K a d H' hs c=some out∧GoodG P ops o ts all H a d H' hs c:=by
 unfold gT at h;split at h
 ·rename_i hgd;obtain⟨a,d,H',hs,c,h1,h2⟩:=ZsY ok h;obtain⟨C,g1,g2,g3⟩:=Zw9 h2;refine⟨a,d,H',hs,c,h1,h2.same,h2.len,⟨C++[],Zl.2 ⟨g1,ytt⟩,λrest=> ?_⟩,ZsZ h2,λrest=> ?_⟩
  ·unfold evG;rw[hgd];dsimp only;rw[g2 rest];rfl
  ·unfold clsOf;rw[hgd];exact g3 rest
 ·rename_i j want hgd;obtain⟨t,ht,h9⟩:=yf.1 h;clear h;have eall:=hg j want t hgd ht
  have eslot:((ops[j]?).bind (·.dst)).map (λt=>(TD.ers (lk H) ts).getD t .junk)=some ((ts.getD t .junk).er (lk H)):=by
   rw[show(ops[j]?).bind (·.dst)=some t from ht,yab,Zn4]
  split at h9
  ·rename_i b hb;have e1:=Zy2 hb;have e2:all.getD t .junk=Zuv b:=by rw[←eall];exact e1
   have e3:(ts.getD t .junk).er (lk H)=.p (.bool b):=ZhX hb;split at h9
   ·rename_i hbt;subst hbt;rw[set_same e1,set_same e2] at h9;split at h9
    ·rename_i hw;subst hw;obtain⟨a,d,H',hs,c,h1,h2⟩:=ZsY ok h9;obtain⟨C,g1,g2,g3⟩:=Zw9 h2;refine⟨a,d,H',_,c,h1,h2.same,h2.len,⟨(true=true)::C++[],Zl.2 ⟨⟨rfl,g1⟩,ytt⟩,λrest=> ?_⟩,ZsZ h2,λrest=> ?_⟩
     ·unfold evG;rw[hgd];dsimp only;rw[eslot,e3];simp only[yaa,if_true,g2 rest];rfl
     ·unfold clsOf;rw[hgd];simp only[yaa,if_true];exact g3 rest
    ·rename_i hw;refine⟨_,_,_,_,_,h9,rfl,rfl,⟨[true=true],⟨rfl,ytt⟩,λrest=> ?_⟩,λ_=>rfl,λrest=> ?_⟩
     ·unfold evG;rw[hgd];dsimp only;rw[eslot,e3];simp only[yaa,yx,if_neg hw];rfl
     ·unfold clsOf;rw[hgd];simp only[yaa,if_neg hw];exact yn _
   ·rename_i hbt;have hbt:b=false:=by simpa using hbt
    subst hbt;rw[set_same e1,set_same e2] at h9;split at h9
    ·rename_i hw;subst hw;obtain⟨a,d,H',hs,c,h1,h2⟩:=ZsY ok h9;obtain⟨C,g1,g2,g3⟩:=Zw9 h2;refine⟨a,d,H',_,c,h1,h2.same,h2.len,⟨(false=false)::C++[],Zl.2 ⟨⟨rfl,g1⟩,ytt⟩,λrest=> ?_⟩,ZsZ h2,λrest=> ?_⟩
     ·unfold evG;rw[hgd];dsimp only;rw[eslot,e3];simp only[yaa,if_true,g2 rest];rfl
     ·unfold clsOf;rw[hgd];simp only[yaa,if_true];exact g3 rest
    ·rename_i hw;refine⟨_,_,_,_,_,h9,rfl,rfl,⟨[false=false],⟨rfl,ytt⟩,λrest=> ?_⟩,λ_=>rfl,λrest=> ?_⟩
     ·unfold evG;rw[hgd];dsimp only;rw[eslot,e3];simp only[yaa,yx,if_neg hw];rfl
     ·unfold clsOf;rw[hgd];simp only[yaa,if_neg hw];exact yn _
  ·obtain⟨h1,h9⟩:=Za h9
   have e3:(ts.getD t .junk).er (lk H)=.tup []:=by
    unfold ZFx at h1;split at h1
    ·rename_i hx;rw[hx];rfl
    ·cases h1
   refine⟨_,_,_,_,_,h9,rfl,rfl,⟨[],trivial,λrest=> ?_⟩,λ_=>rfl,λrest=> ?_⟩
   ·unfold evG;rw[hgd];dsimp only;rw[eslot,e3];rfl
   ·unfold clsOf;rw[hgd];exact yn _
def Zvp(ts:List TD)(dst:Option Tmp)(d:TD):List TD:=
 match dst with
 |some i=>ts.set i d
 |none=>ts
theorem Zy3{L:Lk}(dst:Option Tmp)(d:TD):TD.ers L (Zvp ts dst d)=Zj0 (TD.ers L ts) dst (d.er L):=by
 cases dst with
 |none=>rfl
 |some i=>simp only[Zvp,Zj0,ZP,ybp]
theorem Zvq(dst:Option Tmp)(d:TD):(Zvp ts dst d).length=ts.length:=by
 cases dst <;> simp[Zvp]
def ZFy(P:yg)(hi:HI)(specs:Sp P)(ops:Array Oper):List Oper→List TD→List TEnt→(List TD→List TEnt→List Hint→Option O)→Option O
 |[],all,H,K=>K all H []
 |o::r,all,H,K=>gT P hi specs ops o all all H λa d H' hs _=>ZFy P hi specs ops r (Zvp a o.dst d) H' λa' h' hs'=>K a' h' (hs++hs')
theorem Zvr{hi:HI}{specs:Sp P}{ops:Array Oper}(ok:SpOk specs):∀(l:List Oper)(all:List TD)(H:List TEnt)(K:List TD→List TEnt→List Hint→Option O),ZFy P hi specs ops l all H K=some out→
 ∃a h hs C,K a h hs=some out∧a.length=all.length∧AllP C∧∀rest,Zr3 P ops l (TD.ers (lk H) all) (erH H) (hs++rest)=some (C,TD.ers (lk h) a,erH h,rest)
 |[],all,H,K,h=>⟨all,H,[],[],h,rfl,trivial,λ_=>rfl⟩
 |o::r,all,H,K,h=>by
  unfold ZFy at h;obtain⟨a,d,H',hs,c,h1,h2⟩:=ZB7 ok (λ_ _ _ _ _=>rfl) h;obtain⟨a',h',hs',C',k1,k0,k2,k3⟩:=Zvr ok r _ _ _ h1;obtain⟨C,g1,g2⟩:=h2.op;refine⟨a',h',_,C++C',k1,by rw[k0,Zvq,h2.len],Zl.2 ⟨g1,k2⟩,λrest=> ?_⟩;unfold Zr3;rw[yaj,g2 (hs'++rest)];dsimp only;rw[←h2.same, ←Zy3,k3 rest]
end
end Go.Ev
end
section
namespace Go.Ev
section
variable{P:yg}{o:Oper}{ts all:List TD}{H:List TEnt}{O:Type}{out:O}
def ZjF(keep:List Nat):Nat→List TD→List TD
 |_,[]=>[]
 |i,d::r=>(if keep.contains i then d else .junk)::ZjF keep (i+1) r
theorem Zok{L:Lk}(keep:List Nat):∀(l:List TD)(k:Nat),TD.ers L (ZjF keep k l)=ZV keep k (TD.ers L l)
 |[],_=>rfl
 |d::r,k=>by
  rw[ZjF,TD.ers,TD.ers,ZV,Zok keep r];split <;> rfl
theorem Zvs(keep:List Nat):∀(l:List TD)(k t:Nat),keep.contains (k+t)=true→(ZjF keep k l).getD t .junk=l.getD t .junk
 |[],_,_,_=>rfl
 |d::r,k,0,h=>by
  have h':keep.contains k=true:=h
  simp only[ZjF,h',if_true,List.getD_cons_zero]
 |d::r,k,t+1,h=>by
  simp only[ZjF,List.getD_cons_succ];exact Zvs keep r (k+1) t (by rw[show k+1+t=k+(t+1) by omega];exact h)
mutual
def Pl.sameB:Pl→Pl→Bool
 |.int k n,.int l m=>decide (k=l)&&decide (n=m)
 |.bool a,.bool b=>a==b
 |.str a,.str b=>decide (a=b)
 |.ptr0,.ptr0=>true
 |.fn0,.fn0=>true
 |.if0,.if0=>true
 |.map0,.map0=>true
 |.fnv f,.fnv g=>Nat.beq f g
 |.agg xs,.agg ys=>Pl.samesB xs ys
 |.arr n s xs,.arr m u ys=>Nat.beq n m&&Nat.beq s u&&Pl.samesB xs ys
 |.sl a s xs,.sl b u ys=>a==b&&Nat.beq s u&&Pl.samesB xs ys
 |.iface t x,.iface u y=>Nat.beq t u&&Pl.sameB x y
 |_,_=>false
def Pl.samesB:List Pl→List Pl→Bool
 |[],[]=>true
 |x::r,y::q=>Pl.sameB x y&&Pl.samesB r q
 |_,_=>false
end
mutual
theorem Pl.sameB_eq:∀(a b:Pl),Pl.sameB a b=true→a=b
 |.int k n,b,h=>by cases b <;> simp_all[Pl.sameB]
 |.bool k,b,h=>by cases b <;> simp_all[Pl.sameB]
 |.str k,b,h=>by cases b <;> simp_all[Pl.sameB]
 |.ptr0,b,h=>by cases b <;> simp_all[Pl.sameB]
 |.fn0,b,h=>by cases b <;> simp_all[Pl.sameB]
 |.if0,b,h=>by cases b <;> simp_all[Pl.sameB]
 |.map0,b,h=>by cases b <;> simp_all[Pl.sameB]
 |.fnv f,b,h=>by cases b <;> simp_all[Pl.sameB]
 |.agg xs,b,h=>by cases b <;> simp_all[Pl.sameB];exact Pl.samesB_eq _ _ h
 |.arr n s xs,b,h=>by cases b <;> simp_all[Pl.sameB];exact Pl.samesB_eq _ _ h.2
 |.sl n s xs,b,h=>by cases b <;> simp_all[Pl.sameB];exact Pl.samesB_eq _ _ h.2
 |.iface t x,b,h=>by cases b <;> simp_all[Pl.sameB];exact Pl.sameB_eq _ _ h.2
theorem Pl.samesB_eq:∀(a b:List Pl),Pl.samesB a b=true→a=b
 |[],[],_=>rfl
 |[],_::_,h=>by cases h
 |_::_,[],h=>by cases h
 |x::r,y::q,h=>by
  simp only[Pl.samesB,yj] at h;rw[Pl.sameB_eq x y h.1,Pl.samesB_eq r q h.2]
end
def Zvt:List Nat→List Nat→Bool
 |[],[]=>true
 |x::r,y::q=>Nat.beq x y&&Zvt r q
 |_,_=>false
theorem Zol:∀(a b:List Nat),Zvt a b=true→a=b
 |[],[],_=>rfl
 |[],_::_,h=>by cases h
 |_::_,[],h=>by cases h
 |x::r,y::q,h=>by
  simp only[Zvt,yj] at h;rw[Nat.eq_of_beq_eq_true h.1,Zol r q h.2]
mutual
def Dv.sameB:Dv→Dv→Bool
 |.p x,.p y=>Pl.sameB x y
 |.elem x,.elem y=>Pl.sameB x y
 |.ref i o l,.ref j q m=>Nat.beq i j&&Nat.beq o q&&Zvt l m
 |.own i a s xs,.own j b u ys=>Nat.beq i j&&a==b&&Nat.beq s u&&Pl.samesB xs ys
 |.view i o l a b c,.view i' o' l' a' b' c'=>Nat.beq i i'&&Nat.beq o o'&&Zvt l l'&&Nat.beq a a'&&Nat.beq b b'&&Nat.beq c c'
 |.agg xs,.agg ys=>Dv.samesB xs ys
 |.arr n s xs,.arr m u ys=>Nat.beq n m&&Nat.beq s u&&Dv.samesB xs ys
 |.fn f xs,.fn g ys=>Nat.beq f g&&Dv.samesB xs ys
 |.iface t x,.iface u y=>Nat.beq t u&&Dv.sameB x y
 |.tup xs,.tup ys=>Dv.samesB xs ys
 |.mp i,.mp j=>Nat.beq i j
 |.rv a b c d e,.rv a' b' c' d' e'=>Nat.beq a a'&&Nat.beq b b'&&Nat.beq c c'&&Nat.beq d d'&&Nat.beq e e'
 |.rref a b c l,.rref a' b' c' l'=>Nat.beq a a'&&Nat.beq b b'&&Nat.beq c c'&&Zvt l l'
 |.junk,.junk=>true
 |_,_=>false
def Dv.samesB:List Dv→List Dv→Bool
 |[],[]=>true
 |x::r,y::q=>Dv.sameB x y&&Dv.samesB r q
 |_,_=>false
end
theorem ZgD{a b:Nat}(h:Nat.beq a b=true):a=b:=Nat.eq_of_beq_eq_true h
mutual
theorem Dv.sameB_eq:∀(a b:Dv),Dv.sameB a b=true→a=b
 |.p x,b,h=>by
  cases b <;> simp only[Dv.sameB,ybu] at h
  rw[Pl.sameB_eq _ _ h]
 |.elem x,b,h=>by
  cases b <;> simp only[Dv.sameB,ybu] at h
  rw[Pl.sameB_eq _ _ h]
 |.ref i o l,b,h=>by
  cases b <;> simp only[Dv.sameB,ybu,yj] at h
  rw[ZgD h.1.1,ZgD h.1.2,Zol _ _ h.2]
 |.own i a s xs,b,h=>by
  cases b <;> simp only[Dv.sameB,ybu,yj,beq_iff_eq] at h
  rw[ZgD h.1.1.1,h.1.1.2,ZgD h.1.2,Pl.samesB_eq _ _ h.2]
 |.view i o l a k c,b,h=>by
  cases b <;> simp only[Dv.sameB,ybu,yj] at h
  rw[ZgD h.1.1.1.1.1,ZgD h.1.1.1.1.2,Zol _ _ h.1.1.1.2,ZgD h.1.1.2,ZgD h.1.2,ZgD h.2]
 |.agg xs,b,h=>by
  cases b <;> simp only[Dv.sameB,ybu] at h
  rw[Dv.samesB_eq _ _ h]
 |.arr n s xs,b,h=>by
  cases b <;> simp only[Dv.sameB,ybu,yj] at h
  rw[ZgD h.1.1,ZgD h.1.2,Dv.samesB_eq _ _ h.2]
 |.fn f xs,b,h=>by
  cases b <;> simp only[Dv.sameB,ybu,yj] at h
  rw[ZgD h.1,Dv.samesB_eq _ _ h.2]
 |.iface t x,b,h=>by
  cases b <;> simp only[Dv.sameB,ybu,yj] at h
  rw[ZgD h.1,Dv.sameB_eq _ _ h.2]
 |.tup xs,b,h=>by
  cases b <;> simp only[Dv.sameB,ybu] at h
  rw[Dv.samesB_eq _ _ h]
 |.mp i,b,h=>by
  cases b <;> simp only[Dv.sameB,ybu] at h
  rw[ZgD h]
 |.rv a k c d e,b,h=>by
  cases b <;> simp only[Dv.sameB,ybu,yj] at h
  rw[ZgD h.1.1.1.1,ZgD h.1.1.1.2,ZgD h.1.1.2,ZgD h.1.2,ZgD h.2]
 |.rref a k c l,b,h=>by
  cases b <;> simp only[Dv.sameB,ybu,yj] at h
  rw[ZgD h.1.1.1,ZgD h.1.1.2,ZgD h.1.2,Zol _ _ h.2]
 |.junk,b,h=>by
  cases b <;> simp only[Dv.sameB,ybu] at h;rfl
theorem Dv.samesB_eq:∀(a b:List Dv),Dv.samesB a b=true→a=b
 |[],[],_=>rfl
 |[],_::_,h=>by cases h
 |_::_,[],h=>by cases h
 |x::r,y::q,h=>by
  simp only[Dv.samesB,yj] at h;rw[Dv.sameB_eq x y h.1,Dv.samesB_eq r q h.2]
end
def Ent.sameB:Option Ent→Option Ent→Bool
 |some (.var d _),some (.var e _)=>Dv.sameB d e
 |_,_=>false
theorem Ent.sameB_rd{a b:Option Ent}(h:Ent.sameB a b=true):rdE a=rdE b:=by
 unfold Ent.sameB at h;split at h
 ·rw[Dv.sameB_eq _ _ h];rfl
 ·cases h
structure TR where
 cls:Nat
 rd:Option Nat
 tc:Option (List Nat)
 n:Nat
 push:Bool
 loc:Bool
 m:Nat
 sm:Nat→Bool
def ZB8(P:yg)(hi:HI)(specs:Sp P)(ops:Array Oper):List Oper→List TD→List TEnt→(List TD→List TEnt→List TR→List Hint→Option O)→Option O
 |[],all,H,K=>K all H [] []
 |o::r,all,H,K=>gT P hi specs ops o (ZjF (looks ops o) 0 all) all H λa d H' hs c=>ZB8 P hi specs ops r (Zvp a o.dst d) H' λa' h' rs hs'=>
   K a' h' (⟨c,ZC6 P o (TD.ers (lk H) (ZjF (looks ops o) 0 all)),Zwb P o (TD.ers (lk H) (ZjF (looks ops o) 0 all)) hs,H.length,Ziy o,ZnK o hs,H'.length,λid=>(c==3) || Ent.sameB ((erH H')[id]?) ((erH H)[id]?)⟩::rs) (hs++hs')
def RecOk(R:Rec)(r:TR):Prop:=R.cls≤r.cls∧R.rd=r.rd∧(∀l,r.tc=some l→R.tc=some l)∧R.H.length=r.n∧R.push=r.push∧(r.loc=true→R.loc=true)∧R.H'.length=r.m∧∀id,r.sm id=true→rdE (R.H'[id]?)=rdE (R.H[id]?)
inductive RecsOk:List Rec→List TR→Prop where
 |nil:RecsOk [] []
 |cons {R:Rec} {r:TR} {Rs:List Rec} {rs:List TR} (h:RecOk R r) (k:RecsOk Rs rs):RecsOk (R::Rs) (r::rs)
theorem ZAL{ts:List Dv}{hs rest:List Hint}{l:List Nat}(h:ZeJ P o ts hs=some l):ZeJ P o ts (hs++rest)=some l:=by
 unfold ZeJ at h ⊢;split at h <;> first|exact h|skip
 ·cases hs with
  |nil=>cases h
  |cons x r=>rw[yaa];cases x <;> exact h
 split at h <;> first|exact h|skip
 all_goals
  split at h
  ·exact h
  ·cases h
theorem ZHX{ts:List Dv}{hs rest:List Hint}{l:List Nat}(h:Zwb P o ts hs=some l):Zwb P o ts (hs++rest)=some l:=by
 unfold Zwb at h ⊢;split at h
 ·rename_i hg;rw[if_pos hg];exact ZAL h
 ·cases h
theorem ZFz{hs rest:List Hint}(h:ZnK o hs=true):ZnK o (hs++rest)=true:=by
 unfold ZnK at h ⊢;rw[yj] at h ⊢;refine⟨h.1, ?_⟩;have h:=h.2;split at h
 ·split at h
  ·split at h
   ·exact h
   ·cases h
  ·split at h
   ·exact h
   ·cases h
  ·cases h
 ·cases h
theorem Zs0{hi:HI}{specs:Sp P}{ops:Array Oper}(ok:SpOk specs):∀(l:List Oper)(all:List TD)(H:List TEnt)(K:List TD→List TEnt→List TR→List Hint→Option O),ZB8 P hi specs ops l all H K=some out→
 ∃a h rs hs C,K a h rs hs=some out∧a.length=all.length∧AllP C∧∀rest,∃RS,evD P ops l (TD.ers (lk H) all) (erH H) (hs++rest)=some (C,RS,TD.ers (lk h) a,erH h,rest)∧RecsOk RS rs
 |[],all,H,K,h=>⟨all,H,[],[],[],h,rfl,trivial,λ_=>⟨[],rfl,.nil⟩⟩
 |o::r,all,H,K,h=>by
  unfold ZB8 at h
  have hgd:∀j want t,o.guard=some (j,want)→ZAK ops j=some t→(ZjF (looks ops o) 0 all).getD t .junk=all.getD t .junk:=by
   intro j want t hg hs;refine Zvs _ _ _ _ ?_;rw[Nat.zero_add];unfold looks;rw[hg];dsimp only;rw[show(ops[j]?).bind (·.dst)=some t from hs]
   simp
  obtain⟨a,d,H',hs,c,h1,h2⟩:=ZB7 ok hgd h;obtain⟨a',h',rs,hs',C',k1,k0,k2,k3⟩:=Zs0 ok r _ _ _ h1;obtain⟨C,g1,g2⟩:=h2.op;refine⟨a',h',_,_,C++C',k1,by rw[k0,Zvq,h2.len],Zl.2 ⟨g1,k2⟩,λrest=> ?_⟩;obtain⟨RS,e1,e2⟩:=k3 rest;unfold evD;rw[←Zok,yaj,g2 (hs'++rest)];dsimp only;rw[←h2.same, ←Zy3,e1]
  refine⟨_,rfl,.cons ⟨h2.cls _,rfl,λl hl=> ?_,ZQ _,rfl,λhl=>ZFz hl,ZQ _,λid hs=>by
   have hs:(c==3 || Ent.sameB ((erH H')[id]?) ((erH H)[id]?))=true:=hs;rw[yce] at hs;rcases hs with h5|h5
   ·rw[h2.sam (by simpa using h5)]
   ·exact Ent.sameB_rd h5⟩ e2⟩
  exact ZHX hl
def ZB9(ops:Array Oper)(cls:List Nat)(free comm:Nat→Nat→Bool):Bool:=
 let l:=ops.toList;let A:=ZEr l;let n:=l.length
 (cls.length==n)&&ZhQ l 0&&
 ((yw n).all λi=>match l[i]? with|some o=>A.getD i 0==Ziz A i o|none=>true)&&
 ((yw n).all λi=>(yw n).all λj=>i==j || ZhR l i==none || !(ZhR l i==ZhR l j))&&
 ((yw n).all λi=>match l[i]? with
   |some o=>let k:=looks ops o
    (yw n).all λj=>match ZhR l j with
      |some t=>i==j || !(k.contains t) || (if j < i then(A.getD i 0).testBit j else(A.getD j 0).testBit i)
      |none=>true
   |none=>true)&&
 ((yw n).all λi=>cls.getD i 0==0 || (yw n).all λj=>i==j || decide (cls.getD j 0 < 2) || (if j < i then(A.getD i 0).testBit j else(A.getD j 0).testBit i) || (decide (cls.getD i 0≤1)&&free i j) || comm i j)
def ZFA(rs:List TR)(i j:Nat):Bool:=
 match rs[i]?,rs[j]? with
 |some r,some q=>match r.rd with
  |some id=>decide (id < q.n)&&decide (id < r.n)&&((match q.tc with|some l=> !l.contains id|none=>false) || q.sm id)
  |none=>false
 |_,_=>false
def cT(rs:List TR)(c:Nat)(r:TR):Bool:=r.loc || (r.push&&r.m==r.n+1&&(rs.take c).all λq=>decide (q.n≤r.n))
def cI(rs:List TR):Nat:=match rs.findIdx? (λr=>r.loc&&r.cls==2) with
 |some c=>c
 |none=>(rs.findIdx? (λr=>r.push)).getD 0
def ZCa(rs:List TR)(i j:Nat):Bool:=
 let c:=cI rs
 ((rs[c]?).map (cT rs c)).getD false&&((i==c&&decide (c < j)&&((rs[j]?).map (·.push)).getD false) || (j==c&&decide (c < i)&&((rs[i]?).map (·.push)).getD false))
theorem Zs1{RS:List Rec}{rs:List TR}(h:RecsOk RS rs):RS.length=rs.length:=by
 induction h with
 |nil=>rfl
 |cons _ _ ih=>simp[ih]
theorem ZkD{RS:List Rec}{rs:List TR}(h:RecsOk RS rs):∀{i:Nat}{r:TR},rs[i]? =some r→∃R,RS[i]? =some R∧RecOk R r:=by
 induction h with
 |nil=>intro i r h;simp at h
 |cons h k ih=>
  intro i r hi
  cases i with
  |zero=>cases hi;exact⟨_,rfl,h⟩
  |succ i=>exact ih hi
theorem ZDH{RS:List Rec}{rs:List TR}(h:RecsOk RS rs):∀{i:Nat}{R:Rec},RS[i]? =some R→∃r,rs[i]? =some r∧RecOk R r:=by
 induction h with
 |nil=>intro i r h;simp at h
 |cons h k ih=>
  intro i r hi
  cases i with
  |zero=>cases hi;exact⟨_,rfl,h⟩
  |succ i=>exact ih hi
theorem Zy4{RS:List Rec}{rs:List TR}(h:RecsOk RS rs)(i:Nat):(RS.map (·.cls)).getD i 0≤(rs.map (·.cls)).getD i 0:=by
 simp only[ycw,yal]
 cases hi:rs[i]? with
 |none=>
  have:RS[i]? =none:=by rw[List.getElem?_eq_none_iff] at hi ⊢;rw[Zs1 h];exact hi
  rw[this]
  exact yn _
 |some r=>
  obtain⟨R,e,k⟩:=ZkD h hi;rw[e];exact k.1
theorem ZHY{ops:Array Oper}{RS:List Rec}{rs:List TR}(h:RecsOk RS rs)(k:ZB9 ops (rs.map (·.cls)) (ZFA rs) (ZCa rs)=true)(hn:rs.length=ops.size):Zwc ops RS=true:=by
 unfold ZB9 at k;unfold Zwc;simp only[yj] at k ⊢;obtain⟨⟨⟨⟨⟨k1,k2⟩,k3⟩,k4⟩,k5⟩,k6⟩:=k;refine⟨⟨⟨⟨⟨?_,k2⟩,k3⟩,k4⟩,k5⟩, ?_⟩
 ·simpa[Zs1 h] using k1
 ·have hcm:∃c,c∈yw (ops.toList.length+1)∧∀i j,ZCa rs i j=true→Zhj RS c i j=true:=by
   have hget:∀(k:Nat),((rs[k]?).map (·.push)).getD false=true→((RS[k]?).map (·.push)).getD false=true:=by
    intro k hk
    cases hr:rs[k]? with
    |none=>rw[hr] at hk;cases hk
    |some r=>
     obtain⟨R,e1,e2⟩:=ZkD h hr;rw[hr] at hk;rw[e1];show R.push=true;rw[e2.2.2.2.2.1];exact hk
   refine⟨if cI rs < rs.length then cI rs else 0, ?_,λi j hij=> ?_⟩
   ·rw[List.mem_range];split
    ·rename_i hlt;rw[hn] at hlt;have:ops.toList.length=ops.size:=by simp
     omega
    ·omega
   ·unfold ZCa at hij;dsimp only at hij;generalize cI rs=c at hij ⊢;rw[yj] at hij;obtain⟨h1,h2⟩:=hij
    cases hr:rs[c]? with
    |none=>rw[hr] at h1;cases h1
    |some r=>
     have hlt:=(yr.1 hr).1;rw[if_pos hlt];obtain⟨R,e1,e2⟩:=ZkD h hr;rw[hr] at h1;unfold Zhj;rw[yj];refine⟨?_, ?_⟩
     ·rw[e1];show cOk RS c R=true;have h1:cT rs c r=true:=h1;unfold cT at h1;unfold cOk;rw[yce] at h1 ⊢;rcases h1 with h1|h1
      ·exact .inl (e2.2.2.2.2.2.1 h1)
      ·simp only[yj,beq_iff_eq,ybe,decide_eq_true_eq] at h1 ⊢;obtain⟨⟨b1,b2⟩,b3⟩:=h1;refine .inr ⟨⟨by rw[e2.2.2.2.2.1];exact b1,by rw[e2.2.2.2.2.2.2.1,e2.2.2.2.1];exact b2⟩,λq hq=> ?_⟩;obtain⟨k,hk⟩:=List.mem_iff_getElem?.1 hq;rw[List.getElem?_take] at hk;split at hk
       ·rename_i hkc;obtain⟨q2,f1,f2⟩:=ZDH h hk;rw[f2.2.2.2.1,e2.2.2.2.1];refine b3 q2 (List.mem_iff_getElem?.2 ⟨k, ?_⟩);rw[List.getElem?_take,if_pos hkc];exact f1
       ·cases hk
     ·simp only[yce,yj] at h2 ⊢;rcases h2 with⟨⟨a1,a2⟩,a3⟩|⟨⟨a1,a2⟩,a3⟩
      ·exact .inl ⟨⟨a1,a2⟩,hget _ a3⟩
      ·exact .inr ⟨⟨a1,a2⟩,hget _ a3⟩
  obtain⟨c,hc1,hc2⟩:=hcm;rw[List.any_eq_true];refine⟨c,hc1, ?_⟩;rw[ybe] at k6 ⊢;intro i hi;have:=k6 i hi;have hc:=Zy4 h i;simp only[yce] at this ⊢;rcases this with h0|h1
  ·left;have h0:(rs.map (·.cls)).getD i 0=0:=by simpa using h0
   have:(RS.map (·.cls)).getD i 0=0:=by omega
   simpa using this
  ·by_cases hz:(RS.map (·.cls)).getD i 0=0
   ·left;simpa using hz
   ·right;rw[ybe] at h1 ⊢;intro j hj;have h2:=h1 j hj;have hd:=Zy4 h j;simp only[yce,yj,decide_eq_true_eq] at h2 ⊢;rcases h2 with(((h2|h2)|h2)|h2)|h2
    ·exact .inl (.inl (.inl (.inl h2)))
    ·refine .inl (.inl (.inl (.inr ?_)));have:(RS.map (·.cls)).getD j 0≠2:=by omega
     simpa using this
    ·exact .inl (.inl (.inr h2))
    ·refine .inl (.inr ⟨?_, ?_⟩)
     ·have:(RS.map (·.cls)).getD i 0=1:=by omega
      simpa using this
     ·have hf:=h2.2;unfold ZFA at hf;unfold Zkl;split at hf
      ·rename_i r q hr hq;obtain⟨R,e1,e2⟩:=ZkD h hr;obtain⟨Q,e3,e4⟩:=ZkD h hq;rw[e1,e3];dsimp only;split at hf
       ·rename_i id hrd;rw[e2.2.1,hrd];dsimp only;rw[e4.2.2.2.1,e2.2.2.2.1];rw[yj] at hf ⊢;refine⟨hf.1, ?_⟩;rw[yce] at hf ⊢;rcases hf.2 with h5|h5
        ·left;split at h5
         ·rename_i l htc;rw[e4.2.2.1 l htc];exact h5
         ·cases h5
        ·right;exact@decide_eq_true _ (Classical.propDecidable _) (e4.2.2.2.2.2.2.2 id h5)
       ·cases hf
      ·cases hf
    ·exact .inr (hc2 i j h2)
theorem ZAM{A B:List Ent}(hl:A.length=B.length)(h:∀(i:Nat)(a b:Ent),A[i]? =some a→B[i]? =some b→WkE a b):WkH A B:=by
 induction A generalizing B with
 |nil=>cases B with
  |nil=>exact .nil
  |cons _ _=>simp at hl
 |cons a A ih=>cases B with
  |nil=>simp at hl
  |cons b B=>exact .cons (h 0 a b rfl rfl) (ih (by simpa using hl) λi a b h1 h2=>h (i+1) a b h1 h2)
def ZFB:TEnt→TEnt
 |.var d _=>.var d false
 |e=>e
def ZpF(ids:List Nat)(H:List TEnt):List TEnt:=(yw H.length).zipWith (λi e=>if ids.contains i then ZFB e else e) H
theorem ZHZ(e:TEnt):lkE (some (ZFB e))=lkE (some e):=by cases e <;> rfl
theorem Zs2(ids:List Nat)(H:List TEnt)(i:Nat):(ZpF ids H)[i]? =(H[i]?).map λe=>if ids.contains i then ZFB e else e:=by
 unfold ZpF;rw[List.getElem?_zipWith];rcases Nat.lt_or_ge i H.length with h|h
 ·rw[List.getElem?_range h,yac h];rfl
 ·rw[yap (by simpa using h),yap h];rfl
theorem Zvu(ids:List Nat)(H:List TEnt):lk (ZpF ids H)=lk H:=by
 funext i;unfold lk;rw[Zs2]
 cases H[i]? with
 |none=>rfl
 |some e=>
  show lkE (some (if ids.contains i=true then ZFB e else e))=_
  split
  ·exact ZHZ e
  ·rfl
theorem ZDI(ids:List Nat)(H:List TEnt):WkH (erH H) (erH (ZpF ids H)):=by
 refine ZAM (by rw[ZQ,ZQ];unfold ZpF;simp) λi a b h1 h2=> ?_;unfold erH at h1 h2;rw[yal] at h1 h2;rw[Zvu,Zs2] at h2
 cases he:H[i]? with
 |none=>rw[he] at h1;cases h1
 |some e=>
  rw[he] at h1 h2;cases h1;cases h2;show WkE (e.er (lk H)) (TEnt.er (lk H) (if ids.contains i=true then ZFB e else e))
  split
  ·cases e <;> first|exact .refl _|exact .frz
  ·exact .refl _
theorem ZFC{c:Code}{ts ts1:List Dv}{H0 H1 H2:List Ent}{ex:Ex}(h:WkH H0 H1)(r:WC P c ts H1 ex ts1 H2):WC P c ts H0 ex ts1 H2:=by
 intro σ a ok hH hrep;obtain⟨to,ok2⟩:=ZnN ok (H':=H1) (by rw[hH];exact h);refine wp_mono (r { σ with H:=H1} a ok2 rfl (hrep.to to.leaf)) ?_;rintro e a' w' ⟨rfl,σ2,q1,q2,q3,q4,q5⟩;exact⟨rfl,σ2,q1,q2,to.trans q3,q4,q5⟩
def ZFD(ops:List Oper)(all:List TD):Nat→Tmp→Option Nat
 |0,_=>none
 |n+1,x=>match ops.find? λo=>o.dst==some x with
  |some o=>match o.op with
   |.fieldAddr _ (.tmp y) _=>ZFD ops all n y
   |_=>none
  |none=>match all.getD x .junk with
   |.ref id _=>some id
   |_=>none
def ZLa(hi:HI)(ops:List Oper)(all:List TD)(o:Oper):Option Nat:=
 match o.op with
 |.slice _ (.tmp x) _ _ none=>if Zoj hi.frz o.dst then ZFD ops all 4 x else none
 |_=>none
def Zs3(hi:HI)(ops:Array Oper)(all:List TD)(H:List TEnt):List TEnt:=
 match hi.frz with
 |[]=>H
 |_=>match ops.toList.filterMap (ZLa hi ops.toList all) with
  |[]=>H
  |ids=>ZpF ids H
theorem ZDJ(hi:HI)(ops:Array Oper)(all:List TD)(H:List TEnt):WkH (erH H) (erH (Zs3 hi ops all H))∧lk (Zs3 hi ops all H)=lk H:=by
 unfold Zs3;split
 ·exact⟨WkH.refl _,rfl⟩
 ·split
  ·exact⟨WkH.refl _,rfl⟩
  ·exact⟨ZDI _ _,Zvu _ _⟩
def ZJV(P:yg)(hi:HI)(specs:Sp P)(ops:Array Oper)(all:List TD)(H:List TEnt)(K:List TD→List TEnt→Option O):Option O:=
 if P.follows .mixedOrders then ZB8 P hi specs ops ops.toList all (Zs3 hi ops all H) λa h rs _=>if ZB9 ops (rs.map (·.cls)) (ZFA rs) (ZCa rs)=true then K a h else none else none
theorem ZDK{hi:HI}{specs:Sp P}{ops:Array Oper}{K:List TD→List TEnt→Option O}(ok:SpOk specs)(h:ZJV P hi specs ops all H K=some out):∃a h,K a h=some out∧a.length=all.length∧∀id,WC P (.region id ops true) (TD.ers (lk H) all) (erH H) .normal (TD.ers (lk h) a) (erH h):=by
 unfold ZJV at h;split at h
 ·rename_i hf;obtain⟨w1,w2⟩:=ZDJ hi ops all H;generalize Zs3 hi ops all H=H0 at h w1 w2;obtain⟨a,h',rs,hs,C,k1,k0,k2,k3⟩:=Zs0 ok _ _ _ _ h;obtain⟨k4,k5⟩:=Za k1;refine⟨a,h',k5,k0,λid=> ?_⟩;obtain⟨RS,e1,e2⟩:=k3 [];rw[←w2];refine ZFC w1 (ZsC (hs:=hs) (hs':=[]) (C:=C) ?_ k2);simp only[ev,if_true];unfold Zwd;rw[if_pos hf];rw[ybi] at e1;rw[e1];dsimp only;rw[if_pos (ZHY e2 k4 (by have:=Zs1 e2;unfold ZB9 at k4;simp only[yj] at k4;simpa using k4.1.1.1.1.1))];rfl
 ·cases h
theorem ZDL{hi:HI}{specs:Sp P}{ops:Array Oper}{K:List TD→List TEnt→List Hint→Option O}(ok:SpOk specs)(h:ZFy P hi specs ops ops.toList all H K=some out):∃a h hs,K a h hs=some out∧a.length=all.length∧∀id,WC P (.region id ops false) (TD.ers (lk H) all) (erH H) .normal (TD.ers (lk h) a) (erH h):=by
 obtain⟨a,h',hs,C,k1,k0,k2,k3⟩:=Zvr ok _ _ _ _ h;refine⟨a,h',hs,k1,k0,λid=> ?_⟩;refine ZsC (hs:=hs) (hs':=[]) (C:=C) ?_ k2;have:=k3 [];rw[ybi] at this;simp only[ev,ybu,if_false,this];rfl
end
end Go.Ev
end
section
namespace Go.Ev
def Vi(H H':List Ent):Prop:=∀σ:Sg,Ok σ→σ.H=H→∃σ':Sg,σ'.w=σ.w∧σ'.H=H'∧To σ σ'∧Ok σ'
theorem Vi.refl(H:List Ent):Vi H H:=λσ ok h=>⟨σ,rfl,h,To.refl σ,ok⟩
theorem Vi.trans{A B C:List Ent}(h:Vi A B)(k:Vi B C):Vi A C:=λσ ok e=>by
 obtain⟨σ1,a1,a2,a3,a4⟩:=h σ ok e;obtain⟨σ2,b1,b2,b3,b4⟩:=k σ1 a4 a2;exact⟨σ2,b1.trans a1,b2,a3.trans b3,b4⟩
theorem ZFE{H H':List Ent}(h:WkH H H'):Vi H H':=λσ ok e=>by
 subst e;obtain⟨to,ok'⟩:=ZnN ok h;exact⟨{ σ with H:=H'},rfl,rfl,to,ok'⟩
theorem ZH0{P:yg}{c:Code}{ts ts1 ts2:List Dv}{H H1 H2:List Ent}{ex:Ex}(h:Vi H H1∧∀(σ:Sg)(a:Act),RepT σ ts a→RepT σ ts1 a)(r:WC P c ts1 H1 ex ts2 H2):WC P c ts H ex ts2 H2:=by
 intro σ a ok hH hrep;obtain⟨σ1,e1,e2,e3,e4⟩:=h.1 σ ok hH;have:=r σ1 a e4 e2 (h.2 _ _ (hrep.to e3.leaf));rw[e1] at this;refine wp_mono this ?_;rintro e' a' w' ⟨rfl,σ2,q1,q2,q3,q4,q5⟩;exact⟨rfl,σ2,q1,q2,e3.trans q3,q4,q5⟩
theorem ZJW{H:List Ent}{j:Nat}{x x' y:Ent}(hj:H[j]? =some x)
 (hy:∀σ:Sg,entOk σ none y)
 (hvar:(∃d st,x=.var d st)→∃d st,x'=.var d st) (hmap:(∃t kvs,x=.map t kvs)→∃t kvs,x'=.map t kvs) (hlog:∀s e xs,x≠ .log s e xs)
 (hunl:∀o,x.unlocked o→x'.unlocked o)
 (hrow:∀v s st e d,x=.row v s st e d→∃st' d',x'=.row v s st' e d')
 (hent:∀(σ:Sg)(mi:Option Nat),σ.H[H.length]? =some y→σ.m[H.length]? =some none→entOk σ mi x→entOk σ mi x'):Vi H ((H++[y]).set j x'):=by
 intro σ ok hH;subst hH;have hjl:j < σ.H.length:=(yr.1 hj).1;obtain⟨to1,ok1⟩:=WP (σ':={ σ with m:=σ.m++[none],H:=σ.H++[y]}) ok rfl rfl rfl rfl (World.grownBy.refl σ.w none) (.inl rfl) (λ_=>hy _);obtain⟨mi,hm⟩:∃mi,σ.m[j]? =some mi:=⟨_,yac (by rw[ok.len];exact hjl)⟩;let σ1:Sg:={ σ with m:=σ.m++[none],H:=σ.H++[y]};let σ2:Sg:={ σ1 with m:=σ1.m.set j mi,H:=σ1.H.set j x'}
 have hH1:σ1.H[j]? =some x:=by
  show(σ.H++[y])[j]? =_;rw[yao hjl];exact hj
 have hm1:σ1.m[j]? =some mi:=by
  show(σ.m++[none])[j]? =_;rw[yao (by rw[ok.len];exact hjl)];exact hm
 have hx:=ok1.ent j x mi hH1 hm1
 obtain⟨to2,ok2⟩:=XM (σ':=σ2) (mi:=mi) (mi':=mi) ok1 hH1 hm1 rfl rfl rfl rfl rfl rfl rfl (yn _)
  (λ_ _ _=>rfl) (λ_ _ _ _ _ h=>h) (λo _ hu=>hunl o hu) (.inl rfl) (λq=>⟨rfl,hvar q⟩) (λq=>⟨rfl,hmap q⟩) (λs e xs q=>absurd q (hlog s e xs))
  (λleaf=>by
    refine hent σ2 mi ?_ ?_ (ZcO leaf (λb _=>rfl) hx)
    ·show(σ1.H.set j _)[σ.H.length]? =_;rw[ybw,if_neg (by omega)];simp[σ1]
    ·show(σ1.m.set j _)[σ.H.length]? =_;rw[ybw,if_neg (by omega)];show(σ.m++[none])[σ.H.length]? =_;rw[yas (by rw[ok.len];exact yn _),ok.len];simp)
  (λv s st e d q=>by
    obtain⟨st',d',q'⟩:=hrow v s st e d q;exact⟨v,st',d',q',yn _,λ_=>⟨rfl,λb cur _ hc=>⟨cur,hc,rfl⟩⟩⟩)
 exact⟨σ2,rfl,rfl,to1.trans to2,ok2⟩
theorem ZDM{σ:Sg}{s:Nat}{a:List Value}(h:repD σ (.p (.sl (some false) s [])) a):a=[.slice none 0 0]:=by
 simp only[repD,repC] at h;obtain⟨_,A,c,rfl,w1,w2,w3,w4,w5⟩:=h
 have hA:A=none:=by
  have:=w3 false rfl
  cases A with
  |none=>rfl
  |some _=>cases this
 subst hA;have hc:=w4 rfl;subst hc;rfl
theorem ZH1{H:List Ent}{j s:Nat}{e:yb}{d d':Dv}{st:Bool}{path:List Nat}(hj:H[j]? =some (.var d st))(hg:Xx d path s (.rv H.length 0 s 0 0)=some d'):
 Vi H ((H++[Ent.row 0 s true e (.p (.arr 0 s []))]).set j (.var d' st)):=by
 have hsz:=ZeO path d d' s _ rfl hg;refine ZJW hj (λσ=>⟨0,by simp[rowN],.inl ⟨rfl,rfl⟩⟩) (λ_=>⟨_,_,rfl⟩) (λ⟨_,_,q⟩=>by cases q) (λ_ _ _ q=>by cases q) (λo hu=>hu) (λ_ _ _ _ _ q=>by cases q) ?_;rintro σ mi h1 h2 ⟨b,cs,t,rfl,q2,q3,q4⟩;refine⟨b,cs,t,rfl,q2, ?_,by rw[hsz];exact q4⟩;rw[hsz];refine ZgO path d d' s _ (λa ha=> ?_) hg _ q3;have:=ZDM ha;subst this;simp only[repD];exact⟨none,0,rfl,yn _,by simp[maxLen],λ_=>rfl,λh=>absurd h (Nat.lt_irrefl 0),0,s,true,e,_,h1,yn _,λ_=>⟨rfl,.inl ⟨h2,rfl,rfl⟩⟩⟩
theorem ZH2{H:List Ent}{j:Nat}{d d':Dv}{st:Bool}(hj:H[j]? =some (.var d st))(hsz:d'.size=d.size)(hd:∀σ:Sg,Ok σ→σ.H=H→∀us,repD σ d us→repD σ d' us):Vi H (H.set j (.var d' st)):=by
 intro σ ok hH;subst hH;have hjl:j < σ.H.length:=(yr.1 hj).1;obtain⟨mi,hm⟩:∃mi,σ.m[j]? =some mi:=⟨_,yac (by rw[ok.len];exact hjl)⟩;let σ2:Sg:={ σ with m:=σ.m.set j mi,H:=σ.H.set j (.var d' st)};obtain⟨b,cs,t,rfl,q2,q3,q4⟩:=ok.ent j _ mi hj hm;have q5:=hd σ ok rfl _ q3
 obtain⟨to2,ok2⟩:=XM (σ':=σ2) (mi:=some b) (mi':=some b) ok hj hm rfl rfl rfl rfl rfl rfl rfl (yn _)
  (λ_ _ _=>rfl) (λ_ _ _ _ _ h=>h) (λo _ hu=>hu) (.inl rfl) (λq=>⟨rfl,_,_,rfl⟩) (λ⟨_,_,q⟩=>by cases q) (λs e xs q=>by cases q)
  (λleaf=>⟨b,cs,t,rfl,q2,by rw[hsz];exact Yj leaf _ _ q5,by rw[hsz];exact q4⟩)
  (λv s st e d q=>by cases q)
 exact⟨σ2,rfl,rfl,to2,ok2⟩
inductive GOp where
 |done (t:Tmp)
 |fresh (t:Tmp) (i:Nat)
 |rowt (t:Tmp) (path:List Nat) (T:Ty) (e:yb)
 |freshS (t:Tmp)
 |freshV (t:Tmp)
 |freshDone (t:Tmp) (i:Nat)
 |any (t:Tmp) (i:Nat) (T:Ty)
 |melt (t:Tmp)
 |split (t:Tmp) (ks:List Nat)
 |nn (t:Tmp)
def ZMc:TEnt→Bool
 |.rowN _ _ _ true _ _ _=>true
 |_=>false
section
variable{O:Type}{out:O}
abbrev Kh(O:Type):=List TD→List TEnt→Option O
def ZMd(t:Tmp)(path:List Nat)(T:Ty)(e:yb)(np:List Nat)(a:List TD)(h:List TEnt)(K:Kh O):Option O:=
 match a[t]? with
 |some (.ref id [])=>match h[id]? with
  |some (.var d true)=>(ZiO T (.rw h.length) path d).bind λd'=>if(TD.frees h.length a&&h.all (TEnt.free h.length))=true then K a ((h++[TEnt.rowN T np [] true e [] []]).set id (.var d' true)) else none
  |_=>none
 |_=>none
def ZAN(t:Tmp)(path:List Nat)(T:Ty)(e:yb)(a:List TD)(h:List TEnt)(K:Kh O):Option O:=
 match a[t]? with
 |some (.ref id [])=>match h[id]? with
  |some (.var d true)=>(ZiO T (.rw h.length) path d).bind λd'=>if(TD.frees h.length a&&h.all (TEnt.free h.length))=true then K a ((h++[TEnt.rowT T [] true e []]).set id (.var d' true)) else none
  |_=>none
 |_=>none
def Zy5(h:List TEnt):TD→Option (TD×List Nat)
 |.rw j=>match h[j]? with
  |some (.rowN T _ _ _ _ pre [])=>some (.p (.sl none T pre),[j])
  |some (.rowT T _ _ _ l)=>some (.p (.sl none T l),[j])
  |_=>none
 |d=>some (d,[])
def ZFF(h:List TEnt):TD→(TD→List Nat→Option O)→Option O
 |.rw j,K=>match h[j]? with
  |some (.rowN T _ _ _ _ pre post)=>if post.isEmpty=true then K (.p (.sl none T pre)) [j] else none
  |some (.rowT T _ _ _ l)=>K (.p (.sl none T l)) [j]
  |_=>none
 |d,K=>K d []
theorem ZAO{h:List TEnt}{d:TD}{K:TD→List Nat→Option O}(k:ZFF h d K=some out):∃q,Zy5 h d=some q∧K q.1 q.2=some out:=by
 unfold ZFF at k;unfold Zy5;split at k
 ·rename_i j;dsimp only;split at k
  ·rename_i T np v st e pre post hd;rw[hd];obtain⟨h1,k⟩:=Za k
   cases post with
   |nil=>exact⟨_,rfl,k⟩
   |cons _ _=>cases h1
  ·rename_i T v st e l hd;rw[hd];exact⟨_,rfl,k⟩
  ·cases k
 ·rename_i hne;refine⟨(d,[]), ?_,k⟩;cases d <;> first|rfl|exact absurd rfl (hne _)
def ZAP(h:List TEnt):List TD→(List TD→List Nat→Option O)→Option O
 |[],K=>K [] []
 |d::r,K=>ZFF h d λx l=>ZAP h r λy m=>K (x::y) (l++m)
def Zs4(h:List TEnt):List TD→Option (List TD×List Nat)
 |[]=>some ([],[])
 |d::r=>match Zy5 h d,Zs4 h r with
  |some q,some w=>some (q.1::w.1,q.2++w.2)
  |_,_=>none
theorem ZqA{h:List TEnt}:∀{ds:List TD}{K:List TD→List Nat→Option O},ZAP h ds K=some out→∃q,Zs4 h ds=some q∧K q.1 q.2=some out
 |[],K,k=>⟨_,rfl,k⟩
 |d::r,K,k=>by
  obtain⟨q,h1,k⟩:=ZAO k;obtain⟨w,h2,k⟩:=ZqA k;exact⟨(q.1::w.1,q.2++w.2),by simp only[Zs4,h1,h2],k⟩
def ZkE:TEnt→TEnt
 |.rowN T np v _ e a b=>.rowN T np v false e a b
 |.rowT t v _ e l=>.rowT t v false e l
 |e=>e
def ZcS(ids:List Nat)(H:List TEnt):List TEnt:=(yw H.length).zipWith (λi e=>if ids.contains i then ZkE e else e) H
def Zs5(t:Tmp)(a:List TD)(h:List TEnt)(K:Kh O):Option O:=
 match a[t]? with
 |some (.ref id [])=>match h[id]? with
  |some (.var (.agg ds) st)=>ZAP h ds λx l=>K a ((ZcS l h).set id (.var (.agg x) st))
  |_=>none
 |_=>none
def ZrU(t:Tmp)(i:Nat)(a:List TD)(h:List TEnt)(K:Kh O):Option O:=
 match a[t]? with
 |some (.ref j [])=>match h[j]? with
  |some (.var (.agg ds) st)=>match ds[i]? with
   |some (.rv id v s 0 n)=>match h[id]? with
    |some (.rowT T w _ _ l)=>if(decide (v=w.length)&&(decide (s=T.size)&&decide (n=l.length)))=true then K a (h.set j (.var (.agg (ds.set i (.rw id))) st)) else none
    |_=>none
   |_=>none
  |_=>none
 |_=>none
def Zs6(t:Tmp)(a:List TD)(h:List TEnt)(K:Kh O):Option O:=
 match a[t]? with
 |some (.rv id v s 0 n)=>match h[id]? with
  |some (.rowT T w _ _ l)=>if(decide (v=w.length)&&(decide (s=T.size)&&decide (n=l.length)))=true then K (a.set t (.rw id)) h else none
  |_=>none
 |_=>none
def Zs7(t:Tmp)(a:List TD)(h:List TEnt)(K:Kh O):Option O:=
 match a[t]? with
 |some (.ref j [])=>match h[j]? with
  |some (.var (.rv id v s 0 n) st)=>match h[id]? with
   |some (.rowT T w _ _ l)=>if(decide (v=w.length)&&(decide (s=T.size)&&decide (n=l.length)))=true then K a (h.set j (.var (.rw id) st)) else none
   |_=>none
  |_=>none
 |_=>none
def ZFG(t:Tmp)(i:Nat)(T:Ty)(a:List TD)(h:List TEnt)(K:Kh O):Option O:=
 match a[t]? with
 |some (.ref j [])=>match h[j]? with
  |some (.var (.agg ds) st)=>match ds[i]? with
   |some (.p x)=>(TP.to Zkz x T).bind λy=>K a (h.set j (.var (.agg (ds.set i (.p (.v T y)))) st))
   |_=>none
  |_=>none
 |_=>none
def ZAQ(t:Tmp)(a:List TD)(h:List TEnt)(K:Kh O):Option O:=
 match a[t]? with
 |some (.ref j [])=>match h[j]? with
  |some (.var (.p (.arr n s xs)) st)=>K a (h.set j (.var (.arr n s (xs.map TD.p)) st))
  |_=>K a h
 |_=>K a h
def Zxa(z:Int)(t:Tmp)(a:List TD)(h:List TEnt)(K:Kh O):List Nat→Option O
 |[]=>none
 |n::r=>if(z==(n:Int))=true then K (a.set t (.p (.v (.int .i64) (n:Int)))) h else Zxa z t a h K r
def Zxb(t:Tmp)(ks:List Nat)(a:List TD)(h:List TEnt)(K:Kh O):Option O:=
 match a.getD t .junk with
 |.p (.v (.int .i64) z)=>Zxa z t a h K ks
 |_=>none
def ZJX(t:Tmp)(a:List TD)(h:List TEnt)(K:Kh O):Option O:=
 match a.getD t .junk with
 |.ref _ _=>K a h
 |_=>none
def ghT:GOp→List TD→List TEnt→Kh O→Option O
 |.done t,a,h,K=>Zs5 t a h K
 |.fresh t i,a,h,K=>ZrU t i a h K
 |.rowt t path T e,a,h,K=>ZAN t path T e a h K
 |.freshS t,a,h,K=>Zs6 t a h K
 |.freshV t,a,h,K=>Zs7 t a h K
 |.freshDone t i,a,h,K=>ZrU t i a h λa h=>Zs5 t a h K
 |.any t i T,a,h,K=>ZFG t i T a h K
 |.melt t,a,h,K=>ZAQ t a h K
 |.split t ks,a,h,K=>Zxb t ks a h K
 |.nn t,a,h,K=>ZJX t a h K
def ghO(g:Option GOp)(a:List TD)(h:List TEnt)(K:Kh O):Option O:=
 match g with
 |none=>K a h
 |some g=>ghT g a h K
theorem ZH3{H:List TEnt}{e:TEnt}(h:H.all (TEnt.free H.length)=true):erH (H++[e])=erH H++[e.er (lk (H++[e]))]:=by
 unfold erH;rw[yav];congr 1;refine ycj λx hx=> ?_;have hf:=ybe.1 h x hx;exact(ZyT (λid t hn=>Zdw id t hn) x hf).symm
theorem ZH4{H:List TEnt}{e:TEnt}{a:List TD}(h:TD.frees H.length a=true):TD.ers (lk (H++[e])) a=TD.ers (lk H) a:=(ers_free (λid t hn=>Zdw id t hn) a h).symm
theorem Zy6{t:Tmp}{path:List Nat}{T:Ty}{e:yb}{a:List TD}{h:List TEnt}{K:Kh O}(k:ZAN t path T e a h K=some out):
 ∃a' h',K a' h'=some out∧a'.length=a.length∧Vi (erH h) (erH h')∧∀(σ:Sg)(act:Act),RepT σ (TD.ers (lk h) a) act→RepT σ (TD.ers (lk h') a') act:=by
 unfold ZAN at k;split at k
 ·rename_i id hid;split at k
  ·rename_i d hd;obtain⟨d',h1,k⟩:=yf.1 k;obtain⟨h2,k⟩:=Za k;rw[yj] at h2;have hlt:id < h.length:=(yr.1 hd).1;have hd':(h++[TEnt.rowT T [] true e []])[id]? =some (.var d true):=by rw[yao hlt];exact hd
   have hL:lk ((h++[TEnt.rowT T [] true e []]).set id (.var d' true))=lk (h++[TEnt.rowT T [] true e []]):=Qy hd' rfl rfl;refine⟨_,_,k,rfl, ?_,λσ act r=> ?_⟩
   ·have e1:erH ((h++[TEnt.rowT T [] true e []]).set id (.var d' true))=(erH h++[Ent.row 0 T.size true e (.p (.arr 0 T.size []))]).set id (.var (d'.er (lk (h++[TEnt.rowT T [] true e []]))) true):=by
     rw[Wy hL,ZH3 h2.2];rfl
    rw[e1];have hj:(erH h)[id]? =some (.var (d.er (lk h)) true):=by rw[Yn hd];rfl
    refine ZH1 (path:=path) hj ?_;have e2:=ZlM (L:=lk (h++[TEnt.rowT T [] true e []])) path d d' h1;have e3:d.er (lk (h++[TEnt.rowT T [] true e []]))=d.er (lk h):=(ZeR (λid t hn=>Zdw id t hn) d (ybe.1 h2.2 _ (List.mem_of_getElem? hd))).symm;rw[e3,(Zcq (T:=T) (v:=[]) (l:=[]) (List.getElem?_concat_length ..)).1] at e2;rw[ZQ];exact e2
   ·rw[hL,ZH4 h2.1];exact r
  ·cases k
 ·cases k
theorem ZFH(e:TEnt):lkE (some (ZkE e))=lkE (some e):=by cases e <;> rfl
theorem ZiP(ids:List Nat)(H:List TEnt)(i:Nat):(ZcS ids H)[i]? =(H[i]?).map λe=>if ids.contains i then ZkE e else e:=by
 unfold ZcS;rw[List.getElem?_zipWith];rcases Nat.lt_or_ge i H.length with h|h
 ·rw[List.getElem?_range h,yac h];rfl
 ·rw[yap (by simpa using h),yap h];rfl
theorem Zvv(ids:List Nat)(H:List TEnt):lk (ZcS ids H)=lk H:=by
 funext i;unfold lk;rw[ZiP]
 cases H[i]? with
 |none=>rfl
 |some e=>
  show lkE (some (if ids.contains i=true then ZkE e else e))=_
  split
  ·exact ZFH e
  ·rfl
theorem ZDN(ids:List Nat)(H:List TEnt):WkH (erH H) (erH (ZcS ids H)):=by
 refine ZAM (by rw[ZQ,ZQ];unfold ZcS;simp) λi a b h1 h2=> ?_;unfold erH at h1 h2;rw[yal] at h1 h2;rw[Zvv,ZiP] at h2
 cases he:H[i]? with
 |none=>rw[he] at h1;cases h1
 |some e=>
  rw[he] at h1 h2;cases h1;cases h2;show WkE (e.er (lk H)) (TEnt.er (lk H) (if ids.contains i=true then ZkE e else e))
  split
  ·cases e <;> first|exact .refl _|exact .lock
  ·exact .refl _
theorem ZFI{h H:List TEnt}{d:TD}{q:TD×List Nat}(hq:Zy5 h d=some q)(hL:lk H=lk h)(hl:∀j,j∈q.2→∀e,h[j]? =some e→H[j]? =some (ZkE e)):
 (q.1.er (lk H)).size=(d.er (lk H)).size∧∀σ:Sg,Ok σ→σ.H=erH H→∀us,repD σ (d.er (lk H)) us→repD σ (q.1.er (lk H)) us:=by
 have other:∀x:TD,(q.1.er (lk H)).size=(q.1.er (lk H)).size∧∀σ:Sg,Ok σ→σ.H=erH H→∀us,repD σ (q.1.er (lk H)) us→repD σ (q.1.er (lk H)) us:=λ_=>⟨rfl,λ_ _ _ _ r=>r⟩
 have row:∀(j:Nat)(v:Nat)(s:Nat)(e:yb)(xs:List Pl)(T:Ty)(l:List T.den),(TD.rw j).er (lk H)=.rv j v s 0 xs.length→(erH H)[j]? =some (.row v s false e (.p (.arr xs.length s xs)))→s=T.size→xs=l.map T.enc→
  ((TD.p (.sl none T l)).er (lk H)).size=((TD.rw j).er (lk H)).size∧∀σ:Sg,Ok σ→σ.H=erH H→∀us,repD σ ((TD.rw j).er (lk H)) us→repD σ ((TD.p (.sl none T l)).er (lk H)) us:=by
  intro j v s e xs T l e1 e2 e3 e4;subst e3;rw[e1];refine⟨rfl,λσ ok hH us r=> ?_⟩;have dr:=DeepR.rvp (H:=σ.H) (lo:=0) (n:=xs.length) (by rw[hH];exact e2) (by omega);rw[List.drop_zero,ybk] at dr;have:=ZsF ok dr us r;rw[TD.er,TP.pe, ←e4];simpa[repD] using this
 unfold Zy5 at hq;split at hq
 ·rename_i j;split at hq
  ·rename_i T np v st e pre hd;cases hq;have hH:=hl j (yau ..) _ hd;have hr:=ZHP (q:=(v.length,T.size,pre.length+0)) (x:=ZkE (.rowN T np v st e pre [])) hH rfl;refine row j v.length T.size e (pre.map T.enc) T pre (by rw[hr.1,yz];rfl) ?_ rfl rfl;rw[Yn hH,yz];simp only[ZkE,TEnt.er,List.map_nil,ybi,ycq,Nat.add_zero]
  ·rename_i T v st e l hd;cases hq;have hH:=hl j (yau ..) _ hd;have hr:=Zcq (T:=T) (v:=v) (st:=false) (e:=e) (l:=l) hH;refine row j v.length T.size e (l.map T.enc) T l (by rw[hr.1,yz]) ?_ rfl rfl;rw[Yn hH,yz];rfl
  ·cases hq
 ·cases hq;exact other d
theorem Zvw{h H:List TEnt}:∀{ds:List TD}{q:List TD×List Nat},Zs4 h ds=some q→lk H=lk h→(∀j,j∈q.2→∀e,h[j]? =some e→H[j]? =some (ZkE e))→
 Dv.sizes (TD.ers (lk H) q.1)=Dv.sizes (TD.ers (lk H) ds)∧∀σ:Sg,Ok σ→σ.H=erH H→∀us,repDs σ (TD.ers (lk H) ds) us→repDs σ (TD.ers (lk H) q.1) us
 |[],q,hq,hL,hl=>by cases hq;exact⟨rfl,λ_ _ _ _ r=>r⟩
 |d::r,q,hq,hL,hl=>by
  simp only[Zs4] at hq;split at hq
  ·rename_i q1 q2 h1 h2;cases hq;obtain⟨a1,a2⟩:=ZFI h1 hL (λj hj=>hl j (List.mem_append_left _ hj));obtain⟨b1,b2⟩:=Zvw h2 hL (λj hj=>hl j (List.mem_append_right _ hj));refine⟨by simp only[TD.ers,Dv.sizes];rw[a1,b1],λσ ok hH us rr=> ?_⟩;simp only[TD.ers,repDs] at rr ⊢;obtain⟨u1,u2,e1,e2,e3⟩:=rr;exact⟨u1,u2,e1,a2 σ ok hH _ e2,b2 σ ok hH _ e3⟩
  ·cases hq
theorem ZqB{t:Tmp}{a:List TD}{h:List TEnt}{K:Kh O}(k:Zs5 t a h K=some out):
 ∃a' h',K a' h'=some out∧a'.length=a.length∧Vi (erH h) (erH h')∧∀(σ:Sg)(act:Act),RepT σ (TD.ers (lk h) a) act→RepT σ (TD.ers (lk h') a') act:=by
 unfold Zs5 at k;split at k
 ·rename_i id hid;split at k
  ·rename_i ds st hd;obtain⟨q,h1,k⟩:=ZqA k
   have hd2:(ZcS q.2 h)[id]? =some (.var (.agg ds) st):=by
    rw[ZiP,hd];show some (if q.2.contains id=true then ZkE (.var (.agg ds) st) else .var (.agg ds) st)=_
    split <;> rfl
   have hL0:lk (ZcS q.2 h)=lk h:=Zvv _ _;have hL:lk ((ZcS q.2 h).set id (.var (.agg q.1) st))=lk (ZcS q.2 h):=Qy hd2 rfl rfl;refine⟨_,_,k,rfl,(ZFE (ZDN q.2 h)).trans ?_,λσ act rr=>by rw[hL,hL0];exact rr⟩;rw[Wy hL];have hj:(erH (ZcS q.2 h))[id]? =some (.var (.agg (TD.ers (lk (ZcS q.2 h)) ds)) st):=by rw[Yn hd2];rfl
   obtain⟨c1,c2⟩:=Zvw (H:=ZcS q.2 h) h1 hL0 (λj hj e he=>by
    rw[ZiP,he];show some (if q.2.contains j=true then ZkE e else e)=_
    rw[if_pos (by simpa using hj)])
   refine ZH2 hj ?_ λσ ok hH us r=> ?_
   ·exact c1
   ·simp only[TD.er,repD] at r ⊢;exact c2 σ ok hH us r
  ·cases k
 ·cases k
theorem Zy7{L:Lk}{ds:List TD}{i:Nat}{x y:TD}(h:ds[i]? =some x)(e:y.er L=x.er L):TD.ers L (ds.set i y)=TD.ers L ds:=by
 rw[ZP,ZP,ybp,e];apply ybq;intro k;by_cases hk:i=k
 ·subst hk;rw[ycr (by rw[yz];exact(yr.1 h).1),yal,h];rfl
 ·rw[yda hk]
theorem Zom{t:Tmp}{i:Nat}{a:List TD}{h:List TEnt}{K:Kh O}(k:ZrU t i a h K=some out):
 ∃a' h',K a' h'=some out∧a'.length=a.length∧Vi (erH h) (erH h')∧∀(σ:Sg)(act:Act),RepT σ (TD.ers (lk h) a) act→RepT σ (TD.ers (lk h') a') act:=by
 unfold ZrU at k;split at k
 ·rename_i j hj;split at k
  ·rename_i ds st hd;split at k
   ·rename_i id v s n hi;split at k
    ·rename_i T w st' e l hr;obtain⟨c,k2⟩:=Za k;clear k;rw[yj,yj,decide_eq_true_eq,decide_eq_true_eq,decide_eq_true_eq] at c;obtain⟨rfl,rfl,rfl⟩:=c;have hL:lk (h.set j (.var (.agg (ds.set i (.rw id))) st))=lk h:=Qy hd rfl rfl
     have he:(TD.rw id).er (lk h)=(TD.rv id w.length T.size 0 l.length).er (lk h):=by
      refine(Zw5 (v:=w) (s:=T.size) (N:=l.length) ?_).1;unfold Z8 lk;dsimp only;rw[hr];rfl
     refine⟨_,_,k2,rfl, ?_,λσ act rr=>by rw[hL];exact rr⟩
     have e2:erH (h.set j (.var (.agg (ds.set i (.rw id))) st))=erH h:=by
      rw[Wy hL];show(erH h).set j (.var (.agg (TD.ers (lk h) (ds.set i (.rw id)))) st)=erH h;rw[Zy7 hi he];apply ybq;intro q;by_cases hq:j=q
      ·subst hq;have hjl:(erH h)[j]? =some (.var (.agg (TD.ers (lk h) ds)) st):=by rw[Yn hd];rfl
       rw[ycr (yr.1 hjl).1,hjl]
      ·rw[yda hq]
     rw[e2];exact Vi.refl _
    ·cases k
   ·cases k
  ·cases k
 ·cases k
theorem Zy8{h:List TEnt}{id:Nat}{T:Ty}{w:List Unit}{st:Bool}{e:yb}{l:List T.den}(hr:h[id]? =some (.rowT T w st e l)):(TD.rw id).er (lk h)=(TD.rv id w.length T.size 0 l.length).er (lk h):=by
 refine(Zw5 (v:=w) (s:=T.size) (N:=l.length) ?_).1;unfold Z8 lk;dsimp only;rw[hr];rfl
theorem Zuw{t:Tmp}{a:List TD}{h:List TEnt}{K:Kh O}(k:Zs6 t a h K=some out):
 ∃a' h',K a' h'=some out∧a'.length=a.length∧Vi (erH h) (erH h')∧∀(σ:Sg)(act:Act),RepT σ (TD.ers (lk h) a) act→RepT σ (TD.ers (lk h') a') act:=by
 unfold Zs6 at k;split at k
 ·rename_i id v s n hi;split at k
  ·rename_i T w st' e l hr;obtain⟨c,k2⟩:=Za k;clear k;rw[yj,yj,decide_eq_true_eq,decide_eq_true_eq,decide_eq_true_eq] at c;obtain⟨rfl,rfl,rfl⟩:=c;exact⟨_,_,k2,ybl,Vi.refl _,λσ act rr=>by rw[Zy7 hi (Zy8 hr)];exact rr⟩
  ·cases k
 ·cases k
theorem Zux{t:Tmp}{a:List TD}{h:List TEnt}{K:Kh O}(k:Zs7 t a h K=some out):
 ∃a' h',K a' h'=some out∧a'.length=a.length∧Vi (erH h) (erH h')∧∀(σ:Sg)(act:Act),RepT σ (TD.ers (lk h) a) act→RepT σ (TD.ers (lk h') a') act:=by
 unfold Zs7 at k;split at k
 ·rename_i j hj;split at k
  ·rename_i id v s n st hd;split at k
   ·rename_i T w st' e l hr;obtain⟨c,k2⟩:=Za k;clear k;rw[yj,yj,decide_eq_true_eq,decide_eq_true_eq,decide_eq_true_eq] at c;obtain⟨rfl,rfl,rfl⟩:=c;have hL:lk (h.set j (.var (.rw id) st))=lk h:=Qy hd rfl rfl;refine⟨_,_,k2,rfl, ?_,λσ act rr=>by rw[hL];exact rr⟩
    have e2:erH (h.set j (.var (.rw id) st))=erH h:=by
     rw[Wy hL];show(erH h).set j (.var ((TD.rw id).er (lk h)) st)=erH h;rw[Zy8 hr];apply ybq;intro q;by_cases hq:j=q
     ·subst hq;have hjl:(erH h)[j]? =some (.var ((TD.rv id w.length T.size 0 l.length).er (lk h)) st):=by rw[Yn hd];rfl
      rw[ycr (yr.1 hjl).1,hjl]
     ·rw[yda hq]
    rw[e2];exact Vi.refl _
   ·cases k
  ·cases k
 ·cases k
theorem ZCb:∀{l:List Dv}{i:Nat}{d e:Dv},l[i]? =some d→Wk d e→WkL l (l.set i e)
 |[],_,_,_,h,_=>by simp at h
 |x::r,0,d,e,h,k=>by
  simp only[yar,yi] at h;subst h
  exact .cons k (WkL.refl r)
 |x::r,i+1,d,e,h,k=>by
  simp only[yaq] at h;exact .cons (Wk.refl x) (ZCb h k)
theorem ZFJ{L:Lk}:∀{ds:List TD}{i:Nat}{d e:TD},ds[i]? =some d→(TD.ers L ds)[i]? =some (d.er L)∧TD.ers L (ds.set i e)=(TD.ers L ds).set i (e.er L)
 |[],_,_,_,h=>by simp at h
 |x::r,0,d,e,h=>by
  simp only[yar,yi] at h;subst h
  exact⟨rfl,rfl⟩
 |x::r,i+1,d,e,h=>by
  simp only[yaq] at h;obtain⟨h1,h2⟩:=ZFJ (e:=e) h;exact⟨h1,by show x.er L::TD.ers L (r.set i e)=_;rw[h2];rfl⟩
theorem ZAR{t:Tmp}{i:Nat}{T:Ty}{a:List TD}{h:List TEnt}{K:Kh O}(k:ZFG t i T a h K=some out):
 ∃a' h',K a' h'=some out∧a'.length=a.length∧Vi (erH h) (erH h')∧∀(σ:Sg)(act:Act),RepT σ (TD.ers (lk h) a) act→RepT σ (TD.ers (lk h') a') act:=by
 unfold ZFG at k;split at k
 ·rename_i j hj;split at k
  ·rename_i ds st hd;split at k
   ·rename_i x hx;obtain⟨y,h1,k⟩:=yf.1 k;have hL:lk (h.set j (.var (.agg (ds.set i (.p (.v T y)))) st))=lk h:=Qy hd rfl rfl;refine⟨_,_,k,rfl, ?_,λσ act rr=>by rw[hL];exact rr⟩;rw[Wy hL];have hjl:(erH h)[j]? =some (.var (.agg (TD.ers (lk h) ds)) st):=by rw[Yn hd];rfl
    obtain⟨e1,e2⟩:=ZFJ (L:=lk h) (e:=.p (.v T y)) hx;refine ZFE (WkH.set_at hjl (WkE.var ?_));show Wk (.agg (TD.ers (lk h) ds)) (.agg (TD.ers (lk h) (ds.set i (.p (.v T y)))));rw[e2];exact WkL.agg (ZCb e1 (Wk.p (Zyx h1)))
   ·cases k
  ·cases k
 ·cases k
theorem Wk.melt{n s:Nat}{xs:List Pl}:Wk (.p (.arr n s xs)) (.arr n s (xs.map Dv.p)):=⟨rfl,rfl,λσ vs r=>by
 simp only[repD,repC] at r ⊢;exact⟨by rw[yz];exact r.1,λx hx=>by obtain⟨y,hy,rfl⟩:=List.mem_map.1 hx;exact r.2.1 y hy,ZiA.2 r.2.2⟩⟩
theorem Zy9{t:Tmp}{a:List TD}{h:List TEnt}{K:Kh O}(k:ZAQ t a h K=some out):
 ∃a' h',K a' h'=some out∧a'.length=a.length∧Vi (erH h) (erH h')∧∀(σ:Sg)(act:Act),RepT σ (TD.ers (lk h) a) act→RepT σ (TD.ers (lk h') a') act:=by
 unfold ZAQ at k;split at k
 ·rename_i j hj;split at k
  ·rename_i n s xs st hd;have hL:lk (h.set j (.var (.arr n s (xs.map TD.p)) st))=lk h:=Qy hd rfl rfl;refine⟨_,_,k,rfl, ?_,λσ act rr=>by rw[hL];exact rr⟩;rw[Wy hL];have hjl:(erH h)[j]? =some (.var (.p (.arr n s (TP.pes xs))) st):=by rw[Yn hd];rfl
   refine ZFE (WkH.set_at hjl (WkE.var ?_));show Wk (.p (.arr n s (TP.pes xs))) (.arr n s (TD.ers (lk h) (xs.map TD.p)))
   have e:TD.ers (lk h) (xs.map TD.p)=(TP.pes xs).map Dv.p:=by
    rw[ZP,Zc8,ybd,ybd];rfl
   rw[e];exact Wk.melt
  ·exact⟨_,_,k,rfl,Vi.refl _,λ_ _ r=>r⟩
 ·exact⟨_,_,k,rfl,Vi.refl _,λ_ _ r=>r⟩
theorem ZqC{z:Int}{t:Tmp}{a:List TD}{h:List TEnt}{K:Kh O}(ha:a.getD t .junk=.p (.v (.int .i64) z)):∀{ks:List Nat},Zxa z t a h K ks=some out→K a h=some out
 |[],k=>by cases k
 |n::r,k=>by
  unfold Zxa at k;split at k
  ·rename_i e;have e:z=(n:Int):=by simpa using e
   rw[set_same (by rw[ha,e])] at k;exact k
  ·exact ZqC ha k
theorem Zxc{t:Tmp}{ks:List Nat}{a:List TD}{h:List TEnt}{K:Kh O}(k:Zxb t ks a h K=some out):
 ∃a' h',K a' h'=some out∧a'.length=a.length∧Vi (erH h) (erH h')∧∀(σ:Sg)(act:Act),RepT σ (TD.ers (lk h) a) act→RepT σ (TD.ers (lk h') a') act:=by
 unfold Zxb at k;split at k
 ·rename_i z hz;exact⟨_,_,ZqC hz k,rfl,Vi.refl _,λ_ _ r=>r⟩
 ·cases k
theorem ZFK{g:Option GOp}{a:List TD}{h:List TEnt}{K:Kh O}(k:ghO g a h K=some out):
 ∃a' h',K a' h'=some out∧a'.length=a.length∧Vi (erH h) (erH h')∧∀(σ:Sg)(act:Act),RepT σ (TD.ers (lk h) a) act→RepT σ (TD.ers (lk h') a') act:=by
 unfold ghO at k;split at k
 ·exact⟨_,_,k,rfl,Vi.refl _,λ_ _ r=>r⟩
 ·rename_i g
  cases g with
  |done t=>exact ZqB k
  |fresh t i=>exact Zom k
  |rowt t path T e=>exact Zy6 k
  |freshS t=>exact Zuw k
  |freshV t=>exact Zux k
  |freshDone t i=>
   obtain⟨a1,h1,k,l1,g1,r1⟩:=Zom (K:=λa h=>Zs5 t a h K) k;obtain⟨a2,h2,k,l2,g2,r2⟩:=ZqB k
   exact⟨a2,h2,k,l2.trans l1,g1.trans g2,λσ act r=>r2 σ act (r1 σ act r)⟩
  |any t i T=>exact ZAR k
  |melt t=>exact Zy9 k
  |split t ks=>exact Zxc k
  |nn t=>
   replace k:ZJX t a h K=some out:=k
   unfold ZJX at k;split at k
   ·exact⟨_,_,k,rfl,Vi.refl _,λ_ _ r=>r⟩
   ·cases k
end
end Go.Ev
end
section
namespace Go.Ev
section
variable{P:yg}
theorem Zza{x y:Code}{ts ts1 ts2:List Dv}{H H1 H2:List Ent}{ex:Ex}(r1:WC P x ts H .normal ts1 H1)(r2:WC P y ts1 H1 ex ts2 H2):WC P (.seq x y) ts H ex ts2 H2:=by
 intro σ a ok hH hrep;refine wp_seq (wp_mono (r1 σ a ok hH hrep) ?_);rintro e a' w' ⟨rfl,σ1,rfl,e1,to1,ok1,hrep1⟩;refine wp_mono (r2 σ1 a' ok1 e1 hrep1) ?_;rintro e a'' w'' ⟨rfl,σ2,rfl,e2,to2,ok2,hrep2⟩;exact⟨rfl,σ2,rfl,e2,to1.trans to2,ok2,hrep2⟩
theorem Zvx{x y:Code}{ts ts1:List Dv}{H H1:List Ent}{ex:Ex}(hne:ex≠ .normal)(r1:WC P x ts H ex ts1 H1):WC P (.seq x y) ts H ex ts1 H1:=by
 intro σ a ok hH hrep;refine wp_seq (wp_mono (r1 σ a ok hH hrep) ?_);rintro e a' w' ⟨rfl,hq⟩
 cases ex with
 |normal=>exact absurd rfl hne
 |exit id=>exact⟨rfl,hq⟩
 |ret=>exact⟨rfl,hq⟩
theorem ZlS{c:yo}{x y:Code}{ts ts1:List Dv}{H H1:List Ent}{ex:Ex}{b:Bool}(hc:ZB P ts 0 c=.p (.bool b))(r1:WC P (if b then x else y) ts H ex ts1 H1):WC P (.cond c x y) ts H ex ts1 H1:=by
 intro σ a ok hH hrep;have hv:=Zm (P:=P) hrep 0 c;rw[hc] at hv;cases b
 ·exact wp_cond_false (YL hv) (r1 σ a ok hH hrep)
 ·exact wp_cond_true (YL hv) (r1 σ a ok hH hrep)
def Zxd(id:Nat):Ex→Ex
 |.exit i=>if i=id then .normal else .exit i
 |ex=>ex
theorem ZAS{id:Nat}{body:Code}{ts ts1:List Dv}{H H1:List Ent}{ex:Ex}(r1:WC P body ts H ex ts1 H1):WC P (.block id body) ts H (Zxd id ex) ts1 H1:=by
 intro σ a ok hH hrep;refine wp_block (wp_mono (r1 σ a ok hH hrep) ?_);rintro e a' w' ⟨rfl,hq⟩
 cases ex with
 |normal=>exact⟨rfl,hq⟩
 |exit id'=>
  simp only[Ex.to,Exit.inBlock,Zxd];split
  ·exact⟨rfl,hq⟩
  ·exact⟨rfl,hq⟩
 |ret=>exact⟨rfl,hq⟩
theorem ZAT{body:Code}{ts ts1:List Dv}{H H1:List Ent}{ex:Ex}(r1:WC P body ts H ex ts1 H1):WC P (.scope body) ts H ex ts1 H1:=by
 intro σ a ok hH hrep;refine wp_scope_straight (wp_mono (r1 σ a ok hH hrep) ?_);rintro e a' w' ⟨rfl,hq⟩;cases ex <;> exact⟨rfl,hq⟩
theorem ZDO{ts:List Dv}{H:List Ent}:WC P .skip ts H .normal ts H:=λσ a ok hH hrep=>wp_skip ⟨rfl,σ,rfl,hH,To.refl σ,ok,hrep⟩
theorem ZAU{n:Nat}{ts:List Dv}{H:List Ent}:WC P (.label n) ts H .normal ts H:=λσ a ok hH hrep=>wp_label ⟨rfl,σ,rfl,hH,To.refl σ,ok,hrep⟩
theorem ZDP{n:Nat}{ts:List Dv}{H:List Ent}:WC P (.exit n) ts H (.exit n) ts H:=λσ a ok hH hrep=>wp_exit ⟨rfl,σ,rfl,hH,To.refl σ,ok,hrep⟩
theorem ZFL{ts:List Dv}{H:List Ent}:WC P .ret ts H .ret ts H:=λσ a ok hH hrep=>wp_ret ⟨rfl,σ,rfl,hH,To.refl σ,ok,hrep⟩
theorem ZDQ{c:Code}{ts ts1:List Dv}{H H1:List Ent}{ex:Ex}(keep:List Nat)(r:WC P c ts H ex ts1 H1):WC P c ts H ex (ZV keep 0 ts1) H1:=by
 intro σ a ok hH hrep;refine wp_mono (r σ a ok hH hrep) ?_;rintro e a' w' ⟨rfl,σ1,rfl,e1,to1,ok1,hrep1⟩;exact⟨rfl,σ1,rfl,e1,to1,ok1,Zbz keep hrep1⟩
def Zzb(n0:Nat)(sl:Slots)(es:List ESh)(a:List TD)(h:List TEnt):Option (List TV):=
 if once (yw n0++[]) then(Wq h (yw n0++[]) (yw n0++[])).bind λh2=>(TD.rns (toIds (yw n0++[])) (ZjF (sl.map (·.1)) 0 a)).bind λa2=>
  (Sh.mts (lk h2) (shs sl a.length) a2).bind λq=>(ESh.mts (lk h2) es h2).bind λw=>some (q.2++w.2)
 else none
theorem ZAV{n0:Nat}{sl:Slots}{es:List ESh}{a:List TD}{h:List TEnt}{vs:List TV}(k:Zzb n0 sl es a h=some vs):
 ∃a3 h3,V2 a.length sl es vs=some (a3,h3)∧∀{c:Code}{ts:List Dv}{H:List Ent}{ex:Ex},H.length=n0→WC P c ts H ex (TD.ers (lk h) a) (erH h)→WC P c ts H ex (TD.ers (lk h3) a3) (erH h3):=by
 unfold Zzb at k;split at k
 ·rename_i ho;obtain⟨h2,h1,k⟩:=yf.1 k;obtain⟨a2,e2,k⟩:=yf.1 k;obtain⟨q,e3,k⟩:=yf.1 k;obtain⟨w,e4,k⟩:=yf.1 k;cases k;obtain⟨g1,g2⟩:=Zh0 e4;have hc:∀id t,Z8 (lk h2) id t none=Z8 (lk w.1) id t none:=λid t=>by rw[g2]
  refine⟨q.1,w.1, ?_,λ{c ts H ex}hl r=> ?_⟩
  ·unfold V2;rw[mts_fills _ _ _ e3];have:=Za4 e4 [];rw[ybi] at this;rw[ya,this];rfl
  ·have r1:=ZDQ (sl.map (·.1)) r;rw[←Zok] at r1;have r2:=ZDw [] [] r1 (by rw[hl];exact ho) (by rw[hl];exact Wj (Zas h1) h1) (by rw[hl];exact rns_er (Zas h1) _ _ e2);exact Zvf r2 (mts_wk hc _ _ _ e3) (ZlQ hc e4)
 ·cases k
theorem ZAW{n0:Nat}{sl:Slots}{es:List ESh}{a:List TD}{h:List TEnt}{vs:List TV}(hn:h.length=n0)(k:Zzb n0 sl es a h=some vs):
 ∃a3 h3,V2 a.length sl es vs=some (a3,h3)∧∀(σ:Sg)(act:Act),Ok σ→σ.H=erH h→RepT σ (TD.ers (lk h) a) act→∃σ':Sg,σ'.w=σ.w∧σ'.H=erH h3∧To σ σ'∧Ok σ'∧RepT σ' (TD.ers (lk h3) a3) act:=by
 subst hn;unfold Zzb at k;split at k
 ·rename_i ho;obtain⟨h2,h1,k⟩:=yf.1 k;obtain⟨a2,e2,k⟩:=yf.1 k;obtain⟨q,e3,k⟩:=yf.1 k;obtain⟨w,e4,k⟩:=yf.1 k;cases k;obtain⟨g1,g2⟩:=Zh0 e4;have hc:∀id t,Z8 (lk h2) id t none=Z8 (lk w.1) id t none:=λid t=>by rw[g2]
  refine⟨q.1,w.1, ?_,λσ act ok hH hrep=> ?_⟩
  ·unfold V2;rw[mts_fills _ _ _ e3];have:=Za4 e4 [];rw[ybi] at this;rw[ya,this];rfl
  ·have r1:=Zbz (sl.map (·.1)) hrep;rw[←Zok] at r1
   have hin:subEnts σ.H (yw σ.H.length++[]) (yw σ.H.length++[])=some (erH h2):=by
    rw[hH,ZQ];exact Wj (Zas h1) h1
   have ho':once (yw σ.H.length++[])=true:=by rw[hH,ZQ];exact ho
   have e2':Dv.rns (toIds (yw σ.H.length++[])) (TD.ers (lk h) (ZjF (sl.map (·.1)) 0 a))=some (TD.ers (lk h2) a2):=by
    rw[hH,ZQ];exact rns_er (Zas h1) _ _ e2
   have r2:=Zyq (ZiL hin) e2' r1;have to1:=ZrM ok (To.refl σ) ho' hin;have ok1:=ZrL ok ho' hin;obtain⟨to2,ok2⟩:=ZnN (σ:=Zmy σ (yw σ.H.length++[]) (erH h2)) ok1 (H':=erH w.1) (ZlQ hc e4);exact⟨{ Zmy σ (yw σ.H.length++[]) (erH h2) with H:=erH w.1},rfl,rfl,to1.trans to2,ok2,(mts_wk hc _ _ _ e3).repT (r2.to to2.leaf)⟩
 ·cases k
def ZJY(L:Lk):ESh→TEnt→Option TEnt
 |.rowN _ _ _ _,.rowM u np v st e pre mid post=>(ZJN L u mid).map λy=>.rowN u np v st e (pre++[y]) post
 |_,x=>some x
def ZFM(L:Lk):List ESh→List TEnt→Option (List TEnt)
 |[],h=>some h
 |_::_,[]=>some []
 |s::r,x::h=>match ZJY L s x,ZFM L r h with
  |some y,some ys=>some (y::ys)
  |_,_=>none
theorem ZH5{L:Lk}{s:ESh}{x y:TEnt}(h:ZJY L s x=some y):lkE (some y)=lkE (some x)∧WkE (x.er L) (y.er L):=by
 unfold ZJY at h;split at h
 ·rename_i u np v st e pre mid post;obtain⟨c,h1,rfl⟩:=Zc h;refine⟨?_,ZB1 (ZBY h1)⟩;simp only[lkE,yp,yae,ycq];rw[ycg,Nat.add_comm (0+1)]
 ·cases h;exact⟨rfl,.refl _⟩
theorem ZCc{L:Lk}:∀{es:List ESh}{h h':List TEnt},ZFM L es h=some h'→h'.length=h.length∧(∀j:Nat,lkE (h'[j]?)=lkE (h[j]?))∧WkH (h.map (TEnt.er L)) (h'.map (TEnt.er L))
 |[],h,h',k=>by cases k;exact⟨rfl,λ_=>rfl,WkH.refl _⟩
 |_::_,[],h',k=>by cases k;exact⟨rfl,λ_=>rfl,WkH.refl _⟩
 |s::r,x::h,h',k=>by
  simp only[ZFM] at k;split at k
  ·rename_i y ys h1 h2;cases k;obtain⟨a1,a2⟩:=ZH5 h1;obtain⟨b1,b2,b3⟩:=ZCc h2;refine⟨by simp[b1],λj=> ?_,.cons a2 b3⟩
   cases j with
   |zero=>exact a1
   |succ j=>exact b2 j
  ·cases k
theorem ZCd{es:List ESh}{h h':List TEnt}(k:ZFM (lk h) es h=some h'):h'.length=h.length∧lk h'=lk h∧WkH (erH h) (erH h'):=by
 obtain⟨a,b,c⟩:=ZCc k;have e:lk h'=lk h:=funext b;refine⟨a,e, ?_⟩;unfold erH;rw[e];exact c
def Zxe(n0:Nat)(sl:Slots)(es:List ESh)(a:List TD)(h:List TEnt):Option (List TV):=(ZFM (lk h) es h).bind λh=>Zzb n0 sl es a h
theorem ZpG{n0:Nat}{sl:Slots}{es:List ESh}{a:List TD}{h:List TEnt}{vs:List TV}(k:Zxe n0 sl es a h=some vs):
 ∃a3 h3,V2 a.length sl es vs=some (a3,h3)∧∀{c:Code}{ts:List Dv}{H:List Ent}{ex:Ex},H.length=n0→WC P c ts H ex (TD.ers (lk h) a) (erH h)→WC P c ts H ex (TD.ers (lk h3) a3) (erH h3):=by
 obtain⟨h1,k1,k2⟩:=yf.1 k;obtain⟨e1,e2,e3⟩:=ZCd k1;obtain⟨a3,h3,g1,g2⟩:=ZAV (P:=P) k2;refine⟨a3,h3,g1,λhl r=>g2 hl ?_⟩;rw[e2];exact Zvf r (WkL.refl _) e3
theorem Zvy{n0:Nat}{sl:Slots}{es:List ESh}{a:List TD}{h:List TEnt}{vs:List TV}(hn:h.length=n0)(k:Zxe n0 sl es a h=some vs):
 ∃a3 h3,V2 a.length sl es vs=some (a3,h3)∧∀(σ:Sg)(act:Act),Ok σ→σ.H=erH h→RepT σ (TD.ers (lk h) a) act→∃σ':Sg,σ'.w=σ.w∧σ'.H=erH h3∧To σ σ'∧Ok σ'∧RepT σ' (TD.ers (lk h3) a3) act:=by
 obtain⟨h1,k1,k2⟩:=yf.1 k;obtain⟨e1,e2,e3⟩:=ZCd k1;obtain⟨a3,h3,g1,g2⟩:=ZAW (by rw[e1];exact hn) k2;refine⟨a3,h3,g1,λσ act ok hH hr=> ?_⟩;obtain⟨to,ok'⟩:=ZnN ok (H':=erH h1) (by rw[hH];exact e3);obtain⟨σ2,q1,q2,q3,q4,q5⟩:=g2 { σ with H:=erH h1} act ok' rfl (by rw[e2];exact hr.to to.leaf);exact⟨σ2,q1,q2,to.trans q3,q4,q5⟩
structure Lp where
 sl:Slots
 es:List ESh
 I:List Ty
 xs:List XSh
 L:Ty.dens I→Option (XSh.sum xs)
def Lp.Is(P:yg)(n:Nat)(c:Code)(lp:Lp):Prop:=
 ∀v o,lp.L v=some o→∀s,V2 n lp.sl lp.es (ofD lp.I v)=some s→∀e vs s',ZyW lp.xs o e vs→V2 n e.sl e.es vs=some s'→
  WC P c (TD.ers (lk s.2) s.1) (erH s.2) e.ex (TD.ers (lk s'.2) s'.1) (erH s'.2)
abbrev Lp.Ok(P:yg)(n:Nat)(body:Code)(lp:Lp):Prop:=lp.Is P n (.loop body)
structure FI where
 hi:HI:={}
 lp:List (Nat×Lp):=[]
 bk:List (Nat×Lp):=[]
 gh:List (Nat×GOp):=[]
 un:Nat:=0
def Code.nl:Code→Nat
 |.seq a b=>Code.nl a+Code.nl b
 |.cond _ a b=>Code.nl a+Code.nl b
 |.block _ a=>Code.nl a
 |.scope a=>Code.nl a
 |.loop a=>Code.nl a+1
 |_=>0
def Code.ns:Code→Nat
 |.seq a b=>Code.ns a+Code.ns b+1
 |.cond _ a b=>Code.ns a+Code.ns b
 |.block _ a=>Code.ns a
 |.scope a=>Code.ns a
 |.loop a=>Code.ns a
 |_=>0
theorem ZbG:∀c:Code,(ZH c).length=Code.nl c
 |.seq a b=>by simp only[ZH,yp,ZbG a,ZbG b,Code.nl]
 |.cond _ a b=>by simp only[ZH,yp,ZbG a,ZbG b,Code.nl]
 |.block _ a=>by simp only[ZH,ZbG a,Code.nl]
 |.scope a=>by simp only[ZH,ZbG a,Code.nl]
 |.loop a=>by simp only[ZH,yae,ZbG a,Code.nl]
 |.skip=>rfl
 |.region _ _ _=>rfl
 |.rangeFunc _ _ _ _=>rfl
 |.exit _=>rfl
 |.ret=>rfl
 |.label _=>rfl
 |.goto _=>rfl
 |.refuse _=>rfl
def ZrV{O:Type}(step:List TD→List TEnt→Kc O→Option O):Nat→List TD→List TEnt→Kc O→Option O
 |0,_,_,_=>none
 |k+1,a,h,K=>step a h λex a' h'=>match ex with
  |.normal=>ZrV step k a' h' K
  |ex=>K ex a' h'
theorem ZqD{O:Type}{body:Code}{N:Nat}{step:List TD→List TEnt→Kc O→Option O}
 (hs:∀(a:List TD)(h:List TEnt)(K:Kc O)(out:O),a.length=N→step a h K=some out→∃ex a' h',K ex a' h'=some out∧a'.length=N∧WC P body (TD.ers (lk h) a) (erH h) ex (TD.ers (lk h') a') (erH h')):
 ∀(k:Nat)(a:List TD)(h:List TEnt)(K:Kc O)(out:O),a.length=N→ZrV step k a h K=some out→∃ex a' h',K ex a' h'=some out∧a'.length=N∧Zva P body (TD.ers (lk h) a) (erH h) ex (TD.ers (lk h') a') (erH h')
 |0,_,_,_,_,_,k=>by cases k
 |n+1,a,h,K,out,hN,k=>by
  unfold ZrV at k;obtain⟨ex,a1,h1,k1,k2,k3⟩:=hs _ _ _ _ hN k;split at k1
  ·obtain⟨ex2,a2,h2,k4,k5,k6⟩:=ZqD hs n a1 h1 K out k2 k1;exact⟨ex2,a2,h2,k4,k5,Zvc [] k3 k6⟩
  ·rename_i hne;exact⟨_,a1,h1,k1,k2,Zvb hne k3⟩
def ZpH(m:Nat)(a:List TD)(h:List TEnt):List (Nat×Lp)→Option (Σ bk:Lp,Ty.dens bk.I)
 |[]=>none
 |q::r=>if Nat.beq q.1 m=true then match (Zxe h.length q.2.sl q.2.es a h).bind (toD q.2.I) with
   |some v=>some ⟨q.2,v⟩
   |none=>ZpH m a h r
  else ZpH m a h r
theorem ZgY{m:Nat}{a:List TD}{h:List TEnt}{b:Σ bk:Lp,Ty.dens bk.I}:∀{l:List (Nat×Lp)},ZpH m a h l=some b→(m,b.1)∈l∧∃vs,Zxe h.length b.1.sl b.1.es a h=some vs∧toD b.1.I vs=some b.2
 |[],k=>by cases k
 |q::r,k=>by
  unfold ZpH at k;split at k
  ·rename_i hm;split at k
   ·rename_i v hv;cases k;have e:=Nat.eq_of_beq_eq_true hm;refine⟨?_,yf.1 hv⟩;rw[←e];exact yau ..
   ·obtain⟨h1,h2⟩:=ZgY k;exact⟨yay _ h1,h2⟩
  ·obtain⟨h1,h2⟩:=ZgY k;exact⟨yay _ h1,h2⟩
def evT{O:Type}(P:yg)(fi:FI)(specs:Sp P):Code→Nat→Nat→List TD→List TEnt→Kc O→Option O
 |.skip,_,_,a,h,K=>K .normal a h
 |.label _,_,_,a,h,K=>K .normal a h
 |.region _ ops draw,_,_,a,h,K=>if draw=true then ZJV P fi.hi specs ops a h λa' h'=>K .normal a' h' else ZFy P fi.hi specs ops ops.toList a h λa' h' _=>K .normal a' h'
 |.seq x y,n,m,a,h,K=>ghO (fi.gh.lookup m) a h λa h=>match ZpH m a h fi.bk with
  |none=>evT P fi specs x n (m+1) a h λex a' h'=>match ex with
   |.normal=>evT P fi specs y (n+Code.nl x) (m+1+Code.ns x) a' h' K
   |ex=>K ex a' h'
  |some bk=>(bk.1.L bk.2).bind λo=>xT a.length bk.1.xs o λex a' h'=>match ex with
   |.normal=>evT P fi specs y (n+Code.nl x) (m+1+Code.ns x) a' h' K
   |ex=>K ex a' h'
 |.cond c x y,n,m,a,h,K=>((arT P a 0 c).bind TD.boolT).bind λb=>match c with
  |.tmp t=>if b=true then evT P fi specs x n m (a.set t (Zuv true)) h K else evT P fi specs y (n+Code.nl x) (m+Code.ns x) (a.set t (Zuv false)) h K
  |_=>if b=true then evT P fi specs x n m a h K else evT P fi specs y (n+Code.nl x) (m+Code.ns x) a h K
 |.block id body,n,m,a,h,K=>evT P fi specs body n m a h λex a' h'=>K (Zxd id ex) a' h'
 |.loop body,n,m,a,h,K=>match ZpH n a h fi.lp with
  |some lp=>(lp.1.L lp.2).bind λo=>xT a.length lp.1.xs o K
  |none=>ZrV (λa h K=>evT P fi specs body (n+1) m a h K) fi.un a h K
 |.scope body,n,m,a,h,K=>evT P fi specs body n m a h K
 |.exit id,_,_,a,h,K=>K (.exit id) a h
 |.ret,_,_,a,h,K=>K .ret a h
 |_,_,_,_,_,_=>none
def Wr:Code→List Code
 |.seq a b=>a::(Wr a++Wr b)
 |.cond _ a b=>Wr a++Wr b
 |.block _ a=>Wr a
 |.scope a=>Wr a
 |.loop a=>Wr a
 |_=>[]
theorem ZbH:∀c:Code,(Wr c).length=Code.ns c
 |.seq a b=>by simp only[Wr,yae,yp,ZbH a,ZbH b,Code.ns]
 |.cond _ a b=>by simp only[Wr,yp,ZbH a,ZbH b,Code.ns]
 |.block _ a=>by simp only[Wr,ZbH a,Code.ns]
 |.scope a=>by simp only[Wr,ZbH a,Code.ns]
 |.loop a=>by simp only[Wr,ZbH a,Code.ns]
 |.skip=>rfl
 |.region _ _ _=>rfl
 |.rangeFunc _ _ _ _=>rfl
 |.exit _=>rfl
 |.ret=>rfl
 |.label _=>rfl
 |.goto _=>rfl
 |.refuse _=>rfl
def ZjG(P:yg)(fi:FI)(N:Nat)(c:Code)(m:Nat):Prop:=∀(k:Nat)(x:Code),(Wr c)[k]? =some x→∀bk,(m+k,bk)∈fi.bk→bk.Is P N x
theorem ZFN{fi:FI}{N:Nat}{x y c:Code}{m:Nat}(e:Wr c=Wr x++Wr y)(h:ZjG P fi N c m):ZjG P fi N x m:=λk b hk=>h k b (by
 rw[e,yao (yr.1 hk).1];exact hk)
theorem ZDR{fi:FI}{N:Nat}{x y c:Code}{m:Nat}(e:Wr c=Wr x++Wr y)(h:ZjG P fi N c m):ZjG P fi N y (m+Code.ns x):=λk b hk lp hl=>h (Code.ns x+k) b (by
 rw[e,yas (by rw[ZbH];omega),ZbH];rw[show Code.ns x+k - Code.ns x=k by omega];exact hk) lp (by rw[←ycg];exact hl)
theorem ZFO{fi:FI}{N:Nat}{x y:Code}{m:Nat}(h:ZjG P fi N (.seq x y) m):ZjG P fi N x (m+1):=λk b hk lp hl=>h (k+1) b (by
 rw[Wr,yaq,yao (yr.1 hk).1];exact hk) lp (by rw[show m+(k+1)=m+1+k by omega];exact hl)
theorem Zzc{fi:FI}{N:Nat}{x y:Code}{m:Nat}(h:ZjG P fi N (.seq x y) m):ZjG P fi N y (m+1+Code.ns x):=λk b hk lp hl=>h (Code.ns x+k+1) b (by
 rw[Wr,yaq,yas (by rw[ZbH];omega),ZbH];rw[show Code.ns x+k - Code.ns x=k by omega];exact hk) lp (by rw[show m+(Code.ns x+k+1)=m+1+Code.ns x+k by omega];exact hl)
def ZkF(P:yg)(fi:FI)(N:Nat)(c:Code)(n:Nat):Prop:=∀(k:Nat)(b:Code),(ZH c)[k]? =some (.loop b)→∀lp,(n+k,lp)∈fi.lp→lp.Ok P N b
theorem Zzd{fi:FI}{N:Nat}{x y c:Code}{n:Nat}(e:ZH c=ZH x++ZH y)(h:ZkF P fi N c n):ZkF P fi N x n:=λk b hk=>h k b (by
 rw[e,yao (yr.1 hk).1];exact hk)
theorem Zvz{fi:FI}{N:Nat}{x y c:Code}{n:Nat}(e:ZH c=ZH x++ZH y)(h:ZkF P fi N c n):ZkF P fi N y (n+Code.nl x):=λk b hk lp hl=>h (Code.nl x+k) b (by
 rw[e,yas (by rw[ZbG];omega),ZbG];rw[show Code.nl x+k - Code.nl x=k by omega];exact hk) lp (by rw[←ycg];exact hl)
theorem Ws{O:Type}{fi:FI}{specs:Sp P}{out:O}{N:Nat}(ok:SpOk specs):∀(c:Code)(n m:Nat)(a:List TD)(h:List TEnt)(K:Kc O),a.length=N→ZkF P fi N c n→ZjG P fi N c m→evT P fi specs c n m a h K=some out→
 ∃ex a' h',K ex a' h'=some out∧a'.length=N∧WC P c (TD.ers (lk h) a) (erH h) ex (TD.ers (lk h') a') (erH h')
 |.skip,n,m,a,h,K,hN,hl,hb0,k=>⟨_,_,_,k,hN,ZDO⟩
 |.label _,n,m,a,h,K,hN,hl,hb0,k=>⟨_,_,_,k,hN,ZAU⟩
 |.exit _,n,m,a,h,K,hN,hl,hb0,k=>⟨_,_,_,k,hN,ZDP⟩
 |.ret,n,m,a,h,K,hN,hl,hb0,k=>⟨_,_,_,k,hN,ZFL⟩
 |.region id ops draw,n,m,a,h,K,hN,hl,hb0,k=>by
  unfold evT at k
  cases draw with
  |true=>
   rw[if_pos rfl] at k;obtain⟨a',h',k1,k2,k3⟩:=ZDK ok k
   exact⟨_,_,_,k1,by rw[k2,hN],k3 id⟩
  |false=>
   rw[if_neg (by decide)] at k;obtain⟨a',h',hs,k1,k2,k3⟩:=ZDL ok k
   exact⟨_,_,_,k1,by rw[k2,hN],k3 id⟩
 |.seq x y,n,m,a,h,K,hN,hl,hb0,k=>by
  have hx:=Zzd (x:=x) (y:=y) rfl hl;have hy:=Zvz (x:=x) (y:=y) rfl hl;unfold evT at k;obtain⟨a0,h0,k,hN0,gst⟩:=ZFK k;rw[hN] at hN0
  suffices key:∃ex a' h',K ex a' h'=some out∧a'.length=N∧WC P (.seq x y) (TD.ers (lk h0) a0) (erH h0) ex (TD.ers (lk h') a') (erH h') by
   obtain⟨ex,a',h',g1,g2,g3⟩:=key;exact⟨ex,a',h',g1,g2,ZH0 gst g3⟩
  clear gst;have hN:=hN0;clear hN0;split at k
  ·obtain⟨ex,a1,h1,k1,k2,k3⟩:=Ws ok x _ _ _ _ _ hN hx (ZFO hb0) k;split at k1
   ·obtain⟨ex2,a2,h2,k4,k5,k6⟩:=Ws ok y _ _ _ _ _ k2 hy (Zzc hb0) k1;exact⟨_,_,_,k4,k5,Zza k3 k6⟩
   ·rename_i hne;exact⟨_,_,_,k1,k2,Zvx hne k3⟩
  ·rename_i bkv hbk;obtain⟨bk,v⟩:=bkv;obtain⟨hbk,vs,j1,j2⟩:=ZgY hbk;dsimp only at hbk j1 j2 k;obtain⟨o,j3,k⟩:=yf.1 k;obtain⟨e,vs',s,g1,g2,g3⟩:=ZrS k;obtain⟨a3,h3,j4,j5⟩:=Zvy rfl j1;have hok:=hb0 0 x rfl bk (by rw[Nat.add_zero];exact hbk);rw[hN] at g2 j4;have e1:=Zc9 _ _ _ j2;have r:=hok v o j3 (a3,h3) (by rw[e1];exact j4) e vs' s g1 g2
   have k3:WC P x (TD.ers (lk h0) a0) (erH h0) e.ex (TD.ers (lk s.2) s.1) (erH s.2):=by
    intro σ act okσ hH hrep;obtain⟨σ1,p1,p2,p3,p4,p5⟩:=j5 σ act okσ hH hrep;rw[←p1];refine wp_mono (r σ1 act p4 p2 p5) ?_;rintro e' a' w' ⟨rfl,σ2,q1,q2,q3,q4,q5⟩;exact⟨rfl,σ2,q1,q2,p3.trans q3,q4,q5⟩
   split at g3
   ·rename_i he;rw[he] at k3;obtain⟨ex2,a2,h2,k4,k5,k6⟩:=Ws ok y _ _ _ _ _ (Zh1 g2) hy (Zzc hb0) g3;exact⟨_,_,_,k4,k5,Zza k3 k6⟩
   ·rename_i hne
    exact⟨_,_,_,g3,Zh1 g2,Zvx hne k3⟩
 |.cond c x y,n,m,a,h,K,hN,hl,hb0,k=>by
  have hx:=Zzd (x:=x) (y:=y) rfl hl;have hy:=Zvz (x:=x) (y:=y) rfl hl;have bx:=ZFN (x:=x) (y:=y) rfl hb0;have bY:=ZDR (x:=x) (y:=y) rfl hb0;unfold evT at k;obtain⟨b,k0,k⟩:=yf.1 k;obtain⟨d,k00,k01⟩:=yf.1 k0;have hc:=Zw (L:=lk h) k00;rw[ZhX k01] at hc;split at k
  ·rename_i t;cases k00;have e:=Zy2 k01;split at k
   ·rename_i hb;subst hb;rw[set_same e] at k;obtain⟨ex,a1,h1,k1,k2,k3⟩:=Ws ok x _ _ _ _ _ hN hx bx k;exact⟨_,_,_,k1,k2,ZlS hc k3⟩
   ·rename_i hb;have hb:b=false:=by simpa using hb
    subst hb;rw[set_same e] at k;obtain⟨ex,a1,h1,k1,k2,k3⟩:=Ws ok y _ _ _ _ _ hN hy bY k;exact⟨_,_,_,k1,k2,ZlS hc k3⟩
  ·split at k
   ·rename_i hb;subst hb;obtain⟨ex,a1,h1,k1,k2,k3⟩:=Ws ok x _ _ _ _ _ hN hx bx k;exact⟨_,_,_,k1,k2,ZlS hc k3⟩
   ·rename_i hb;have hb:b=false:=by simpa using hb
    subst hb;obtain⟨ex,a1,h1,k1,k2,k3⟩:=Ws ok y _ _ _ _ _ hN hy bY k
    exact⟨_,_,_,k1,k2,ZlS hc k3⟩
 |.block id body,n,m,a,h,K,hN,hl,hb0,k=>by
  unfold evT at k;obtain⟨ex,a1,h1,k1,k2,k3⟩:=Ws ok body _ _ _ _ _ hN hl hb0 k
  exact⟨_,_,_,k1,k2,ZAS k3⟩
 |.scope body,n,m,a,h,K,hN,hl,hb0,k=>by
  unfold evT at k;obtain⟨ex,a1,h1,k1,k2,k3⟩:=Ws ok body _ _ _ _ _ hN hl hb0 k
  exact⟨_,_,_,k1,k2,ZAT k3⟩
 |.loop body,n,m,a,h,K,hN,hl,hb0,k=>by
  unfold evT at k;split at k
  ·rename_i lpv hlp;obtain⟨lp,v⟩:=lpv;obtain⟨hlp,vs,j1,j2⟩:=ZgY hlp;dsimp only at hlp j1 j2 k;obtain⟨o,j3,k⟩:=yf.1 k;obtain⟨e,vs',s,g1,g2,g3⟩:=ZrS k;obtain⟨a3,h3,j4,j5⟩:=Zvy rfl j1;have hok:=hl 0 body rfl lp (by rw[Nat.add_zero];exact hlp);rw[hN] at g2 j4;have e1:=Zc9 _ _ _ j2;have r:=hok v o j3 (a3,h3) (by rw[e1];exact j4) e vs' s g1 g2;refine⟨_,_,_,g3,Zh1 g2, ?_⟩;intro σ act okσ hH hrep;obtain⟨σ1,p1,p2,p3,p4,p5⟩:=j5 σ act okσ hH hrep;rw[←p1];refine wp_mono (r σ1 act p4 p2 p5) ?_;rintro e' a' w' ⟨rfl,σ2,q1,q2,q3,q4,q5⟩;exact⟨rfl,σ2,q1,q2,p3.trans q3,q4,q5⟩
  ·have hl1:ZkF P fi N body (n+1):=λk b hk lp hl2=>hl (k+1) b (by rw[ZH,yaq];exact hk) lp (by rw[show n+(k+1)=n+1+k by omega];exact hl2);obtain⟨ex,a1,h1,k1,k2,k3⟩:=ZqD (λa h K out hN k=>Ws ok body _ _ _ _ K hN hl1 hb0 k) _ _ _ _ _ hN k
   exact⟨ex,a1,h1,k1,k2,Zvd k3⟩
 |.rangeFunc _ _ _ _,_,_,_,_,_,_,_,_,k=>by cases k
 |.goto _,_,_,_,_,_,_,_,_,k=>by cases k
 |.refuse _,_,_,_,_,_,_,_,_,k=>by cases k
end
end Go.Ev
end
