/- Parts of the proof, in one file. -/
import Derived.Test.YtmkgbalfkhaflaaGreatKc
open Bool renaming and_eq_true → yj, false_eq_true → ybt, or_eq_true → yce
open Go renaming TypeId → yb, Program → yg, Operand → yo, FuncId → yv
open List renaming length_append → yp, getElem?_eq_some_iff → yr, range → yw, nil_append → yx, replicate → yy, length_map → yz, cons_append → yaa, getElem?_eq_getElem → yac, map_cons → yaf, length_cons → yag, append_assoc → yaj, getElem?_map → yal, getElem?_append_left → yan, getElem?_eq_none → yao, getElem?_cons_succ → yap, getElem?_cons_zero → yas, getElem?_append_right → yat, mem_cons_self → yav, mem_cons_of_mem → yaw, map_append → yax, map_map → ybc, all_eq_true → ybd, append_nil → ybh, length_set → ybj, take_length → ybl, map_set → ybo, ext_getElem? → ybp, getElem?_set → ybw, map_take → ycb, map_congr_left → ycj, length_replicate → ycp, length_nil → ycq, getElem?_set_self → ycr, getD_eq_getElem?_getD → ycx, getElem?_set_ne → yda
open Nat renaming le_refl → yn, add_assoc → ycg
open Option renaming bind_some → ya, bind_eq_some_iff → yf, map_eq_some_iff → yq, map_some → yab
open Option.some renaming injEq → yi
set_option linter.unusedVariables false
set_option linter.unusedSimpArgs false
section
namespace Go.Ev
section
variable{P:yg}{o:Oper}{ts all:List TD}{H:List TEnt}{O:Type}{K:Kn O}{out:O}
theorem Zbe{id:Nat}{e x:TEnt}(hx:H[id]? =some x)(h1:x.isLog=false)(h2:e.isLog=false):TD.ers (lk (H.set id e)) all=TD.ers (lk H) all:=by rw[Qo hx h1 h2]
def Zv6(P:yg)(t:yb)(all:List TD)(H:List TEnt)(K:Kn O)(kd vd:yb→Option TD):TD→Option O
 |.mp id=>match P.underlying t with
  |some (.map kt et)=>(ZuG H id).bind λm=>(kd kt).bind λx=>(ZBh x m.k).bind λkey=>((vd et).bind (TD.flat (lk H))).bind λz=>(TP.to Zj1 z m.v).bind λy=>
   if ZnE P kt m.k=true then K all .junk (H.set id (.map m.tid m.k m.v (@ZxM m.k.den m.v.den (Ty.deq m.k) m.l key y))) [.kvs (kvl m.k.enc m.v.enc (@ZxM m.k.den m.v.den (Ty.deq m.k) m.l key y))] 2 else none
  |_=>none
 |_=>none
theorem Zv7{t:yb}{x k v:yo}{xd:TD}(ho:o.op=.mapUpdate t x k v)(hx:arT P ts t x=some xd)(h:Zv6 P t all H K (λkt=>arT P ts kt k) (λet=>arT P ts et v) xd=some out):
 ∃a d H' hs c,K a d H' hs c=some out∧Good P o ts all H a d H' hs c:=by
 have hv:=Zw (L:=lk H) hx;unfold Zv6 at h;split at h
 ·rename_i id;split at h
  ·rename_i kt et hu;obtain⟨m,h1,h⟩:=yf.1 h;obtain⟨kd,h2,h⟩:=yf.1 h;obtain⟨key,h3,h⟩:=yf.1 h;obtain⟨z,h4,h⟩:=yf.1 h;obtain⟨zd,h40,h41⟩:=yf.1 h4;obtain⟨y,h6,h⟩:=yf.1 h;obtain⟨h5,h⟩:=Za h;obtain⟨e1,e2⟩:=Zim h1;have hk:=Zw (L:=lk H) h2;rw[Zr6 h3] at hk;have hz:=Zw (L:=lk H) h40
   letI:=Ty.deq m.k
   refine⟨_,_,_,_,_,h,Zbe e1 rfl rfl,rfl,or3 (⟨rfl,λrest=> ?_,λrest=> ?_,[fitP P 20 kt (m.k.enc key),Zgl P kt (kvl m.k.enc m.v.enc m.l),ZlX (kvl m.k.enc m.v.enc m.l) (m.k.enc key) z.pe.soft (kvl m.k.enc m.v.enc (ZxM m.l key y))],
    ⟨ZgA h5 key,Zlb (ZgA h5) _,by rw[Zgv z m.v y h6];exact ZrX (Zq8 h5) _ _ _,ytt⟩,λrest=> ?_⟩)⟩
   ·unfold evN;rw[ho]
   ·unfold evR;rw[ho]
   ·unfold evE;rw[ho];dsimp only;rw[hu,hv];dsimp only[TD.er];rw[hk,hz,ZxU h41,e2]
    try dsimp only
    rw[yaa,yx]
    try dsimp only
    rw[if_pos (Zv1 h5),Ws (Qo e1 rfl rfl)];rfl
  ·cases h
 ·cases h
def Zv8(P:yg)(t:yb)(all:List TD)(H:List TEnt)(K:Kn O)(kd:Option TD):TD→Option O
 |.mp id=>match P.underlying t with
  |some (.map kt et)=>(ZuG H id).bind λm=>kd.bind λx=>(ZBh x m.k).bind λkey=>
   if ZnE P kt m.k=true then K all (.tup []) (H.set id (.map m.tid m.k m.v (@ZCQ m.k.den m.v.den (Ty.deq m.k) m.l key))) [.kvs (kvl m.k.enc m.v.enc (@ZCQ m.k.den m.v.den (Ty.deq m.k) m.l key))] 2 else none
  |_=>none
 |_=>none
theorem Zv9{t u:yb}{x k:yo}{c:Call}{xd:TD}(ho:o.op=.call c)(hc:c.callee=.builtin .delete)(ha:c.args.toList=[x,k])(ht:c.argTypes.toList=[t,u])(hx:arT P ts t x=some xd)
 (h:Zv8 P t all H K (arT P ts u k) xd=some out):∃a d H' hs c,K a d H' hs c=some out∧Good P o ts all H a d H' hs c:=by
 have hv:=Zw (L:=lk H) hx;unfold Zv8 at h;split at h
 ·rename_i id;split at h
  ·rename_i kt et hu;obtain⟨m,h1,h⟩:=yf.1 h;obtain⟨kd,h2,h⟩:=yf.1 h;obtain⟨key,h3,h⟩:=yf.1 h;obtain⟨h5,h⟩:=Za h;obtain⟨e1,e2⟩:=Zim h1;have hk:=Zw (L:=lk H) h2;rw[Zr6 h3] at hk
   letI:=Ty.deq m.k
   refine⟨_,_,_,_,_,h,Zbe e1 rfl rfl,rfl,or3 (⟨rfl,λrest=> ?_,λrest=> ?_,[fitP P 20 kt (m.k.enc key),Zgl P kt (kvl m.k.enc m.v.enc m.l),ZlY (kvl m.k.enc m.v.enc m.l) (m.k.enc key) (kvl m.k.enc m.v.enc (ZCQ m.l key))],
    ⟨ZgA h5 key,Zlb (ZgA h5) _,ZrY (Zq8 h5) _ _,ytt⟩,λrest=> ?_⟩)⟩
   ·unfold evN;rw[ho];dsimp only;rw[hc]
   ·unfold evR;rw[ho];dsimp only;rw[hc]
   ·unfold evE;rw[ho];dsimp only;rw[hc];dsimp only;rw[ha,ht];dsimp only;rw[hu,hv];dsimp only[TD.er];rw[hk,e2]
    try dsimp only
    rw[yaa,yx]
    try dsimp only
    rw[if_pos (Zv1 h5),Ws (Qo e1 rfl rfl)];rfl
  ·cases h
 ·cases h
def TP.nilT(x:TP)(T:Ty):Bool:=
 match x with
 |.sl (some false) t []=>decide (t.size=T.size)
 |_=>false
theorem ZBi{x:TP}{T:Ty}(h:x.nilT T=true):x.pe=.sl (some false) T.size []:=by
 unfold TP.nilT at h;split at h
 ·rename_i t;show Pl.sl (some false) t.size []=_;rw[of_decide_eq_true h]
 ·cases h
def Zin(T:Ty)(new:TD):List Nat→TD→Option TD
 |[],.p x=>if x.nilT T then some new else none
 |i::r,.p x=>x.parts.bind λl=>(l[i]?).bind λz=>(Zin T new r (.p z)).map λy=>.agg ((l.map .p).set i y)
 |i::r,.agg ds=>(ds[i]?).bind λz=>(Zin T new r z).map λy=>.agg (ds.set i y)
 |_,_=>none
theorem Zlh{L:Lk}{T:Ty}{new:TD}:∀(path:List Nat)(d d':TD),Zin T new path d=some d'→Xv (d.er L) path T.size (new.er L)=some (d'.er L)
 |[],d,d',h=>by
  cases d with
  |p x=>
   simp only[Zin] at h;split at h
   ·rename_i hn;cases h;rw[TD.er,ZBi hn];simp[Xv]
   ·cases h
  |_=>cases h
 |i::r,d,d',h=>by
  cases d with
  |p x=>
   simp only[Zin] at h;obtain⟨l,h1,h⟩:=yf.1 h;obtain⟨z,h2,h⟩:=yf.1 h;obtain⟨y,h3,rfl⟩:=Zb h;have:=Zlh (L:=L) r (.p z) y h3;rw[TD.er,ZxR h1];unfold Xv;rw[show(TP.pes l)[i]? =some z.pe by rw[ZcJ,yal,h2];rfl];dsimp only;rw[TD.er] at this
   rw[this,yab,TD.er,ZN,ybo, ←ZN,ZEw]
  |agg ds=>
   simp only[Zin] at h;obtain⟨z,h2,h⟩:=yf.1 h;obtain⟨y,h3,rfl⟩:=Zb h;have:=Zlh (L:=L) r z y h3;rw[TD.er];unfold Xv;rw[Zgu h2];dsimp only
   rw[this,yab,TD.er,ZN,ZN,ybo]
  |_=>cases h
def ZnG(d:TD)(n:Nat):List (List Nat×Ty×yb)→Option (TD×List (Ty×yb))
 |[]=>some (d,[])
 |q::r=>(Zin q.2.1 (.own n none q.2.1 none) q.1 d).bind λd'=>(ZnG d' (n+1) r).map λz=>(z.1,(q.2.1,q.2.2)::z.2)
def ghH(l:List (List Nat×Ty×yb)):List Hint:=l.map λq=>.ghost q.1 q.2.1.size q.2.2
def Zx6(l:List (Ty×yb)):List TEnt:=l.map λq=>.log q.1 q.2 []
def ZEC(L:Lk)(n:Nat):Prop:=∀id t,n≤id→Ya L id t none=[]
theorem ZmN{L:Lk}:∀(l:List (List Nat×Ty×yb))(d:TD)(n:Nat)(z:TD×List (Ty×yb)),ZEC L n→ZnG d n l=some z→∀rest,
 YB (d.er L) n (ghH l++.raw::rest)=(z.1.er L,z.2.map (λq=>Ent.log q.1.size q.2 []),.raw::rest)
 |[],d,n,z,hN,h,rest=>by cases h;rfl
 |q::r,d,n,z,hN,h,rest=>by
  simp only[ZnG] at h;obtain⟨d',h1,h⟩:=yf.1 h;obtain⟨w,h2,rfl⟩:=Zb h;have e:=Zlh (L:=L) q.1 d d' h1;rw[TD.er,hN n q.2.1 (yn _)] at e;have ih:=ZmN r d' (n+1) w (λid t h=>hN id t (by omega)) h2 rest;show YB (d.er L) n (.ghost q.1 q.2.1.size q.2.2::(ghH r++.raw::rest))=_;unfold YB;rw[show Xv (d.er L) q.1 q.2.1.size (Dv.own n none q.2.1.size [])=some (d'.er L) from e]
  dsimp only;rw[ih];rfl
theorem ZED(H:List TEnt):ZEC (lk H) H.length:=λid t h=>by
 unfold Ya lk;rw[yao h];rfl
theorem ZoW:∀(l:List (Ty×yb))(H:List TEnt),(∀id t,Ya (lk H) id t none=Ya (lk (H++Zx6 l)) id t none)∧erH (H++Zx6 l)=erH H++l.map (λq=>Ent.log q.1.size q.2 [])
 |[],H=>by simp[Zx6]
 |q::l,H=>by
  have e:H++Zx6 (q::l)=(H++[.log q.1 q.2 []])++Zx6 l:=by simp[Zx6]
  obtain⟨h1,h2⟩:=ZoW l (H++[.log q.1 q.2 []]);rw[e];refine⟨λid t=>(ZnD id t).trans (h1 id t), ?_⟩;rw[h2,Zv0];simp
def newVar(hi:HI)(dst:Option Tmp)(d:TD)(all:List TD)(H:List TEnt)(K:Kn O):Option O:=
 match dst with
 |some t=>match hi.ghost.lookup t with
  |some l=>(ZnG d (H.length+1) l).bind λz=>K all (.ref H.length []) (H++[.var z.1 true]++Zx6 z.2) (ghH l++[.raw]) 2
  |none=>K all (.ref H.length []) (H++[.var d true]) [.raw] 2
 |none=>none
theorem ZpS{hi:HI}{dst:Option Tmp}{d:TD}(h:newVar hi dst d all H K=some out):
 ∃H' hs gd gl,K all (.ref H.length []) H' hs 2=some out∧TD.ers (lk H') all=TD.ers (lk H) all∧erH H'=erH H++Ent.var gd true::gl∧∀rest,YB (d.er (lk H)) ((erH H).length+1) (hs++rest)=(gd,gl,.raw::rest):=by
 unfold newVar at h;split at h
 ·rename_i t;split at h
  ·rename_i l hl;obtain⟨z,h1,h⟩:=yf.1 h;obtain⟨c1,c2⟩:=ZoW z.2 (H++[.var z.1 true]);have hL:lk (H++[.var z.1 true])=lk H:=ZeA rfl;refine⟨_,_,z.1.er (lk H),z.2.map (λq=>Ent.log q.1.size q.2 []),h, ?_, ?_,λrest=> ?_⟩
   ·rw[←ers_cont c1 all,hL]
   ·rw[c2,Zc8 hL];simp[TEnt.er]
   ·rw[ZO,yaj];exact ZmN l d _ z (λid t hh=>ZED H id t (by omega)) h1 rest
  ·refine⟨_,_,d.er (lk H),[],h,Zcn rfl, ?_,λrest=> ?_⟩
   ·rw[Zc8 (ZeA rfl)];rfl
   ·rfl
 ·cases h
def ZzU(P:yg)(hi:HI)(dst:Option Tmp)(t:yb)(all:List TD)(H:List TEnt)(K:Kn O):Option O:=
 (P.info? t).bind λi=>(ZuH P t).bind λz=>if(zOk i&&okT P t (XO P t)&&(XO P t).solid)=true then newVar hi dst (.p z) all H K else none
theorem Zx7{hi:HI}{t:yb}(ho:o.op=.alloc t)(h:ZzU P hi o.dst t all H K=some out):∃a d H' hs c,K a d H' hs c=some out∧Good P o ts all H a d H' hs c:=by
 unfold ZzU at h;obtain⟨i,h1,h⟩:=yf.1 h;obtain⟨z,h2,h⟩:=yf.1 h;obtain⟨h3,h⟩:=Za h;obtain⟨H',hs,gd,gl,k1,k2,k3,k4⟩:=ZpS h;refine⟨_,_,_,_,_,k1,k2,rfl,or3 (⟨rfl,λrest=> ?_,λrest=> ?_,[],trivial,λrest=> ?_⟩)⟩
 ·unfold evN;rw[ho]
 ·unfold evR;rw[ho]
 ·have k5:=k4 rest;rw[TD.er, ←ZnF h2] at k5;unfold evE;rw[ho];dsimp only;rw[h1];dsimp only;rw[k5];dsimp only;rw[if_pos h3,k3,ZO];rfl
def ZG0(L:Lk)(d:TD):TD:=
 match d.plain L with
 |some y=>.p y
 |none=>d
theorem ZG1{L:Lk}(d:TD):(ZG0 L d).er L=Zzl (d.er L):=by
 unfold ZG0 Zzl
 cases h:d.plain L with
 |none=>rw[Zr5 h]
 |some y=>rw[ZuD h];rfl
def ZIN(hi:HI)(dst:Option Tmp)(all:List TD)(H:List TEnt)(K:Kn O)(d:TD):Option O:=
 if((ZG0 (lk H) d).er (lk H)).solid=true then newVar hi dst (ZG0 (lk H) d) all H K else none
theorem ZCV{hi:HI}{t:yb}{x:yo}{xd:TD}(ho:o.op=.box t x)(hx:arT P ts t x=some xd)(h:ZIN hi o.dst all H K xd=some out):∃a d H' hs c,K a d H' hs c=some out∧Good P o ts all H a d H' hs c:=by
 have hv:=Zw (L:=lk H) hx;unfold ZIN at h;obtain⟨h3,h⟩:=Za h;obtain⟨H',hs,gd,gl,k1,k2,k3,k4⟩:=ZpS h;refine⟨_,_,_,_,_,k1,k2,rfl,or3 (⟨rfl,λrest=> ?_,λrest=> ?_,[],trivial,λrest=> ?_⟩)⟩
 ·unfold evN;rw[ho]
 ·unfold evR;rw[ho]
 ·have k5:=k4 rest;rw[ZG1] at k5 h3;unfold evE;rw[ho];dsimp only;rw[hv,k5];dsimp only;rw[if_pos h3,k3,ZO];rfl
def TD.meltP(L:Lk)(v:TD):TD:=
 match v.flat L with
 |some x=>.p x
 |none=>v
theorem Zr8{L:Lk}(v:TD):(v.meltP L).er L=(v.er L).meltP:=by
 unfold TD.meltP Dv.meltP;rw[Zq7];cases v.flat L <;> rfl
def Zwa(L:Lk)(path:List Stp)(d v:TD):Option TD:=
 match d,path with
 |.p _,_=>some (v.meltP L)
 |_,[]=>some (v.meltP L)
 |_,_=>some v
theorem ZoX{L:Lk}{path:List Stp}{d v new:TD}(h:Zwa L path d v=some new):Zfb (path.map Stp.i) (d.er L) (v.er L)=some (new.er L):=by
 unfold Zwa at h;split at h
 ·cases h;unfold Zfb;rw[TD.er];dsimp only;rw[Zr8]
 ·cases h;unfold Zfb;split
  ·rw[Zr8]
  ·simp only[List.map_nil];rw[Zr8]
 ·rename_i h1 h2;cases h;unfold Zfb;split
  ·rename_i z hz;cases d <;> first|cases hz|skip
   rename_i q;exact absurd rfl (h1 q)
  ·cases path with
   |nil=>exact absurd rfl h2
   |cons _ _=>rfl
def Zli(P:yg)(t:yb)(new sub:Dv):Bool:=new.solid&&new.size==sub.size&&P.cellsOf t==new.size&&(P.info? t).isSome&&new.isAgg==sub.isAgg
def ZJ2(hi:HI):yo→List (List Nat×Ty×yb)
 |.tmp t=>(hi.gst.lookup t).getD []
 |_=>[]
def ZzV(P:yg)(gs:List (List Nat×Ty×yb))(t:yb)(all:List TD)(H:List TEnt)(K:Kn O)(v:TD):TD→Option O
 |.ref id path=>match H[id]? with
  |some (.var d true)=>gpT (lk H) path d λsub hs put=>(Zwa (lk H) path d v).bind λnew=>(put new).bind λd'=>(ZnG d' H.length gs).bind λz=>
   if Zli P t (new.er (lk H)) (sub.er (lk H))=true then K all .junk (H.set id (.var z.1 true)++Zx6 z.2) (hs++(ghH gs++[.raw])) 2 else none
  |_=>none
 |.rref id v' path=>match H[id]? with
  |some (.row w s true e d)=>gpT (lk H) path d λsub hs put=>(Zwa (lk H) path d v).bind λnew=>(put new).bind λd'=>
   if(Zli P t (new.er (lk H)) (sub.er (lk H))&&w==v'&&rowN (d'.er (lk H)) s==rowN (d.er (lk H)) s)=true then K all .junk (H.set id (.row v' s true e d')) hs 2 else none
  |_=>none
 |_=>none
theorem Zx8{gs:List (List Nat×Ty×yb)}{t:yb}{x y:yo}{xd yd:TD}(ho:o.op=.store t x y)(hx:arT P ts 0 x=some xd)(hy:arT P ts t y=some yd)(h:ZzV P gs t all H K yd xd=some out):
 ∃a d H' hs c,K a d H' hs c=some out∧Good P o ts all H a d H' hs c:=by
 have hv:=Zw (L:=lk H) hx;have hw:=Zw (L:=lk H) hy;unfold ZzV at h;split at h
 ·rename_i id path;split at h
  ·rename_i d hd;obtain⟨sub,hs,put,C,k1,k2,k3,k4⟩:=Wh _ _ _ _ h;obtain⟨new,h1,h2⟩:=yf.1 k1;obtain⟨d',h3,h2⟩:=yf.1 h2;obtain⟨z,h5,h2⟩:=yf.1 h2;obtain⟨h4,h2⟩:=Za h2;unfold Zli at h4;obtain⟨g1,g2⟩:=ZoW z.2 (H.set id (.var z.1 true));have hL:lk (H.set id (.var z.1 true))=lk H:=Qo hd rfl rfl;refine⟨_,_,_,_,_,h2, ?_,rfl,or3 (⟨rfl,λrest=> ?_,λrest=> ?_,C++[ZeB path=W8 path],Zj.2 ⟨k2,(WE _).symm,ytt⟩,λrest=> ?_⟩)⟩
   ·rw[←ers_cont g1 all,hL]
   ·unfold evN;rw[ho]
   ·unfold evR;rw[ho]
   ·have k5:=ZmN gs d' H.length z (ZED H) h5 rest;unfold evE;rw[ho];dsimp only;rw[hv,hw];dsimp only[TD.er];rw[Yo hd];dsimp only[TEnt.er];rw[yaj,k3 (ghH gs++[Hint.raw]++rest)];dsimp only;rw[ZoX h1];dsimp only;rw[k4 new d' h3 _];dsimp only;rw[if_pos h4,ZO,yaj];rw[show([Hint.raw]++rest)=.raw::rest from rfl,k5]
    dsimp only;rw[g2,Ws hL];rfl
  ·cases h
 ·rename_i id v' path;split at h
  ·rename_i w s e d hd;obtain⟨sub,hs,put,C,k1,k2,k3,k4⟩:=Wh _ _ _ _ h;obtain⟨new,h1,h2⟩:=yf.1 k1;obtain⟨d',h3,h2⟩:=yf.1 h2;obtain⟨h4,h2⟩:=Za h2;rw[yj,yj] at h4;obtain⟨⟨h4,h5⟩,h6⟩:=h4;have h4':=h4;unfold Zli at h4';have hL:lk (H.set id (.row v' s true e d'))=lk H:=Qo hd rfl rfl;refine⟨_,_,_,_,_,h2,Zbe hd rfl rfl,rfl,or3 (⟨rfl,λrest=> ?_,λrest=> ?_,C++[ZeB path=W8 path],Zj.2 ⟨k2,(WE _).symm,ytt⟩,λrest=> ?_⟩)⟩
   ·unfold evN;rw[ho]
   ·unfold evR;rw[ho]
   ·unfold evE;rw[ho];dsimp only;rw[hv,hw];dsimp only[TD.er];rw[Yo hd];dsimp only[TEnt.er];rw[k3 rest];dsimp only;rw[ZoX h1];dsimp only;rw[k4 new d' h3 _];dsimp only;rw[if_pos (by simp only[yj] at h4' ⊢;exact⟨⟨h4',h5⟩,h6⟩),Ws hL];rfl
  ·cases h
 ·cases h
def Zwb(P:yg)(ts:List TD)(t:yb)(len:Nat)(parts:List (Nat×yo))(all:List TD)(H:List TEnt)(K:Kn O):Option O:=
 ZzN (lk H) P ts t len parts λT l e=>K all (.rv H.length 0 T.size 0 len) (H++[.row 0 T.size true e (.p (.v (.arr len T) l))]) [.arr] 2
theorem Zwc{t:yb}{len:Nat}{parts:Array (Nat×yo)}(ho:o.op=.buildSlice t len parts)(h:Zwb P ts t len parts.toList all H K=some out):
 ∃a d H' hs c,K a d H' hs c=some out∧Good P o ts all H a d H' hs c:=by
 unfold Zwb at h;obtain⟨e,T,l,i,xs,h1,hu,hi,hl,hz,hs,hx⟩:=Zhw h;refine⟨_,_,_,_,_,h1,Zcn rfl,rfl,or3 (⟨rfl,λrest=> ?_,λrest=> ?_,[],trivial,λrest=> ?_⟩)⟩
 ·unfold evN;rw[ho];rfl
 ·unfold evR;rw[ho]
 ·unfold evE;rw[ho];dsimp only;rw[yaa,yx];dsimp only;rw[hu];dsimp only;rw[hi,hl];dsimp only;rw[if_pos (by simpa using hz),hx,Zc8 (ZeA rfl),ZO,hs];rfl
def ZEE(P:yg)(ts:List TD)(e:yb):List (Nat×yo)→Option (List TD)
 |[]=>some []
 |q::r=>match arT P ts e q.2,ZEE P ts e r with
  |some d,some ds=>some (d::ds)
  |_,_=>none
theorem ZBj{L:Lk}{e:yb}:∀{parts:List (Nat×yo)}{ds:List TD},ZEE P ts e parts=some ds→(parts.map λq=>Zy P (TD.ers L ts) e q.2)=TD.ers L ds
 |[],ds,h=>by cases h;rfl
 |q::r,ds,h=>by
  simp only[ZEE] at h;split at h
  ·rename_i d l h1 h2;cases h;rw[yaf,Zw h1,ZBj h2,TD.ers]
  ·cases h
def ZJ3(P:yg)(ts:List TD)(t:yb)(L:Lk)(parts:List (Nat×yo)):Bool:=
 match P.underlying t with
 |some (.slice e)=>match ZEE P ts e parts with
  |some ds=>ds.all λd=>(d.flat L).isSome
  |none=>true
 |_=>true
def Zr9(P:yg)(ts:List TD)(t:yb)(len:Nat)(parts:List (Nat×yo))(all:List TD)(H:List TEnt)(K:Kn O):Option O:=
 match P.underlying t with
 |some (.slice e)=>(P.info? e).bind λi=>(ZEE P ts e parts).bind λds=>
  if((parts.map (·.1)==yw len)&&((TD.ers (lk H) ds).all λd=>d.solid&&d.size==P.cellsOf e)&&(zOk i&&i.size !=0&&decide (len*i.size≤16777216)))=true then
   K all (.rv H.length 0 i.size 0 len) (H++[.row 0 i.size true e (.arr len i.size ds)]) [.raw] 2 else none
 |_=>none
theorem ZtL{t:yb}{len:Nat}{parts:Array (Nat×yo)}(ho:o.op=.buildSlice t len parts)(h:Zr9 P ts t len parts.toList all H K=some out):
 ∃a d H' hs c,K a d H' hs c=some out∧Good P o ts all H a d H' hs c:=by
 unfold Zr9 at h;split at h
 ·rename_i e hu;obtain⟨i,hi,h⟩:=yf.1 h;obtain⟨ds,hd,h⟩:=yf.1 h;obtain⟨hk,h1⟩:=Za h;rw[yj,yj] at hk;refine⟨_,_,_,_,_,h1,Zcn rfl,rfl,or3 (⟨rfl,λrest=> ?_,λrest=> ?_,[],trivial,λrest=> ?_⟩)⟩
  ·unfold evN;rw[ho];rfl
  ·unfold evR;rw[ho]
  ·unfold evE;rw[ho];dsimp only;rw[yaa,yx];dsimp only;rw[hu];dsimp only
   have hl:Ze1 P (TD.ers (lk H) ts) e (P.cellsOf e) len parts.toList=some (TD.ers (lk H) ds):=by
    unfold Ze1;rw[if_pos hk.1.1,ZBj hd,if_pos hk.1.2]
   rw[hi,hl];dsimp only;rw[if_pos (by simpa using hk.2),Zc8 (ZeA rfl),ZO];rfl
 ·cases h
def Zwd(P:yg)(ts:List TD)(t:yb)(len:Nat)(parts:List (Nat×yo))(all:List TD)(H:List TEnt)(K:Kn O):Option O:=
 ZzN (lk H) P ts t len parts λT l e=>if(TD.frees H.length all&&H.all (TEnt.free H.length))=true then K all (.own H.length (some true) T none) (H++[.log T e l]) [.own] 2 else none
theorem Zwe{t:yb}{len:Nat}{parts:Array (Nat×yo)}(ho:o.op=.buildSlice t len parts)(h:Zwd P ts t len parts.toList all H K=some out):
 ∃a d H' hs c,K a d H' hs c=some out∧Good P o ts all H a d H' hs c:=by
 unfold Zwd at h;obtain⟨e,T,l,i,xs,h1,hu,hi,hl,hz,hs,hx⟩:=Zhw h;obtain⟨h2,h1⟩:=Za h1;rw[yj] at h2;refine⟨_,_,_,_,_,h1,Zhy h2.1,rfl,or3 (⟨rfl,λrest=> ?_,λrest=> ?_,[],trivial,λrest=> ?_⟩)⟩
 ·unfold evN;rw[ho];rfl
 ·unfold evR;rw[ho]
 ·unfold evE;rw[ho];dsimp only;rw[yaa,yx];dsimp only;rw[hu];dsimp only;rw[hi,hl];dsimp only;rw[if_pos (by simpa using hz),hx,ZBf h2.2,ZO,TD.er,Zhz,hs]
def Zx9(P:yg)(T:Ty)(u:yb)(H:List TEnt)(K:List T.den→List Hint→Option O)(x:TD):Option O:=
 match x with
 |.view id path s lo n=>match P.underlying u with
  |some (.slice _)=>(ZpQ H id).bind λd=>gpT (lk H) path d λsub hs _=>sub.inner.bind λy=>y.arow.bind λr=>(Ty.castL r.t T r.l).bind λl=>
   if(decide (s=T.size))=true then if(decide (lo+n≤r.n))=true then K ((l.drop lo).take n) hs else none else none
  |_=>none
 |.rv id v s lo n=>match P.underlying u,H[id]? with
  |some (.slice _),some (.row w s' _ _ d)=>d.inner.bind λy=>y.arow.bind λr=>(Ty.castL r.t T r.l).bind λl=>
   if(decide (s=T.size)&&decide (s'=T.size)&&w==v)=true then if(decide (lo+n≤r.n))=true then K ((l.drop lo).take n) [] else none else none
  |_,_=>none
 |.rw id=>match P.underlying u,H[id]? with
  |some (.slice _),some (.rowT T' v st e l')=>(Ty.castL T' T l').bind λl=>K l []
  |_,_=>none
 |x=>(Zx1 (lk H) P T u x).bind λl=>K l []
theorem ZmO{T:Ty}{u:yb}{x:TD}{K:List T.den→List Hint→Option O}(h:Zx9 P T u H K x=some out):
 ∃l hs C,K l hs=some out∧AllP C∧∀rest,ZtA P T.size u (erH H) (hs++rest) (x.er (lk H))=some (C,l.map T.enc,rest):=by
 unfold Zx9 at h;split at h
 ·rename_i id path s lo n;split at h
  ·rename_i e hu;obtain⟨d,h1,h⟩:=yf.1 h;obtain⟨st,h2,h3⟩:=Zfm h1;obtain⟨sub,hs,put,C,k1,k2,k3,_⟩:=Wh _ _ _ _ h;obtain⟨y,p1,k1⟩:=yf.1 k1;obtain⟨r,p2,k1⟩:=yf.1 k1;obtain⟨l,p3,k1⟩:=yf.1 k1;obtain⟨p4,k1⟩:=Za k1;obtain⟨p5,k1⟩:=Za k1;have p4:=of_decide_eq_true p4;have p5:=of_decide_eq_true p5
   have esub:sub.er (lk H)=.p (.arr r.n T.size (l.map T.enc)):=by
    rw[Xi p1,TD.er,V2 p2];obtain⟨e,p3⟩:=ZE p3;obtain⟨n0,t0,l0⟩:=r;dsimp only at e p3 ⊢;subst e;subst p3;rfl
   refine⟨_,_,C++[ZeB path=W8 path,lo+n≤r.n],k1,Zj.2 ⟨k2,(WE _).symm,p5,ytt⟩,λrest=> ?_⟩;unfold ZtA;rw[TD.er];dsimp only;rw[hu,h3];dsimp only;rw[k3 rest,esub];dsimp only;rw[if_pos (by simp[p4]),ycb,List.map_drop]
  ·cases h
 ·rename_i id v s lo n;split at h
  ·rename_i e w s' st e' d hu hd;obtain⟨y,p1,k1⟩:=yf.1 h;obtain⟨r,p2,k1⟩:=yf.1 k1;obtain⟨l,p3,k1⟩:=yf.1 k1;obtain⟨p4,k1⟩:=Za k1;obtain⟨p5,k1⟩:=Za k1;simp only[yj,decide_eq_true_eq] at p4;have p5:=of_decide_eq_true p5
   have esub:d.er (lk H)=.p (.arr r.n T.size (l.map T.enc)):=by
    rw[Xi p1,TD.er,V2 p2];obtain⟨e,p3⟩:=ZE p3;obtain⟨n0,t0,l0⟩:=r;dsimp only at e p3 ⊢;subst e;subst p3;rfl
   refine⟨_,_,[lo+n≤r.n],k1,⟨p5,ytt⟩,λrest=> ?_⟩;unfold ZtA;rw[TD.er];dsimp only;rw[hu,Yo hd,TEnt.er,esub];dsimp only;rw[if_pos (by simp[p4]),ycb,List.map_drop];rfl
  ·cases h
 ·rename_i id;split at h
  ·rename_i e T' v st e' l' hu hd;obtain⟨l,p3,k1⟩:=yf.1 h;obtain⟨eT,p3⟩:=ZE p3;subst eT;subst p3;refine⟨l,[],[0+l.length≤l.length],k1,⟨by omega,ytt⟩,λrest=> ?_⟩;unfold ZtA;rw[(ZbW hd).1];dsimp only;rw[hu,Yo hd,TEnt.er];dsimp only;rw[if_pos (by simp),List.drop_zero, ←yz (f:=T'.enc),ybl];simp
  ·cases h
 ·rename_i hx hx2 hx3;obtain⟨l,h1,h⟩:=yf.1 h;refine⟨l,[],[],h,trivial,λrest=> ?_⟩;rw[yx];unfold ZtA;split
  ·rename_i e;cases x <;> first|cases e|skip
   exact absurd rfl (hx _ _ _ _ _)
  ·rename_i e;cases x <;> first|cases e|skip
   ·exact absurd rfl (hx2 _ _ _ _ _)
   ·exact absurd rfl (hx3 _)
  ·rw[Zlf h1];rfl
structure LogE where
 t:Ty
 e:yb
 l:List t.den
def ZEF(H:List TEnt)(id:Nat):Option LogE:=
 match H[id]? with
 |some (.log t e l)=>some ⟨t,e,l⟩
 |_=>none
theorem ZzW{id:Nat}{m:LogE}(h:ZEF H id=some m):H[id]? =some (.log m.t m.e m.l):=by
 unfold ZEF at h;split at h
 ·rename_i hd;cases h;exact hd
 ·cases h
def apB(n m b:Nat):Bool:=decide ((n+m)*b≤Zn)&&decide (n+m≤maxLen)
def Zwf(P:yg)(own row:Bool)(t u:yb)(all:List TD)(H:List TEnt)(K:Kn O)(y:TD):TD→Option O
 |.own id nn T none=>match P.underlying t with
  |some (.slice e)=>(P.info? e).bind λi=>(ZEF H id).bind λm=>(Ty.castL m.t T m.l).bind λzs=>Zx9 P T u H (λys hs=>
   if(zOk i&&decide (i.size=T.size)&&decide (m.e=e)&&decide (T.size≠0))=true then if apB zs.length ys.length i.bytes=true then
    K (TD.stales (lk H) id all) (.own id none T none) ((H.map (TEnt.stale (lk H) id)).set id (.log T e (zs++ys))) hs 2 else none else none) y
  |_=>none
 |.rv id v s lo n=>match P.underlying t with
  |some (.slice e)=>(P.info? e).bind λi=>(Zj2 P tyD e).bind λT=>Zx9 P T u H (λys hs=>if ys.isEmpty=true then
    if(zOk i&&decide (P.cellsOf e=T.size))=true then K all (.rv id v s lo n) H (.bare::hs) 2 else none
   else match H[id]? with
    |some (.row w s' true e' d)=>d.inner.bind λy0=>y0.arow.bind λr=>(Ty.castL r.t T r.l).bind λxs=>
     if(zOk i&&decide (i.size=T.size)&&decide (s'=T.size)&&decide (e'=e)&&decide (T.size≠0)&&w==v&&decide (lo=0)&&decide (s=T.size))=true then if(decide (n≤r.n)&&apB n ys.length i.bytes)=true then
      K all (.rv id (v+1) s 0 (n+ys.length)) (H.set id (.row (v+1) s true e (.p (.v (.arr (n+ys.length) T) (xs.take n++ys))))) (.raw::hs) 2 else none else none
    |_=>none) y
  |_=>none
 |.p (.sl (some false) _ [])=>if row then match P.underlying t with
  |some (.slice e)=>(P.info? e).bind λi=>(Zj2 P tyD e).bind λT=>(Zx1 (lk H) P T u y).bind λys=>
   if(zOk i&&i.size !=0&&decide (i.size=T.size)&&decide (P.cellsOf e=T.size))=true then if ZzC ys.length i.bytes=true then
    K all (.rv H.length 0 i.size 0 ys.length) (H++[.row 0 i.size true e (.p (.v (.arr ys.length T) ys))]) [.arr] 2 else none else none
  |_=>none else if own then match P.underlying t with
  |some (.slice e)=>(P.info? e).bind λi=>(Zj2 P tyD e).bind λT=>(Zx1 (lk H) P T u y).bind λys=>
   if(zOk i&&i.size !=0&&decide (i.size=T.size)&&decide (P.cellsOf e=T.size)&&TD.frees H.length all&&H.all (TEnt.free H.length))=true then if ZzC ys.length i.bytes=true then
    K all (.own H.length none T none) (H++[.log T e ys]) [.own] 2 else none else none
  |_=>none else none
 |_=>none
theorem ZEG{id:Nat}{T:Ty}{e:yb}{l:List T.den}(H:List TEnt)(h:id < H.length):Ya (lk (H.set id (.log T e l))) id T none=l:=by
 unfold Ya lk;dsimp only;rw[ycr h];show(Ty.castL T T l).getD []=l;unfold Ty.castL;split
 ·rfl
 ·rename_i h _;exact absurd rfl h
theorem Zfn{L:Lk}{n:Nat}:∀(l:List TD),(TD.stales L n l).length=l.length
 |[]=>rfl
 |_::r=>by rw[TD.stales,yag,yag,Zfn r]
def ZzX(H:List TEnt):TD→TD
 |.own id nn T (some zs)=>match H[id]? with
  |some (.log t e l)=>match Ty.castL t T l with
   |some l'=>if@decide (l'=zs) (@instDecidableEqList T.den (Ty.deq T) l' zs)=true then .own id nn T none else .own id nn T (some zs)
   |none=>.own id nn T (some zs)
  |_=>.own id nn T (some zs)
 |d=>d
theorem ZCW(d:TD):(ZzX H d).er (lk H)=d.er (lk H):=by
 unfold ZzX;split
 ·rename_i id nn T zs;split
  ·rename_i t e l hd;split
   ·rename_i l' hc;split
    ·rename_i he;have he:=@of_decide_eq_true _ (@instDecidableEqList T.den (Ty.deq T) l' zs) he;rw[TD.er,TD.er]
     have:Ya (lk H) id T none=zs:=by
      unfold Ya lk;dsimp only;rw[hd];show(Ty.castL t T l).getD []=zs;rw[hc, ←he];rfl
     rw[this];rfl
    ·rfl
   ·rfl
  ·rfl
 ·rfl
theorem Zwg{own row:Bool}{t u:yb}{x y:yo}{c:Call}{xd yd:TD}(ho:o.op=.call c)(hc:c.callee=.builtin .append)(ha:c.args.toList=[x,y])(ht:c.argTypes.toList=[t,u])
 (hv:Zy P (TD.ers (lk H) ts) t x=xd.er (lk H)) (hy:arT P ts u y=some yd) (h:Zwf P own row t u all H K yd xd=some out):∃a d H' hs c,K a d H' hs c=some out∧Good P o ts all H a d H' hs c:=by
 have hw:=Zw (L:=lk H) hy;unfold Zwf at h;split at h
 ·rename_i id nn T;split at h
  ·rename_i e hu;obtain⟨i,h1,h⟩:=yf.1 h;obtain⟨m,h2,h⟩:=yf.1 h;obtain⟨zs,h3,h⟩:=yf.1 h;obtain⟨ys,hs,C,k1,k2,k3⟩:=ZmO h;obtain⟨k4,k6⟩:=Za k1;obtain⟨k5,kk⟩:=Za k6;clear k1 k6;simp only[yj,decide_eq_true_eq] at k4;obtain⟨⟨⟨g1,g2⟩,g3⟩,g4⟩:=k4;simp only[apB,yj,decide_eq_true_eq] at k5;have hl:=ZzW h2;obtain⟨mt,me,ml⟩:=m;dsimp only at h3 g3 hl;obtain⟨eT,h3⟩:=ZE h3;subst eT;subst h3;subst g3;have hlt:id < H.length:=(yr.1 hl).1
   have ec:Ya (lk H) id mt none=zs:=by
    unfold Ya lk;dsimp only;rw[hl];show(Ty.castL mt mt zs).getD []=zs;unfold Ty.castL;split
    ·rfl
    ·rename_i h _;exact absurd rfl h
   refine⟨_,_,_,_,_,kk,ers_stale (λid' t hn=>ZaT (lk H) id' t hn) all,Zfn all,or3 (⟨rfl,λrest=> ?_,λrest=> ?_,
    C++[zs.map mt.enc=zs.map mt.enc,((zs.map mt.enc).length+(ys.map mt.enc).length)*i.bytes≤Zn,(zs.map mt.enc).length+(ys.map mt.enc).length≤maxLen],Zj.2 ⟨k2,rfl,by simpa using k5.1,by simpa using k5.2,ytt⟩,λrest=> ?_⟩)⟩
   ·unfold evN;rw[ho];dsimp only;rw[hc];dsimp only;rw[ha,ht];split
    ·rename_i e1 e2 e3;simp only[List.cons.injEq,and_true] at e1 e2;obtain⟨rfl,rfl⟩:=e1;obtain⟨rfl,rfl⟩:=e2;rw[hu,hv];rfl
    ·rfl
   ·unfold evR;rw[ho];dsimp only;rw[hc]
   ·unfold evE;rw[ho];dsimp only;rw[hc];dsimp only;rw[ha,ht];dsimp only;rw[hu,hv,hw];dsimp only[TD.er];rw[ec,h1,k3 rest,Yo hl];dsimp only[TEnt.er];rw[if_pos (by simp[g1,g2,g4]),ZEA,ZEG _ (by rw[yz];exact hlt),yax]
  ·cases h
 ·rename_i id v s lo n;split at h
  ·rename_i e hu;obtain⟨i,h1,h⟩:=yf.1 h;obtain⟨T,h2,h⟩:=yf.1 h;obtain⟨ys,hs,C,k1,k2,k3⟩:=ZmO h
   have nN:∀hs,evN P o (TD.ers (lk H) ts) hs=none:=λhs=>by
    unfold evN;rw[ho];dsimp only;rw[hc];dsimp only;rw[ha,ht]
    cases hs with
    |nil=>rfl
    |cons h0 hr=>cases h0 <;> first|rfl|(dsimp only;rw[hu,hv];rfl)
   have nR:∀hs,evR P o (TD.ers (lk H) ts) (erH H) hs=none:=λhs=>by
    unfold evR;rw[ho];dsimp only;rw[hc]
   split at k1
   ·rename_i hemp;obtain⟨k4,k5⟩:=Za k1;simp only[yj,decide_eq_true_eq] at k4;have hys:ys=[]:=by simpa using hemp
    refine⟨_,_,_,_,_,k5,rfl,rfl,or3 (⟨rfl,λrest=>nN _,λrest=>nR _,C++[ys.map T.enc=[]],Zj.2 ⟨k2,by rw[hys];rfl,ytt⟩,λrest=> ?_⟩)⟩;unfold evE;rw[ho];dsimp only;rw[hc];dsimp only;rw[ha,ht];dsimp only;rw[hu,hv,hw];dsimp only[TD.er];rw[yaa];dsimp only;rw[h1,k4.2,k3 rest];dsimp only;rw[if_pos k4.1]
   ·split at k1
    ·rename_i w s' e' d hd;obtain⟨y0,p1,q1⟩:=yf.1 k1;obtain⟨r,p2,q2⟩:=yf.1 q1;obtain⟨xs,p3,q3⟩:=yf.1 q2;obtain⟨p4,q4⟩:=Za q3;obtain⟨p5,q5⟩:=Za q4;simp only[yj,decide_eq_true_eq,beq_iff_eq] at p4;obtain⟨⟨⟨⟨⟨⟨⟨g1,g2⟩,g3⟩,g4⟩,g5⟩,g6⟩,g7⟩,g8⟩:=p4;simp only[apB,yj,decide_eq_true_eq] at p5
     have esub:d.er (lk H)=.p (.arr r.n T.size (xs.map T.enc)):=by
      rw[Xi p1,TD.er,V2 p2];obtain⟨e,p3⟩:=ZE p3;obtain⟨n0,t0,l0⟩:=r;dsimp only at e p3 ⊢;subst e;subst p3;rfl
     refine⟨_,_,_,_,_,q5,Zbe hd rfl rfl,rfl,or3 (⟨rfl,λrest=>nN _,λrest=>nR _,C++[n≤r.n,(n+(ys.map T.enc).length)*i.bytes≤Zn,n+(ys.map T.enc).length≤maxLen,true=true∨n=r.n],
      Zj.2 ⟨k2,p5.1,by simpa using p5.2.1,by simpa using p5.2.2,.inl rfl,ytt⟩,λrest=> ?_⟩)⟩
     unfold evE;rw[ho];dsimp only;rw[hc];dsimp only;rw[ha,ht];dsimp only;rw[hu,hv,hw];dsimp only[TD.er];rw[yaa];dsimp only;rw[h1,g8,k3 rest,Yo hd,TEnt.er,esub];dsimp only;rw[if_pos (by simp[g1,g2,g3,g4,g5,g6,g7]),Ws (Qo hd rfl rfl)];simp only[TEnt.er,TD.er,TP.pe,ZvO,yz,yax,ycb]
    ·cases k1
  ·cases h
 ·rename_i T0;split at h
  ·split at h
   ·rename_i e hu;obtain⟨i,h1,h⟩:=yf.1 h;obtain⟨T,h2,h⟩:=yf.1 h;obtain⟨ys,h3,h⟩:=yf.1 h;obtain⟨k4,h⟩:=Za h;obtain⟨k5,h⟩:=Za h;simp only[yj,decide_eq_true_eq] at k4;obtain⟨⟨⟨g1,g2⟩,g3⟩,g4⟩:=k4;obtain⟨g7,g8⟩:=Zc7 k5;refine⟨_,_,_,_,_,h,Zcn rfl,rfl,or3 (⟨rfl,λrest=> ?_,λrest=> ?_,[(ys.map T.enc).length*i.bytes≤Zn,(ys.map T.enc).length≤maxLen],⟨by rw[yz];exact g7,by rw[yz];exact g8,ytt⟩,λrest=> ?_⟩)⟩
    ·unfold evN;rw[ho];dsimp only;rw[hc];dsimp only;rw[ha,ht];rfl
    ·unfold evR;rw[ho];dsimp only;rw[hc]
    ·unfold evE;rw[ho];dsimp only;rw[hc];dsimp only;rw[ha,ht];dsimp only;rw[hu,hv,hw,show(TD.p (TP.sl (some false) T0 [])).er (lk H)=Dv.p (.sl (some false) T0.size []) from rfl]
     dsimp only;rw[h1,g4,Zlf h3,yaa,yx];dsimp only;rw[if_pos (by simp only[yj];exact⟨g1,g2⟩),Zc8 (ZeA rfl),ZO];simp only[TEnt.er,TD.er,TP.pe,ZvO,yz,g3]
   ·cases h
  split at h
  ·split at h
   ·rename_i e hu;obtain⟨i,h1,h⟩:=yf.1 h;obtain⟨T,h2,h⟩:=yf.1 h;obtain⟨ys,h3,h⟩:=yf.1 h;obtain⟨k4,h⟩:=Za h;obtain⟨k5,h⟩:=Za h;simp only[yj,decide_eq_true_eq] at k4;obtain⟨⟨⟨⟨⟨g1,g2⟩,g3⟩,g4⟩,g5⟩,g6⟩:=k4;obtain⟨g7,g8⟩:=Zc7 k5;refine⟨_,_,_,_,_,h,Zhy g5,rfl,or3 (⟨rfl,λrest=> ?_,λrest=> ?_,[(ys.map T.enc).length*i.bytes≤Zn,(ys.map T.enc).length≤maxLen],⟨by rw[yz];exact g7,by rw[yz];exact g8,ytt⟩,λrest=> ?_⟩)⟩
    ·unfold evN;rw[ho];dsimp only;rw[hc];dsimp only;rw[ha,ht];rfl
    ·unfold evR;rw[ho];dsimp only;rw[hc]
    ·unfold evE;rw[ho];dsimp only;rw[hc];dsimp only;rw[ha,ht];dsimp only;rw[hu,hv,hw,show(TD.p (TP.sl (some false) T0 [])).er (lk H)=Dv.p (.sl (some false) T0.size []) from rfl]
     dsimp only;rw[h1,g4,Zlf h3,yaa,yx];dsimp only;rw[if_pos (by simp only[yj];exact⟨g1,g2⟩),ZBf g6,ZO,TD.er,Zhz,g3]
   ·cases h
  ·cases h
 ·cases h
def ZzY(P:yg)(t:yb)(all:List TD)(H:List TEnt)(K:Kn O):TD→Option O
 |.rv id v s lo n=>match P.underlying t,H[id]? with
  |some (.slice e),some (.row w s' true e' d)=>(P.info? e).bind λi=>(ZuH P e).bind λz=>d.inner.bind λy=>y.arow.bind λr=>(TP.to Zj1 z r.t).bind λz'=>
   if(zOk i&&decide (i.size=s)&&decide (s'=s)&&decide (r.t.size=s)&&w==v&&s !=0&&z.pe.size==s&&decide (n=1))=true then if decide (lo+1≤r.n)=true then
    K all (.tup []) (H.set id (.row v s true e' (.p (.v (.arr r.n r.t) (r.l.set lo z'))))) [] 2 else none else none
  |_,_=>none
 |_=>none
theorem Zya{t:yb}{x:yo}{c:Call}{xd:TD}(ho:o.op=.call c)(hc:c.callee=.builtin .clear)(ha:c.args.toList=[x])(ht:c.argTypes.toList=[t])
 (hx:arT P ts t x=some xd) (h:ZzY P t all H K xd=some out):∃a d H' hs c,K a d H' hs c=some out∧Good P o ts all H a d H' hs c:=by
 have hv:=Zw (L:=lk H) hx;unfold ZzY at h;split at h
 ·rename_i id v s lo n;split at h
  ·rename_i e w s' e' d hu hd;obtain⟨i,h1,h⟩:=yf.1 h;obtain⟨z,h2,h⟩:=yf.1 h;obtain⟨y,p1,q1⟩:=yf.1 h;obtain⟨r,p2,q2⟩:=yf.1 q1;obtain⟨z',p3,q3⟩:=yf.1 q2;obtain⟨p4,q4⟩:=Za q3;obtain⟨p5,k1⟩:=Za q4;clear q1 q2 q3 q4 h;simp only[yj,decide_eq_true_eq] at p4;obtain⟨⟨⟨⟨⟨⟨⟨g1,g2⟩,g3⟩,g4⟩,g5⟩,g6⟩,g7⟩,g8⟩:=p4;have g8':=g8;subst g8;have p5:=of_decide_eq_true p5;have esub:d.er (lk H)=.p (.arr r.n r.t.size (r.l.map r.t.enc)):=by rw[Xi p1,TD.er,V2 p2]
   refine⟨_,_,_,_,_,k1,Zbe hd rfl rfl,rfl,or3 (⟨rfl,λrest=> ?_,λrest=> ?_,[lo+1≤r.n],⟨p5,ytt⟩,λrest=> ?_⟩)⟩
   ·unfold evN;rw[ho];dsimp only;rw[hc]
   ·unfold evR;rw[ho];dsimp only;rw[hc]
   ·unfold evE;rw[ho];dsimp only;rw[hc];dsimp only;rw[ha,ht];dsimp only;rw[hu,hv];dsimp only[TD.er];rw[h1,ZnF h2,Yo hd,TEnt.er,esub];dsimp only;rw[if_pos (by simp only[yj,decide_eq_true_eq];exact⟨⟨⟨⟨⟨⟨⟨g1,g2⟩,g3⟩,g4⟩,g5⟩,g6⟩,g7⟩,ytt⟩),Ws (Qo hd rfl rfl),Zgv z r.t z' p3];have eset:(r.l.set lo z').map r.t.enc=(r.l.map r.t.enc).set lo (r.t.enc z'):=ybo ..;show some ([lo+1≤r.n],Dv.tup [],(erH H).set id (Ent.row v s true e' (.p (.arr r.n s ((r.l.map r.t.enc).set lo (r.t.enc z'))))),rest)=some ([lo+1≤r.n],Dv.tup [],(erH H).set id (Ent.row v s true e' (.p (.arr r.n r.t.size ((r.l.set lo z').map r.t.enc)))),rest);rw[eset,g4]
  ·cases h
 ·cases h
def ZEH(P:yg)(t u:yb)(all:List TD)(H:List TEnt)(K:Kn O)(y:TD):TD→Option O
 |.view id path s lo n=>match P.underlying t,H[id]? with
  |some (.slice e),some (.var d true)=>gpT (lk H) path d λsub hs put=>sub.inner.bind λy0=>y0.arow.bind λr=>(Zx1 (lk H) P r.t u y).bind λys=>
   (put (.p (.v (.arr r.n r.t) (r.l.take lo++(ys++r.l.drop (lo+ys.length)))))).bind λd'=>
     if(decide (r.t.size=s)&&decide (P.cellsOf e=s)&&(P.info? e).isSome&&decide (ys.length≤n)&&decide (lo+n≤r.n))=true then K all (.p (.v (.int .i64) (ys.length:Int))) (H.set id (.var d' true)) hs 2 else none
  |_,_=>none
 |_=>none
theorem ZzZ{t u:yb}{x y:yo}{c:Call}{xd yd:TD}(ho:o.op=.call c)(hc:c.callee=.builtin .copy)(ha:c.args.toList=[x,y])(ht:c.argTypes.toList=[t,u])
 (hx:arT P ts t x=some xd) (hy:arT P ts u y=some yd) (h:ZEH P t u all H K yd xd=some out):∃a d H' hs c,K a d H' hs c=some out∧Good P o ts all H a d H' hs c:=by
 have hv:=Zw (L:=lk H) hx;have hw:=Zw (L:=lk H) hy;unfold ZEH at h;split at h
 ·rename_i id path s lo n;split at h
  ·rename_i e d hu hd;obtain⟨sub,hs,put,C,k1,k2,k3,k4⟩:=Wh _ _ _ _ h;obtain⟨y0,p1,k1⟩:=yf.1 k1;obtain⟨r,p2,k1⟩:=yf.1 k1;obtain⟨ys,p3,k1⟩:=yf.1 k1;obtain⟨d',p4,k1⟩:=yf.1 k1;obtain⟨p5,k1⟩:=Za k1;simp only[yj,decide_eq_true_eq] at p5;obtain⟨⟨⟨⟨g1,g2⟩,g3⟩,g4⟩,g5⟩:=p5;have esub:sub.er (lk H)=.p (.arr r.n r.t.size (r.l.map r.t.enc)):=by rw[Xi p1,TD.er,V2 p2]
   refine⟨_,_,_,_,_,k1,Zbe hd rfl rfl,rfl,or3 (⟨rfl,λrest=> ?_,λrest=> ?_,C++[ZeB path=W8 path,(ys.map r.t.enc).length≤n,lo+n≤r.n],Zj.2 ⟨k2,(WE _).symm,by rw[yz];exact g4,g5,ytt⟩,λrest=> ?_⟩)⟩
   ·unfold evN;rw[ho];dsimp only;rw[hc]
   ·unfold evR;rw[ho];dsimp only;rw[hc]
   ·unfold evE;rw[ho];dsimp only;rw[hc];dsimp only;rw[ha,ht];dsimp only;rw[hu,hv,hw];dsimp only[TD.er];rw[←g1,Zlf p3,Yo hd];dsimp only[TEnt.er];rw[k3 rest,esub];dsimp only;have:=k4 _ _ p4 rest
    have e1:(TD.p (.v (.arr r.n r.t) (r.l.take lo++(ys++r.l.drop (lo+ys.length))))).er (lk H)=.p (.arr r.n r.t.size (ZoE (r.l.map r.t.enc) (ys.map r.t.enc) lo)):=by
     show Dv.p (Pl.arr r.n r.t.size ((r.l.take lo++(ys++r.l.drop (lo+ys.length))).map r.t.enc))=_;unfold ZoE;rw[yax,yax,ycb,List.map_drop,yz]
    rw[e1] at this;rw[this];dsimp only;rw[if_pos (by simp only[yj,decide_eq_true_eq];exact⟨⟨trivial,by rw[g1];exact g2⟩,g3⟩),Ws (Qo hd rfl rfl),yz];rfl
  ·cases h
 ·cases h
def Zz0(H:List TEnt)(id:Nat):Bool:=
 match H[id]? with
 |some (.var _ false)=>true
 |_=>false
def ZIO(P:yg)(t:yb)(lo hi:Option Int)(all:List TD)(H:List TEnt)(K:Kn O):TD→Option O
 |.ref id path=>match P.underlying t with
  |some (.array n e)=>(ZpQ H id).bind λd=>gpT (lk H) path d λsub hs _=>sub.inner.bind λy=>y.arow.bind λr=>
   if(decide (n=r.n)&&okB P e r.t.size&&decide (n≤maxLen))=true then if Za2 n lo hi=true then(if Zz0 H id=true then K all (.p (.sl (some true) r.t (VA r.l lo hi))) H (.frz::hs) 1 else
    K all (.p (.sl (some true) r.t (VA r.l lo hi))) (H.set id (.var d false)) (.frz::hs) 2) else none else none
  |_=>none
 |_=>none
theorem ZCX{t:yb}{x:yo}{lo hi:Option yo}{l h':Option Int}{xd:TD}(ho:o.op=.slice t x lo hi none)(hx:arT P ts t x=some xd)(hl:Zge P ts lo=some l)(hh:Zge P ts hi=some h')
 (h:ZIO P t l h' all H K xd=some out):∃a d H' hs c,K a d H' hs c=some out∧Good P o ts all H a d H' hs c:=by
 have hv:=Zw (L:=lk H) hx;have hl:=Zbd (L:=lk H) hl;have hh:=Zbd (L:=lk H) hh;unfold ZIO at h;split at h
 ·rename_i id path;split at h
  ·rename_i n e hu;obtain⟨d,h1,h⟩:=yf.1 h;obtain⟨st,h2,h3⟩:=Zfm h1;obtain⟨sub,hs,put,C,k1,k2,k3,_⟩:=Wh _ _ _ _ h;obtain⟨y,p1,k1⟩:=yf.1 k1;obtain⟨r,p2,k1⟩:=yf.1 k1;obtain⟨p4,k1⟩:=Za k1;obtain⟨p5,k1⟩:=Za k1;have esub:sub.er (lk H)=.p (.arr r.n r.t.size (r.l.map r.t.enc)):=by rw[Xi p1,TD.er,V2 p2]
   have nN:∀rest,evN P o (TD.ers (lk H) ts) (.frz::hs++rest)=none:=λrest=>by
    unfold evN;rw[ho];dsimp only;rw[hu,hv,hl,hh];rfl
   split at k1
   ·rename_i hst
    have hst':st=false:=by
     unfold Zz0 at hst;rw[h2] at hst
     cases st with
     |false=>rfl
     |true=>cases hst
    subst hst';refine⟨_,_,_,_,_,k1,rfl,rfl,.inr (.inl ⟨rfl,rfl,nN,C++[ZeB path=W8 path]++Y4 n l h',Zj.2 ⟨Zj.2 ⟨k2,(WE _).symm,ytt⟩,Zfl p5⟩,λrest=> ?_⟩)⟩;unfold evR;rw[ho];dsimp only;rw[hu,hv,hl,hh];dsimp only[TD.er];rw[yaa];dsimp only;rw[h3];dsimp only;rw[k3 rest,esub];dsimp only;rw[if_pos (by simpa[okB,and_assoc] using p4),TP.pe,Zgw]
   rename_i hst
   have hst':st=true:=by
    unfold Zz0 at hst;rw[h2] at hst
    cases st with
    |true=>rfl
    |false=>exact absurd rfl hst
   subst hst';refine⟨_,_,_,_,_,k1,Zbe h2 rfl rfl,rfl,or3 (⟨rfl,nN,λrest=> ?_,C++[ZeB path=W8 path]++Y4 n l h',Zj.2 ⟨Zj.2 ⟨k2,(WE _).symm,ytt⟩,Zfl p5⟩,λrest=> ?_⟩)⟩
   ·unfold evR;rw[ho];dsimp only;rw[hu,hv,hl,hh];dsimp only[TD.er];rw[yaa];dsimp only;rw[h3]
   ·unfold evE;rw[ho];dsimp only;rw[hu,hv,hl,hh];dsimp only[TD.er];rw[yaa];dsimp only;rw[h3];dsimp only;rw[k3 rest,esub];dsimp only;rw[if_pos (by simpa[okB,and_assoc] using p4),Ws (Qo h2 rfl rfl),TP.pe,Zgw];rfl
  ·cases h
 ·cases h
def Zwh(dst:Tmp)(all:List TD)(H:List TEnt)(K:Kn O):TD→Option O
 |.view id path s lo n=>(ZpQ H id).bind λd=>gpT (lk H) path d λsub hs _=>sub.inner.bind λy=>y.arow.bind λr=>
  if(decide (r.t.size=s))=true then if(decide (lo+n≤r.n))=true then K all (.p (.sl (some true) r.t ((r.l.drop lo).take n))) (H.set id (.var d false)) (.still dst::hs) 2 else none else none
 |.rv id v s lo n=>match H[id]? with
  |some (.row w s' _ e d)=>d.inner.bind λy=>y.arow.bind λr=>
   if(decide (r.t.size=s)&&decide (s'=s)&&w==v)=true then if(decide (lo+n≤r.n))=true then K all (.p (.sl none r.t ((r.l.drop lo).take n))) (H.set id (.row v s false e d)) [.still dst] 2 else none else none
  |_=>none
 |_=>none
theorem Zyb{dst:Tmp}{xd:TD}(h:Zwh dst all H K xd=some out):∃a d H' hs,K a d H' (.still dst::hs) 2=some out∧TD.ers (lk H') a=TD.ers (lk H) all∧a.length=all.length∧
 ∃C,AllP C∧∀rest,Zfc (xd.er (lk H)) (erH H) (hs++rest)=some (C,d.er (lk H'),erH H',rest):=by
 unfold Zwh at h;split at h
 ·rename_i id path s lo n;obtain⟨d,h1,h⟩:=yf.1 h;obtain⟨st,h2,h3⟩:=Zfm h1;obtain⟨sub,hs,put,C,k1,k2,k3,_⟩:=Wh _ _ _ _ h;obtain⟨y,p1,k1⟩:=yf.1 k1;obtain⟨r,p2,k1⟩:=yf.1 k1;obtain⟨p4,k1⟩:=Za k1;obtain⟨p5,k1⟩:=Za k1;have p4:=of_decide_eq_true p4;have p5:=of_decide_eq_true p5;have esub:sub.er (lk H)=.p (.arr r.n r.t.size (r.l.map r.t.enc)):=by rw[Xi p1,TD.er,V2 p2]
  refine⟨_,_,_,_,k1,Zbe h2 rfl rfl,rfl,C++[ZeB path=W8 path,lo+n≤r.n],Zj.2 ⟨k2,(WE _).symm,p5,ytt⟩,λrest=> ?_⟩;unfold Zfc;rw[show(TD.view id path s lo n).er (lk H)=Dv.view id (W8 path) (path.map Stp.i) s lo n from rfl]
  try dsimp only
  rw[h3]
  try dsimp only
  rw[k3 rest,esub]
  try dsimp only
  rw[if_pos p4,Ws (Qo h2 rfl rfl),TD.er,TP.pe,ycb,List.map_drop,p4]
  try rfl
 ·rename_i id v s lo n;split at h
  ·rename_i w s' st e d hd;obtain⟨y,p1,k1⟩:=yf.1 h;obtain⟨r,p2,k1⟩:=yf.1 k1;obtain⟨p4,k1⟩:=Za k1;obtain⟨p5,k1⟩:=Za k1;simp only[yj,decide_eq_true_eq] at p4;have p5:=of_decide_eq_true p5;have esub:d.er (lk H)=.p (.arr r.n r.t.size (r.l.map r.t.enc)):=by rw[Xi p1,TD.er,V2 p2]
   refine⟨_,_,_,[],k1,Zbe hd rfl rfl,rfl,[lo+n≤r.n],⟨p5,ytt⟩,λrest=> ?_⟩;rw[yx];unfold Zfc;rw[show(TD.rv id v s lo n).er (lk H)=Dv.rv id v s lo n from rfl]
   dsimp only;rw[Yo hd,TEnt.er,esub];dsimp only;rw[if_pos (by simp[p4]),Ws (Qo hd rfl rfl),TEnt.er,esub,TD.er,TP.pe,ycb,List.map_drop,p4.1.1]
  ·cases h
 ·cases h
theorem Zyc{x:yo}{dst:Tmp}{xd:TD}(ho:o.op=.assign x∨o.op=.move x)(hd:o.dst=some dst)(hx:arT P ts o.type x=some xd)(h:Zwh dst all H K xd=some out):
 ∃a d H' hs c,K a d H' hs c=some out∧Good P o ts all H a d H' hs c:=by
 have hv:=Zw (L:=lk H) hx;obtain⟨a,d,H',hs,k1,k2,k3,C,k4,k5⟩:=Zyb h;refine⟨_,_,_,_,_,k1,k2,k3,or3 (⟨rfl,λrest=> ?_,λrest=> ?_,C,k4,λrest=> ?_⟩)⟩
 ·rcases ho with ho|ho <;> (unfold evN;rw[ho];rfl)
 ·rcases ho with ho|ho <;> (unfold evR;rw[ho])
 ·rcases ho with ho|ho
  ·unfold evE;rw[ho];dsimp only;rw[yaa];dsimp only;rw[if_pos hd,hv];exact k5 rest
  ·unfold evE;rw[ho];dsimp only;rw[yaa];dsimp only;rw[if_pos hd,hv];exact k5 rest
def TD.isRw:TD→Bool
 |.rw _=>true
 |_=>false
def TD.isRp:TD→Bool
 |.rp _ _=>true
 |_=>false
theorem ZBk{id:Nat}{T:Ty}{v:List Unit}{st st':Bool}{e e':yb}{l l':List T.den}(hd:H[id]? =some (.rowT T v st e l))(hl:l'.length=l.length):lk (H.set id (.rowT T v st' e' l'))=lk H:=by
 funext j;unfold lk;by_cases hj:id=j
 ·subst hj;rw[getElem?_set_eq' hd,hd];show some _=some _;rw[hl]
 ·rw[getElem?_set_ne' hj]
def Zwi(P:yg)(t:yb)(i:Int)(all:List TD)(H:List TEnt)(K:Kn O):TD→Option O
 |.rw id=>match P.underlying t,H[id]? with
  |some (.slice e),some (.rowT T v st e' l)=>if okB P e T.size=true then if inB i l.length=true then K all (.rp id [.ix i.toNat T.size]) H [] 0 else none else none
  |_,_=>none
 |_=>none
theorem Zwj{t:yb}{x ix:yo}{xd:TD}{q:IntKind×Int}{ip:TP}(ho:o.op=.indexAddr t x ix)(hx:arT P ts t x=some xd)(hi:arT P ts 0 ix=some (.p ip))(hq:ZvP ip=some q)(h:Zwi P t q.2 all H K xd=some out):
 ∃a d H' hs c,K a d H' hs c=some out∧Good P o ts all H a d H' hs c:=by
 have hv:=Zw (L:=lk H) hx;have hw:=Zw (L:=lk H) hi;rw[TD.er,(Zq6 hq).1] at hw;unfold Zwi at h;split at h
 ·rename_i id;split at h
  ·rename_i e T v st e' l hu hd;obtain⟨h3,h⟩:=Za h;obtain⟨h4,h⟩:=Za h;refine⟨_,_,_,_,_,h,rfl,rfl,.inl ⟨rfl,rfl,[0≤q.2,q.2 < (l.length:Int)],⟨(Zaj h4).1,(Zaj h4).2,ytt⟩,λrest=> ?_⟩⟩;simp only[yx];unfold evN;rw[ho];dsimp only;rw[hu,hv,hw,(ZbW hd).1,(ZbW hd).2];dsimp only;rw[if_pos (by simpa[okB] using h3)];simp[W8,Stp.o,Stp.i]
  ·cases h
 ·cases h
def ZEI(P:yg)(t:yb)(all:List TD)(H:List TEnt)(K:Kn O):TD→Option O
 |.rw id=>match P.underlying t,H[id]? with
  |some (.slice _),some (.rowT T v st e' l)=>K all (.p (.v (.int .i64) (l.length:Int))) H [] 0
  |_,_=>none
 |_=>none
theorem Zz1{t:yb}{x:yo}{c:Call}{xd:TD}(ho:o.op=.call c)(hc:c.callee=.builtin .len)(ha:c.args.toList=[x])(ht:c.argTypes.toList=[t])(hx:arT P ts t x=some xd)(h:ZEI P t all H K xd=some out):
 ∃a d H' hs c,K a d H' hs c=some out∧Good P o ts all H a d H' hs c:=by
 have hv:=Zw (L:=lk H) hx;unfold ZEI at h;split at h
 ·rename_i id;split at h
  ·rename_i e T v st e' l hu hd;refine⟨_,_,_,_,_,h,rfl,rfl,.inl ⟨rfl,rfl,[],trivial,λrest=> ?_⟩⟩;simp only[yx];unfold evN;rw[ho];dsimp only;rw[hc];dsimp only;rw[ha,ht];dsimp only;rw[hu,hv,(ZbW hd).1];rfl
  ·cases h
 ·cases h
def Zz2(P:yg)(t:yb)(all:List TD)(H:List TEnt)(K:Kn O):TD→Option O
 |.rp id path=>match H[id]? with
  |some (.rowT T v st e l)=>gpT (lk H) path (.p (.v (.arr l.length T) l)) λsub hs _=>if okT P t (sub.er (lk H))=true then K all sub H hs 1 else none
  |_=>none
 |_=>none
theorem Zyd{t:yb}{x:yo}{xd:TD}(ho:o.op=.load t x)(hx:arT P ts 0 x=some xd)(h:Zz2 P t all H K xd=some out):∃a d H' hs c,K a d H' hs c=some out∧Good P o ts all H a d H' hs c:=by
 have hv:=Zw (L:=lk H) hx;unfold Zz2 at h;split at h
 ·rename_i id path;split at h
  ·rename_i T v st e l hd;obtain⟨sub,hs,put,C,k1,k2,k3,_⟩:=Wh _ _ _ _ h;obtain⟨k4,k5⟩:=Za k1;refine⟨_,_,_,_,_,k5,rfl,rfl,.inr (.inl ⟨rfl,rfl,λrest=> ?_,C++[ZeB path=W8 path],Zj.2 ⟨k2,(WE _).symm,ytt⟩,λrest=> ?_⟩)⟩
   ·unfold evN;rw[ho];dsimp only;rw[hv];rfl
   ·unfold evR;rw[ho];dsimp only;rw[hv,(ZbW hd).2];dsimp only;rw[Yo hd];dsimp only[TEnt.er];have k6:Yy (.p (.arr l.length T.size (l.map T.enc))) (path.map Stp.i) (hs++rest)=some (C,ZeB path,sub.er (lk H),rest):=k3 rest;rw[k6];dsimp only;rw[if_pos (by rw[yj];exact⟨k4,by simp⟩)]
  ·cases h
 ·cases h
def Zwk(P:yg)(t:yb)(all:List TD)(H:List TEnt)(K:Kn O)(v:TD):TD→Option O
 |.rp id (.ix i s::r)=>match H[id]? with
  |some (.rowT T u true e l)=>if s=T.size then(l[i]?).bind λy=>gpT (lk H) r (.p (.v T y)) λsub hs put=>(put (v.meltP (lk H))).bind λd1=>d1.inner.bind λz=>(TP.to Zj1 z T).bind λy'=>
   if Zli P t ((v.meltP (lk H)).er (lk H)) (sub.er (lk H))=true then K all .junk (H.set id (.rowT T u true e (l.set i y'))) (.el (T.enc y)::hs) 2 else none else none
  |_=>none
 |_=>none
theorem Zwl{t:yb}{x y:yo}{xd yd:TD}(ho:o.op=.store t x y)(hx:arT P ts 0 x=some xd)(hy:arT P ts t y=some yd)(h:Zwk P t all H K yd xd=some out):
 ∃a d H' hs c,K a d H' hs c=some out∧Good P o ts all H a d H' hs c:=by
 have hv:=Zw (L:=lk H) hx;have hw:=Zw (L:=lk H) hy;unfold Zwk at h;split at h
 ·rename_i id i s r;split at h
  ·rename_i T u e l hd;split at h
   ·rename_i hs0;obtain⟨y0,h2,h⟩:=yf.1 h;obtain⟨sub,hs,put,C,k1,k2,k3,k4⟩:=Wh r (.p (.v T y0)) _ out h;obtain⟨d1,p1,k1⟩:=yf.1 k1;obtain⟨z,p2,k1⟩:=yf.1 k1;obtain⟨y',p3,k1⟩:=yf.1 k1;obtain⟨h4,k1⟩:=Za k1;have h4':=h4;unfold Zli at h4';have hL:lk (H.set id (.rowT T u true e (l.set i y')))=lk H:=ZBk hd (by rw[ybj])
    have hg:∀rest,Yy (.p (.arr l.length T.size (l.map T.enc))) (i::r.map Stp.i) (.el (T.enc y0)::(hs++rest))=some (((l.map T.enc)[i]? =some (T.enc y0))::C,i*T.size+ZeB r,sub.er (lk H),rest):=by
     intro rest;unfold Yy;dsimp only;have:=k3 rest;rw[TD.er,TP.pe] at this;rw[this,yab]
    have hp:∀rest,Vl ((yd.meltP (lk H)).er (lk H)) (.p (.arr l.length T.size (l.map T.enc))) (i::r.map Stp.i) (.el (T.enc y0)::(hs++rest))=some (.p (.arr l.length T.size ((l.set i y').map T.enc))):=by
     intro rest;have:=k4 _ d1 p1 rest;rw[TD.er,TP.pe] at this;unfold Vl;dsimp only;rw[this,Xi p2,TD.er];dsimp only;rw[Zgv z T y' p3, ←ybo]
    refine⟨_,_,_,_,_,k1,by rw[hL],rfl,or3 (⟨rfl,λrest=> ?_,λrest=> ?_,(((l.map T.enc)[i]? =some (T.enc y0))::C)++[i*T.size+ZeB r=W8 (.ix i s::r)],
     Zj.2 ⟨⟨Znw h2,k2⟩,by rw[WE,ZeB,Stp.o,hs0],ytt⟩,λrest=> ?_⟩)⟩
    ·unfold evN;rw[ho]
    ·unfold evR;rw[ho]
    ·unfold evE;rw[ho];dsimp only;rw[hv,hw,(ZbW hd).2];dsimp only;rw[Yo hd];dsimp only[TEnt.er];rw[yaf,show(Stp.ix i s).i=i from rfl,yaa,hg rest]
     dsimp only;have hst:Zfb (i::r.map Stp.i) (.p (.arr l.length T.size (l.map T.enc))) (yd.er (lk H))=some ((yd.meltP (lk H)).er (lk H)):=ZoX (path:=.ix i s::r) (d:=.p (.v (.arr l.length T) l)) (v:=yd) (new:=yd.meltP (lk H)) (L:=lk H) rfl;rw[hst];dsimp only;rw[hp rest];dsimp only;rw[if_pos (by simp only[yj] at h4' ⊢;exact⟨⟨h4',by simp⟩,by simp[rowN]⟩),Ws hL];simp only[TEnt.er,ybj];rfl
   ·cases h
  ·cases h
 ·cases h
def Zwm(dst:Tmp)(all:List TD)(H:List TEnt)(K:Kn O):TD→Option O
 |.rw id=>match H[id]? with
  |some (.rowT T v st e l)=>K all (.p (.sl none T l)) (H.set id (.rowT T v false e l)) [.still dst] 2
  |_=>none
 |_=>none
theorem Zwn{x:yo}{dst:Tmp}{xd:TD}(ho:o.op=.assign x∨o.op=.move x)(hd:o.dst=some dst)(hx:arT P ts o.type x=some xd)(h:Zwm dst all H K xd=some out):
 ∃a d H' hs c,K a d H' hs c=some out∧Good P o ts all H a d H' hs c:=by
 have hv:=Zw (L:=lk H) hx;unfold Zwm at h;split at h
 ·rename_i id;split at h
  ·rename_i T v st e l hr;have hL:lk (H.set id (.rowT T v false e l))=lk H:=ZBk hr rfl
   have k5:∀rest,Zfc ((TD.rw id).er (lk H)) (erH H) rest=some ([0+l.length≤l.length],.p (.sl none T.size (l.map T.enc)),erH (H.set id (.rowT T v false e l)),rest):=by
    intro rest;unfold Zfc;rw[(ZbW hr).1];dsimp only;rw[Yo hr,TEnt.er];dsimp only;rw[if_pos (by simp),Ws hL,TEnt.er,List.drop_zero, ←yz (f:=T.enc),ybl]
   refine⟨_,_,_,_,_,h,by rw[hL],rfl,or3 (⟨rfl,λrest=> ?_,λrest=> ?_,[0+l.length≤l.length],⟨by omega,ytt⟩,λrest=> ?_⟩)⟩
   ·rcases ho with ho|ho <;> (unfold evN;rw[ho];rfl)
   ·rcases ho with ho|ho <;> (unfold evR;rw[ho])
   ·rcases ho with ho|ho
    ·unfold evE;rw[ho];dsimp only;rw[yaa];dsimp only;rw[if_pos hd,hv];exact k5 rest
    ·unfold evE;rw[ho];dsimp only;rw[yaa];dsimp only;rw[if_pos hd,hv];exact k5 rest
  ·cases h
 ·cases h
theorem Zye{L M:Lk}{n:Nat}(h:∀id t,id≠n→Ya L id t none=Ya M id t none)(x:TEnt)(hf:x.free n=true):x.er L=x.er M:=by
 cases x with
 |var d st=>rw[TEnt.er,TEnt.er,Zez h d hf]
 |row v s st e d=>rw[TEnt.er,TEnt.er,Zez h d hf]
 |rowM t np v st e pre d post=>rw[TEnt.er,TEnt.er,Zez h d hf]
 |_=>rfl
theorem ZnH{T:Ty}{v:List Unit}{st:Bool}{e:yb}{l:List T.den}(h:H.all (TEnt.free H.length)=true):erH (H++[.rowT T v st e l])=erH H++[.row v.length T.size st e (.p (.arr l.length T.size (l.map T.enc)))]:=by
 unfold erH;rw[yax];congr 1;refine ycj λx hx=> ?_;have hf:=ybd.1 h x hx;exact(Zye (λid t hn=>Zc9 id t hn) x hf).symm
theorem Zq9{T:Ty}{v:List Unit}{st:Bool}{e:yb}{l:List T.den}:(TD.rw H.length).er (lk (H++[.rowT T v st e l]))=.rv H.length v.length T.size 0 l.length:=
 (ZbW (H:=H++[.rowT T v st e l]) (List.getElem?_concat_length ..)).1
def Zsa(P:yg)(row:Bool)(t u:yb)(all:List TD)(H:List TEnt)(K:Kn O)(y:TD):TD→Option O
 |.rw id=>match P.underlying t,H[id]? with
  |some (.slice e),some (.rowT T v st e' l)=>(P.info? e).bind λi=>Zx9 P T u H (λys hs=>
   if(zOk i&&decide (i.size=T.size)&&decide (P.cellsOf e=T.size)&&decide (e'=e)&&decide (T.size≠0))=true then if apB l.length ys.length i.bytes=true then
    K (TD.stales (lk H) id all) (.rw id) ((H.map (TEnt.stale (lk H) id)).set id (.rowT T (()::v) st e (l++ys))) (.raw::hs) 2 else none else none) y
  |_,_=>none
 |.p (.sl (some false) _ [])=>match P.underlying t with
  |some (.slice e)=>(P.info? e).bind λi=>(Zj2 P tyD e).bind λT=>(Zx1 (lk H) P T u y).bind λys=>
   if(zOk i&&i.size !=0&&decide (i.size=T.size)&&decide (P.cellsOf e=T.size)&&TD.frees H.length all&&H.all (TEnt.free H.length))=true then if ZzC ys.length i.bytes=true then
    K all (.rw H.length) (H++[.rowT T [] true e ys]) [.arr] 2 else none else none
  |_=>none
 |_=>none
theorem ZtM{row:Bool}{t u:yb}{x y:yo}{c:Call}{xd yd:TD}(ho:o.op=.call c)(hc:c.callee=.builtin .append)(ha:c.args.toList=[x,y])(ht:c.argTypes.toList=[t,u])
 (hv:Zy P (TD.ers (lk H) ts) t x=xd.er (lk H)) (hy:arT P ts u y=some yd) (h:Zsa P row t u all H K yd xd=some out):∃a d H' hs c,K a d H' hs c=some out∧Good P o ts all H a d H' hs c:=by
 have hw:=Zw (L:=lk H) hy;unfold Zsa at h;split at h
 ·rename_i id;split at h
  ·rename_i e T v st e' l hu hd;obtain⟨i,h1,h⟩:=yf.1 h;obtain⟨ys,hs,C,k1,k2,k3⟩:=ZmO h;obtain⟨k4,k6⟩:=Za k1;obtain⟨k5,kk⟩:=Za k6;clear k1 k6;simp only[yj,decide_eq_true_eq] at k4;obtain⟨⟨⟨⟨g1,g2⟩,g3⟩,g4⟩,g5⟩:=k4;subst g4;simp only[apB,yj,decide_eq_true_eq] at k5;have hlt:id < H.length:=(yr.1 hd).1
   refine⟨_,_,_,_,_,kk,ers_stale (λid' t hn=>ZaT (lk H) id' t hn) all,Zfn all,or3 (⟨rfl,λrest=> ?_,λrest=> ?_,
    C++[l.length≤l.length,(l.length+(ys.map T.enc).length)*i.bytes≤Zn,l.length+(ys.map T.enc).length≤maxLen,st=true∨l.length=l.length],Zj.2 ⟨k2,yn _,by simpa using k5.1,by simpa using k5.2,.inr rfl,ytt⟩,λrest=> ?_⟩)⟩
   ·unfold evN;rw[ho];dsimp only;rw[hc];dsimp only;rw[ha,ht,yaa]
   ·unfold evR;rw[ho];dsimp only;rw[hc]
   ·unfold evE;rw[ho];dsimp only;rw[hc];dsimp only;rw[ha,ht];dsimp only;rw[hu,hv,hw,(ZbW hd).1];rw[yaa];dsimp only;rw[h1,k3 rest,Yo hd];dsimp only[TEnt.er]
    have hnew:((H.map (TEnt.stale (lk H) id)).set id (.rowT T (()::v) st e' (l++ys)))[id]? =some (.rowT T (()::v) st e' (l++ys)):=by
     rw[ycr (by rw[yz];exact hlt)]
    have hH:erH ((H.map (TEnt.stale (lk H) id)).set id (.rowT T (()::v) st e' (l++ys)))=(erH H).set id (.row (v.length+1) T.size st e' (.p (.arr (l.length+ys.length) T.size (l.map T.enc++ys.map T.enc)))):=by
     unfold erH;rw[ybo,ybc]
     have:(TEnt.rowT T (()::v) st e' (l++ys)).er (lk ((H.map (TEnt.stale (lk H) id)).set id (.rowT T (()::v) st e' (l++ys))))=.row (v.length+1) T.size st e' (.p (.arr (l.length+ys.length) T.size (l.map T.enc++ys.map T.enc))):=by
      simp only[TEnt.er,yag,yp,yax]
     rw[this];congr 1;refine ycj λx hx=> ?_;exact Zlg (λid t hn=>ZaT (lk H) id t hn) x
    rw[if_pos (by simp[g1,g2,g5]),hH,(ZbW hnew).1];simp only[yz,yag,yp];rw[show(l.map T.enc).take l.length=l.map T.enc by rw[←yz (f:=T.enc),ybl]]
  ·cases h
 ·rename_i T0;split at h
  ·rename_i e hu;obtain⟨i,h1,h⟩:=yf.1 h;obtain⟨T,h2,h⟩:=yf.1 h;obtain⟨ys,h3,h⟩:=yf.1 h;obtain⟨k4,h⟩:=Za h;obtain⟨k5,h⟩:=Za h;simp only[yj,decide_eq_true_eq] at k4;obtain⟨⟨⟨⟨⟨g1,g2⟩,g3⟩,g4⟩,g5⟩,g6⟩:=k4;obtain⟨g7,g8⟩:=Zc7 k5;refine⟨_,_,_,_,_,h,Zhy g5,rfl,or3 (⟨rfl,λrest=> ?_,λrest=> ?_,[(ys.map T.enc).length*i.bytes≤Zn,(ys.map T.enc).length≤maxLen],⟨by rw[yz];exact g7,by rw[yz];exact g8,ytt⟩,λrest=> ?_⟩)⟩
   ·unfold evN;rw[ho];dsimp only;rw[hc];dsimp only;rw[ha,ht];rfl
   ·unfold evR;rw[ho];dsimp only;rw[hc]
   ·unfold evE;rw[ho];dsimp only;rw[hc];dsimp only;rw[ha,ht];dsimp only;rw[hu,hv,hw,show(TD.p (TP.sl (some false) T0 [])).er (lk H)=Dv.p (.sl (some false) T0.size []) from rfl]
    dsimp only;rw[h1,g4,Zlf h3,yaa,yx];dsimp only;rw[if_pos (by simp only[yj];exact⟨g1,g2⟩),ZnH g6,ZO,Zq9,g3];simp only[yz,ycq]
  ·cases h
 ·cases h
def ZEJ(P:yg)(ts:List TD)(t:yb)(len:Nat)(parts:List (Nat×yo))(all:List TD)(H:List TEnt)(K:Kn O):Option O:=
 ZzN (lk H) P ts t len parts λT l e=>if(decide (l.length=len)&&TD.frees H.length all&&H.all (TEnt.free H.length))=true then K all (.rw H.length) (H++[.rowT T [] true e l]) [.arr] 2 else none
theorem Zz3{t:yb}{len:Nat}{parts:Array (Nat×yo)}(ho:o.op=.buildSlice t len parts)(h:ZEJ P ts t len parts.toList all H K=some out):
 ∃a d H' hs c,K a d H' hs c=some out∧Good P o ts all H a d H' hs c:=by
 unfold ZEJ at h;obtain⟨e,T,l,i,xs,h1,hu,hi,hl,hz,hs,hx⟩:=Zhw h;obtain⟨h2,h1⟩:=Za h1;simp only[yj,decide_eq_true_eq] at h2;obtain⟨⟨h2,g5⟩,g6⟩:=h2;refine⟨_,_,_,_,_,h1,Zhy g5,rfl,or3 (⟨rfl,λrest=> ?_,λrest=> ?_,[],trivial,λrest=> ?_⟩)⟩
 ·unfold evN;rw[ho];rfl
 ·unfold evR;rw[ho]
 ·unfold evE;rw[ho];dsimp only;rw[yaa,yx];dsimp only;rw[hu];dsimp only;rw[hi,hl];dsimp only;rw[if_pos (by simpa using hz),hx,ZnH g6,Zq9,ZO,hs,h2];rfl
def Zz4(P:yg)(ts:List TD)(t:yb)(len:Nat)(parts:List (Nat×yo))(id:Nat)(all:List TD)(H:List TEnt)(K:Kn O):Option O:=
 ZzN (lk H) P ts t len parts λT l e=>match H[id]? with
  |some (.rowT T' v _ e' _)=>if(decide (l.length=len)&&decide (e'=e)&&decide (T'.size=T.size))=true then K (TD.stales (lk H) id all) (.rw id) ((H.map (TEnt.stale (lk H) id)).set id (.rowT T (()::v) true e l)) [.fresh id] 2 else none
  |_=>none
theorem Zyf{t:yb}{len id:Nat}{parts:Array (Nat×yo)}(ho:o.op=.buildSlice t len parts)(h:Zz4 P ts t len parts.toList id all H K=some out):
 ∃a d H' hs c,K a d H' hs c=some out∧Good P o ts all H a d H' hs c:=by
 unfold Zz4 at h;obtain⟨e,T,l,i,xs,h1,hu,hi,hl,hz,hs,hx⟩:=Zhw h;split at h1
 case h_2=>cases h1
 rename_i T0 v st e' l0 hd;obtain⟨h2,h1⟩:=Za h1;simp only[yj,decide_eq_true_eq] at h2;obtain⟨⟨h2,rfl⟩,h3⟩:=h2;have hlt:id < H.length:=(yr.1 hd).1
 have hnew:((H.map (TEnt.stale (lk H) id)).set id (.rowT T (()::v) true e' l))[id]? =some (.rowT T (()::v) true e' l):=by
  rw[ycr (by rw[yz];exact hlt)]
 have hH:erH ((H.map (TEnt.stale (lk H) id)).set id (.rowT T (()::v) true e' l))=(erH H).set id (.row (v.length+1) T.size true e' (.p (.arr l.length T.size (l.map T.enc)))):=by
  unfold erH;rw[ybo,ybc]
  have:(TEnt.rowT T (()::v) true e' l).er (lk ((H.map (TEnt.stale (lk H) id)).set id (.rowT T (()::v) true e' l)))=.row (v.length+1) T.size true e' (.p (.arr l.length T.size (l.map T.enc))):=by
   simp only[TEnt.er,yag]
  rw[this];congr 1;refine ycj λx hx=> ?_;exact Zlg (λid t hn=>ZaT (lk H) id t hn) x
 refine⟨_,_,_,_,_,h1,ers_stale (λid' t hn=>ZaT (lk H) id' t hn) all,Zfn all,or3 (⟨rfl,λrest=> ?_,λrest=> ?_,[],trivial,λrest=> ?_⟩)⟩
 ·unfold evN;rw[ho];rfl
 ·unfold evR;rw[ho]
 ·unfold evE;rw[ho];dsimp only;rw[yaa,yx];dsimp only;rw[hu,Yo hd];dsimp only[TEnt.er];rw[hi,hl];dsimp only;rw[if_pos (by rw[yj,yj,beq_iff_eq,beq_iff_eq];exact⟨⟨hz,rfl⟩,h3.trans hs.symm⟩),hx,hH,(ZbW hnew).1,hs, ←h2];simp only[yag]
def Zz5(P:yg)(t:yb)(n n':Int)(all:List TD)(H:List TEnt)(K:Kn O):Option O:=
 match P.underlying t with
 |some (.slice e)=>(P.info? e).bind λi=>(Zj2 P tyD e).bind λT=>
  if(zOk i&&i.size !=0&&decide (i.size=T.size)&&TD.frees H.length all&&H.all (TEnt.free H.length))=true then if(decide (n=0)&&ZpR n' i.bytes)=true then K all (.rw H.length) (H++[.rowT T [] true e []]) [.arr] 2 else none else none
 |_=>none
theorem Zyg{t:yb}{l c:yo}{n n':Num}(ho:o.op=.makeSlice t l c)(hl:(arT P ts 0 l).bind TD.num=some n)(hc:(arT P ts 0 c).bind TD.num=some n')(hk:n.k=.i64)(hk':n'.k=.i64)
 (h:Zz5 P t n.n n'.n all H K=some out):∃a d H' hs c,K a d H' hs c=some out∧Good P o ts all H a d H' hs c:=by
 obtain⟨ld,l1,l2⟩:=yf.1 hl;obtain⟨cd,c1,c2⟩:=yf.1 hc;have hv:=Zw (L:=lk H) l1;have hw:=Zw (L:=lk H) c1;rw[Zey l2,hk] at hv;rw[Zey c2,hk'] at hw;unfold Zz5 at h;have nN:∀hs,evN P o (TD.ers (lk H) ts) hs=none:=λhs=>by unfold evN;rw[ho]
 have nR:∀hs,evR P o (TD.ers (lk H) ts) (erH H) hs=none:=λhs=>by unfold evR;rw[ho]
 split at h
 ·rename_i e hu;obtain⟨i,h1,h⟩:=yf.1 h;obtain⟨T,h2,h⟩:=yf.1 h;obtain⟨h3,h⟩:=Za h;obtain⟨h4,h⟩:=Za h;simp only[yj,decide_eq_true_eq] at h3;obtain⟨⟨⟨g0,h3⟩,g5⟩,g6⟩:=h3;simp only[ZpR,yj,decide_eq_true_eq] at h4;obtain⟨g1,g2⟩:=Zc7 h4.2.2;refine⟨_,_,_,_,_,h,Zhy g5,rfl,or3 (⟨rfl,λrest=>nN _,λrest=>nR _,[n.n=0,0≤n'.n,n'.n.toNat*i.bytes≤Zn,n'.n.toNat≤maxLen],⟨h4.1,h4.2.1,g1,g2,ytt⟩,λrest=> ?_⟩)⟩;unfold evE;rw[ho];dsimp only;rw[hu,hv,hw];dsimp only;rw[h1,yaa,yx];dsimp only;rw[if_pos (by simpa using g0),ZnH g6,Zq9,ZO,h3];rfl
 ·cases h
def Zwo(P:yg)(t:yb)(dst:Tmp)(all:List TD)(H:List TEnt)(K:Kn O):TD→Option O
 |.p (.sl (some false) T [])=>match P.underlying t with
  |some (.slice e)=>(P.info? e).bind λi=>if(zOk i&&i.size !=0&&decide (i.size=T.size)&&TD.frees H.length all&&H.all (TEnt.free H.length))=true then K all (.rw H.length) (H++[.rowT T [] true e []]) [.freshR dst] 2 else none
  |_=>none
 |_=>none
theorem Zwp{x:yo}{dst:Tmp}{xd:TD}(ho:o.op=.assign x)(hd:o.dst=some dst)(hx:arT P ts o.type x=some xd)(h:Zwo P o.type dst all H K xd=some out):
 ∃a d H' hs c,K a d H' hs c=some out∧Good P o ts all H a d H' hs c:=by
 have hv:=Zw (L:=lk H) hx;unfold Zwo at h;split at h
 ·rename_i T;split at h
  ·rename_i e hu;obtain⟨i,h1,h⟩:=yf.1 h;obtain⟨h2,h⟩:=Za h;simp only[yj,decide_eq_true_eq] at h2;obtain⟨⟨⟨g0,g3⟩,g5⟩,g6⟩:=h2;refine⟨_,_,_,_,_,h,Zhy g5,rfl,or3 (⟨rfl,λrest=> ?_,λrest=> ?_,[],trivial,λrest=> ?_⟩)⟩
   ·unfold evN;rw[ho];rfl
   ·unfold evR;rw[ho]
   ·unfold evE;rw[ho];dsimp only;rw[yaa,yx];dsimp only;rw[if_pos hd,hu,hv,show(TD.p (TP.sl (some false) T [])).er (lk H)=Dv.p (.sl (some false) T.size []) from rfl]
    dsimp only;rw[h1];dsimp only;rw[if_pos (by simpa using g0),ZnH g6,Zq9,ZO,g3];rfl
  ·cases h
 ·cases h
def Zsb(P:yg)(t:yb)(lo hi:Option Int)(all:List TD)(H:List TEnt)(K:Kn O):TD→Option O
 |.rw id=>match P.underlying t,H[id]?,lo,hi with
  |some (.slice e),some (.rowT T v true e' l),none,some h=>if(okB P e T.size&&decide (T.size≠0))=true then if(decide (0≤h)&&decide (h.toNat≤l.length))=true then
    K (TD.stales (lk H) id all) (.rw id) ((H.map (TEnt.stale (lk H) id)).set id (.rowT T v true e' (l.take h.toNat))) [.arr] 2 else none else none
  |_,_,_,_=>none
 |_=>none
theorem ZtN{t:yb}{x:yo}{lo hi:Option yo}{l h':Option Int}{xd:TD}(ho:o.op=.slice t x lo hi none)(hx:arT P ts t x=some xd)(hl:Zge P ts lo=some l)(hh:Zge P ts hi=some h')(h:Zsb P t l h' all H K xd=some out):
 ∃a d H' hs c,K a d H' hs c=some out∧Good P o ts all H a d H' hs c:=by
 have hv:=Zw (L:=lk H) hx;have hl2:=Zbd (L:=lk H) hl;have hh2:=Zbd (L:=lk H) hh;unfold Zsb at h;split at h
 ·rename_i id;split at h
  ·rename_i e T v e' xs h2 hu hd;obtain⟨h3,h⟩:=Za h;obtain⟨h4,h⟩:=Za h;simp only[yj,decide_eq_true_eq] at h3 h4;obtain⟨h3a,h3b⟩:=ZGM h3.1;have hlt:id < H.length:=(yr.1 hd).1
   have hnew:((H.map (TEnt.stale (lk H) id)).set id (.rowT T v true e' (xs.take h2.toNat)))[id]? =some (.rowT T v true e' (xs.take h2.toNat)):=by
    rw[ycr (by rw[yz];exact hlt)]
   have hlen:(xs.take h2.toNat).length=h2.toNat:=by rw[List.length_take];omega
   have hH:erH ((H.map (TEnt.stale (lk H) id)).set id (.rowT T v true e' (xs.take h2.toNat)))=(erH H).set id (.row v.length T.size true e' (.p (.arr h2.toNat T.size ((xs.map T.enc).take h2.toNat)))):=by
    unfold erH;rw[ybo,ybc]
    have:(TEnt.rowT T v true e' (xs.take h2.toNat)).er (lk ((H.map (TEnt.stale (lk H) id)).set id (.rowT T v true e' (xs.take h2.toNat))))=.row v.length T.size true e' (.p (.arr h2.toNat T.size ((xs.map T.enc).take h2.toNat))):=by
     simp only[TEnt.er,hlen,ycb]
    rw[this];congr 1;refine ycj λx hx=> ?_;exact Zlg (λid t hn=>ZaT (lk H) id t hn) x
   refine⟨_,_,_,_,_,h,ers_stale (λid' t hn=>ZaT (lk H) id' t hn) all,Zfn all,or3 (⟨rfl,λrest=> ?_,λrest=> ?_,[0≤h2,h2.toNat≤xs.length],⟨h4.1,h4.2,ytt⟩,λrest=> ?_⟩)⟩
   ·unfold evN;rw[ho];dsimp only;rw[hu,hv,(ZbW hd).1,hl2,hh2];rfl
   ·unfold evR;rw[ho];dsimp only;rw[hu,hv,(ZbW hd).1,hl2,hh2];rfl
   ·unfold evE;rw[ho];dsimp only;rw[hu,hv,(ZbW hd).1,hl2,hh2];dsimp only;rw[yaa,yx];dsimp only;rw[Yo hd,TEnt.er];dsimp only;rw[if_pos (by simp[h3a,h3b,h3.2]),hH,(ZbW hnew).1,hlen]
  ·cases h
 ·cases h
def TEnt.rowQ:TEnt→Option (Nat×Nat×Nat)
 |.rowN t _ v _ _ pre post=>some (v.length,t.size,pre.length+post.length)
 |.rowM t _ v _ _ pre _ post=>some (v.length,t.size,pre.length+(post.length+1))
 |_=>none
theorem Zwq{L:Lk}{id:Nat}{v:List Unit}{s N:Nat}(h:Ya L id (.sl (.st [])) none=([v,yy s (),yy N ()]:List (List Unit))):
 (TD.rw id).er L=.rv id v.length s 0 N∧∀path,(TD.rp id path).er L=.rref id v.length (W8 path) (path.map Stp.i):=by
 refine⟨?_,λpath=> ?_⟩
 ·rw[TD.er];unfold ZbU;rw[h];show Dv.rv id v.length (yy s ()).length 0 (yy N ()).length=_;rw[ycp,ycp]
 ·rw[TD.er];unfold ZbU;rw[h];rfl
theorem ZG2{id:Nat}{x:TEnt}{q:Nat×Nat×Nat}(hd:H[id]? =some x)(h:x.rowQ=some q):(TD.rw id).er (lk H)=.rv id q.1 q.2.1 0 q.2.2∧∀path,(TD.rp id path).er (lk H)=.rref id q.1 (W8 path) (path.map Stp.i):=by
 cases x <;> first|cases h|skip
 all_goals
  refine Zwq ?_;unfold Ya lk;dsimp only;rw[hd];rfl
end
end Go.Ev
end
section
namespace Go.Ev
abbrev TV:=Σ t:Ty,t.den
inductive Sh where
 |v (t:Ty)
 |elem (t:Ty)
 |nil (t:Ty)
 |sl (nn:Bool) (t:Ty)
 |own (j:Nat) (t:Ty)
 |ref (j:Nat) (path:List Stp)
 |mp (j:Nat)
 |rw(j:Nat)
 |rp (j s:Nat) (path:List Stp)
 |view (j:Nat) (path:List Stp) (s lo n:Nat)
 |fn (g:yv) (l:List Sh)
 |agg (l:List Sh)
 |arr (n s:Nat) (l:List Sh)
 |tup (l:List Sh)
 |iface (t:yb) (x:Sh)
 |ptr0|fn0|if0|map0
 |junk
instance:Inhabited Sh:=⟨.junk⟩
def Stp.beq:Stp→Stp→Bool
 |.fld i o,.fld j p=>decide (i=j)&&decide (o=p)
 |.ix i o,.ix j p=>decide (i=j)&&decide (o=p)
 |_,_=>false
def Zlj:List Stp→List Stp→Bool
 |[],[]=>true
 |q::r,p::s=>q.beq p&&Zlj r s
 |_,_=>false
theorem Zfo:∀{l m:List Stp},Zlj l m=true→l=m
 |[],[],_=>rfl
 |[],_::_,h=>by cases h
 |_::_,[],h=>by cases h
 |q::r,p::s,h=>by
  simp only[Zlj,yj] at h;rw[Zfo h.2];congr 1;cases q <;> cases p <;> simp[Stp.beq] at h <;> simp[h.1]
def TD.toT(L:Lk)(t:Ty):TD→Option t.den
 |.p x=>TP.to Zj1 x t
 |.own id _ u c=>match t with
  |.sl w=>Ty.castL u w (Ya L id u c)
  |_=>none
 |_=>none
theorem ZIP{L:Lk}{t:Ty}{d:TD}{y:t.den}(h:d.toT L t=some y):Wk (d.er L) (.p (t.enc y)):=by
 cases d with
 |p x=>exact Wk.p (ZxS (show TP.to Zj1 x t=some y from h))
 |own id nn u c=>
  cases t with
  |sl w=>
   obtain⟨e,h2⟩:=ZE (show Ty.castL u w (Ya L id u c)=some y from h)
   subst e;subst h2
   exact Wk.own_sl (PlsWk.refl _)
  |_=>cases h
 |_=>cases h
def ZJ4(t:Ty):TD→Option t.den
 |.elem x=>TP.to Zj1 x t
 |_=>none
theorem Wk.elem{x y:Pl}(h:PlWk x y):Wk (.elem x) (.elem y):=⟨rfl,rfl,λσ vs r=>by
 simp only[repD] at r ⊢;obtain⟨b,o,us,e,r1,r2⟩:=r;exact⟨b,o,us,e,h.rep _ _ _ r1,r2⟩⟩
theorem WkL.fn{f:yv}{ds es:List Dv}(h:WkL ds es):Wk (.fn f ds) (.fn f es):=⟨rfl,rfl,λσ vs r=>by
 simp only[repD] at r ⊢;obtain⟨fs,cs,e,e0,r⟩:=r;exact⟨fs,cs,e,e0,h.vs r⟩⟩
theorem WkL.sizes{ds es:List Dv}(h:WkL ds es)(s:Nat):(∀x,x∈ds→x.size=s)→∀x,x∈es→x.size=s:=by
 induction h with
 |nil=>intro _ x hx;cases hx
 |cons h k ih=>
  intro hh x hx;rcases List.mem_cons.1 hx with rfl|hx
  ·rw[←h.size];exact hh _ (yav ..)
  ·exact ih (λy hy=>hh y (yaw _ hy)) x hx
theorem WkL.arr{n s:Nat}{ds es:List Dv}(h:WkL ds es):Wk (.arr n s ds) (.arr n s es):=⟨rfl,rfl,λσ vs r=>by
 simp only[repD] at r ⊢;obtain⟨r1,r2,r3⟩:=r;have:=(WkL.agg h).rep σ vs (by simp only[repD];exact r3);simp only[repD] at this;exact⟨by rw[←h.len];exact r1,h.sizes s r2,this⟩⟩
theorem Wk.iface{t:yb}{x y:Dv}(h:Wk x y):Wk (.iface t x) (.iface t y):=⟨rfl,rfl,λσ vs r=>by
 simp only[repD] at r ⊢;obtain⟨v,e,r1,r2⟩:=r;refine⟨v,e,λha=> ?_,λha=>h.rep _ _ (r2 (by rw[h.agg];exact ha))⟩;obtain⟨cs,e1,e2⟩:=r1 (by rw[h.agg];exact ha);exact⟨cs,e1,h.rep _ _ e2⟩⟩
mutual
def Sh.mt(L:Lk):Sh→TD→Option (TD×List TV)
 |.v t,d=>(d.toT L t).map λy=>(.p (.v t y),[⟨t,y⟩])
 |.elem t,d=>(ZJ4 t d).map λy=>(.elem (.v t y),[⟨t,y⟩])
 |.nil t,d=>match d with
  |.p x=>if x.nilT t=true then some (.p (.sl (some false) t []),[]) else none
  |_=>none
 |.sl nn t,d=>match d with
  |.p (.sl (some b) u xs)=>if b=nn then(Ty.castL u t xs).map λy=>(.p (.sl (some nn) t y),[⟨.sl t,y⟩]) else none
  |_=>none
 |.own j t,d=>match d with
  |.own id _ u none=>if id=j∧u=t then some (.own j none t none,[]) else none
  |_=>none
 |.ref j p,d=>match d with
  |.ref id q=>if id=j∧Zlj p q=true then some (.ref j p,[]) else none
  |_=>none
 |.mp j,d=>match d with
  |.mp id=>if id=j then some (.mp j,[]) else none
  |_=>none
 |.rw j,d=>match d with
  |.rw id=>if id=j then some (.rw j,[]) else none
  |_=>none
 |.rp j s p,d=>match d with
  |.rp id (.ix i s'::q)=>if id=j∧s'=s∧Zlj p q=true then some (.rp j (.ix i s::p),[⟨.int .i64,(i:Int)⟩]) else none
  |_=>none
 |.view j p s lo n,d=>match d with
  |.view id q s' lo' n'=>if id=j∧Zlj p q=true∧s=s'∧lo=lo'∧n=n' then some (.view j p s lo n,[]) else none
  |_=>none
 |.fn g l,d=>match d with
  |.fn f ds=>if f=g then(Sh.mts L l ds).map λq=>(.fn g q.1,q.2) else none
  |_=>none
 |.agg l,d=>match d with
  |.agg ds=>(Sh.mts L l ds).map λq=>(.agg q.1,q.2)
  |_=>none
 |.arr n s l,d=>match d with
  |.arr m s' ds=>if m=n∧s'=s then(Sh.mts L l ds).map λq=>(.arr n s q.1,q.2) else none
  |_=>none
 |.tup l,d=>match d with
  |.tup ds=>(Sh.mts L l ds).map λq=>(.tup q.1,q.2)
  |_=>none
 |.iface t x,d=>match d with
  |.iface u y=>if u=t then(Sh.mt L x y).map λq=>(.iface t q.1,q.2) else none
  |_=>none
 |.ptr0,d=>match d with
  |.p .ptr0=>some (.p .ptr0,[])
  |_=>none
 |.fn0,d=>match d with
  |.p .fn0=>some (.p .fn0,[])
  |_=>none
 |.if0,d=>match d with
  |.p .if0=>some (.p .if0,[])
  |_=>none
 |.map0,d=>match d with
  |.p .map0=>some (.p .map0,[])
  |_=>none
 |.junk,d=>if(d.er L).size=1∧(d.er L).isAgg=false then some (.junk,[]) else none
def Sh.mts(L:Lk):List Sh→List TD→Option (List TD×List TV)
 |[],ds=>match ds with
  |[]=>some ([],[])
  |_=>none
 |s::r,ds=>match ds with
  |d::q=>match Sh.mt L s d,Sh.mts L r q with
   |some a,some b=>some (a.1::b.1,a.2++b.2)
   |_,_=>none
  |[]=>none
end
mutual
def Sh.fill:Sh→List TV→Option (TD×List TV)
 |.v t,vs=>match vs with
  |x::r=>(Ty.cast x.1 t x.2).map λy=>(.p (.v t y),r)
  |[]=>none
 |.elem t,vs=>match vs with
  |x::r=>(Ty.cast x.1 t x.2).map λy=>(.elem (.v t y),r)
  |[]=>none
 |.nil t,vs=>some (.p (.sl (some false) t []),vs)
 |.sl nn t,vs=>match vs with
  |x::r=>(Ty.cast x.1 (.sl t) x.2).map λ(y:List t.den)=>(.p (.sl (some nn) t y),r)
  |[]=>none
 |.own j t,vs=>some (.own j none t none,vs)
 |.ref j p,vs=>some (.ref j p,vs)
 |.mp j,vs=>some (.mp j,vs)
 |.rw j,vs=>some (.rw j,vs)
 |.rp j s p,vs=>match vs with
  |x::r=>(Ty.cast x.1 (.int .i64) x.2).map λ(i:Int)=>(.rp j (.ix i.toNat s::p),r)
  |[]=>none
 |.view j p s lo n,vs=>some (.view j p s lo n,vs)
 |.fn g l,vs=>(Sh.fills l vs).map λq=>(.fn g q.1,q.2)
 |.agg l,vs=>(Sh.fills l vs).map λq=>(.agg q.1,q.2)
 |.arr n s l,vs=>(Sh.fills l vs).map λq=>(.arr n s q.1,q.2)
 |.tup l,vs=>(Sh.fills l vs).map λq=>(.tup q.1,q.2)
 |.iface t x,vs=>(Sh.fill x vs).map λq=>(.iface t q.1,q.2)
 |.ptr0,vs=>some (.p .ptr0,vs)
 |.fn0,vs=>some (.p .fn0,vs)
 |.if0,vs=>some (.p .if0,vs)
 |.map0,vs=>some (.p .map0,vs)
 |.junk,vs=>some (.junk,vs)
def Sh.fills:List Sh→List TV→Option (List TD×List TV)
 |[],vs=>some ([],vs)
 |s::r,vs=>(Sh.fill s vs).bind λa=>(Sh.fills r a.2).map λb=>(a.1::b.1,b.2)
end
theorem Y5(t:Ty)(x:t.den):Ty.cast t t x=some x:=by
 unfold Ty.cast;split
 ·rfl
 ·rename_i h _;exact absurd rfl h
mutual
theorem Zlk{L:Lk}:∀(s:Sh)(d:TD)(q:TD×List TV),s.mt L d=some q→∀rest,s.fill (q.2++rest)=some (q.1,rest)
 |.v t,d,q,h,rest=>by
  simp only[Sh.mt] at h;obtain⟨y,_,rfl⟩:=Zb h
  simp[Sh.fill,Y5]
 |.elem t,d,q,h,rest=>by
  simp only[Sh.mt] at h;obtain⟨y,_,rfl⟩:=Zb h
  simp[Sh.fill,Y5]
 |.nil t,d,q,h,rest=>by
  simp only[Sh.mt] at h;split at h
  ·split at h <;> cases h;rfl
  ·cases h
 |.sl nn t,d,q,h,rest=>by
  simp only[Sh.mt] at h;split at h
  ·split at h
   ·obtain⟨w,h1,rfl⟩:=Zb h;exact congrArg (Option.map λ(y:List t.den)=>(TD.p (.sl (some nn) t y),rest)) (Y5 (.sl t) w)
   ·cases h
  ·cases h
 |.own j t,d,q,h,rest=>by
  simp only[Sh.mt] at h;split at h
  ·split at h <;> cases h;rfl
  ·cases h
 |.ref j p,d,q,h,rest=>by
  simp only[Sh.mt] at h;split at h
  ·split at h <;> cases h;rfl
  ·cases h
 |.mp j,d,q,h,rest=>by
  simp only[Sh.mt] at h;split at h
  ·split at h <;> cases h;rfl
  ·cases h
 |.rw j,d,q,h,rest=>by
  simp only[Sh.mt] at h;split at h
  ·split at h <;> cases h;rfl
  ·cases h
 |.rp j s p,d,q,h,rest=>by
  simp only[Sh.mt] at h;split at h
  ·rename_i id i s' q';split at h
   ·cases h;exact congrArg (Option.map λ(i:Int)=>(TD.rp j (.ix i.toNat s::p),rest)) (Y5 (.int .i64) (i:Int))
   ·cases h
  ·cases h
 |.view j p s lo n,d,q,h,rest=>by
  simp only[Sh.mt] at h;split at h
  ·split at h <;> cases h;rfl
  ·cases h
 |.fn g l,d,q,h,rest=>by
  simp only[Sh.mt] at h;split at h
  ·split at h
   ·obtain⟨w,h1,rfl⟩:=Zb h;simp only[Sh.fill,mts_fills l _ w h1 rest,yab]
   ·cases h
  ·cases h
 |.agg l,d,q,h,rest=>by
  simp only[Sh.mt] at h;split at h
  ·obtain⟨w,h1,rfl⟩:=Zb h;simp only[Sh.fill,mts_fills l _ w h1 rest,yab]
  ·cases h
 |.arr n s l,d,q,h,rest=>by
  simp only[Sh.mt] at h;split at h
  ·split at h
   ·obtain⟨w,h1,rfl⟩:=Zb h;simp only[Sh.fill,mts_fills l _ w h1 rest,yab]
   ·cases h
  ·cases h
 |.tup l,d,q,h,rest=>by
  simp only[Sh.mt] at h;split at h
  ·obtain⟨w,h1,rfl⟩:=Zb h;simp only[Sh.fill,mts_fills l _ w h1 rest,yab]
  ·cases h
 |.iface t x,d,q,h,rest=>by
  simp only[Sh.mt] at h;split at h
  ·split at h
   ·obtain⟨w,h1,rfl⟩:=Zb h;simp only[Sh.fill,Zlk x _ w h1 rest,yab]
   ·cases h
  ·cases h
 |.ptr0,d,q,h,rest=>by
  simp only[Sh.mt] at h
  split at h <;> cases h;rfl
 |.fn0,d,q,h,rest=>by
  simp only[Sh.mt] at h
  split at h <;> cases h;rfl
 |.if0,d,q,h,rest=>by
  simp only[Sh.mt] at h
  split at h <;> cases h;rfl
 |.map0,d,q,h,rest=>by
  simp only[Sh.mt] at h
  split at h <;> cases h;rfl
 |.junk,d,q,h,rest=>by
  simp only[Sh.mt] at h;split at h <;> cases h;rfl
theorem mts_fills{L:Lk}:∀(l:List Sh)(ds:List TD)(q:List TD×List TV),Sh.mts L l ds=some q→∀rest,Sh.fills l (q.2++rest)=some (q.1,rest)
 |[],ds,q,h,rest=>by
  simp only[Sh.mts] at h
  split at h <;> cases h;rfl
 |s::r,ds,q,h,rest=>by
  simp only[Sh.mts] at h;split at h
  ·split at h
   ·rename_i a b h1 h2;cases h;simp only[Sh.fills,yaj,Zlk s _ a h1,ya,mts_fills r _ b h2,yab]
   ·cases h
  ·cases h
end
mutual
theorem Zsc{L M:Lk}(hL:∀id t,Ya L id t none=Ya M id t none):∀(s:Sh)(d:TD)(q:TD×List TV),s.mt L d=some q→Wk (d.er L) (q.1.er M)
 |.v t,d,q,h=>by
  simp only[Sh.mt] at h;obtain⟨y,h1,rfl⟩:=Zb h
  exact ZIP h1
 |.elem t,d,q,h=>by
  simp only[Sh.mt] at h;obtain⟨y,h1,rfl⟩:=Zb h;cases d <;> first|cases h1|skip
  exact Wk.elem (ZxS h1)
 |.nil t,d,q,h=>by
  simp only[Sh.mt] at h;split at h
  ·split at h
   ·rename_i hn;cases h;refine Wk.of_eq ?_;rw[TD.er,ZBi hn];rfl
   ·cases h
  ·cases h
 |.sl nn t,d,q,h=>by
  simp only[Sh.mt] at h;split at h
  ·split at h
   ·rename_i e;subst e;obtain⟨w,h1,rfl⟩:=Zb h;obtain⟨e,h2⟩:=ZE h1;subst e;subst h2;exact Wk.refl _
   ·cases h
  ·cases h
 |.own j t,d,q,h=>by
  simp only[Sh.mt] at h;split at h
  ·split at h
   ·rename_i e;obtain⟨rfl,rfl⟩:=e;cases h;rw[TD.er,TD.er,hL];exact Wk.own rfl
   ·cases h
  ·cases h
 |.ref j p,d,q,h=>by
  simp only[Sh.mt] at h;split at h
  ·split at h
   ·rename_i e;obtain⟨rfl,e⟩:=e;cases h;rw[Zfo e];exact Wk.refl _
   ·cases h
  ·cases h
 |.mp j,d,q,h=>by
  simp only[Sh.mt] at h;split at h
  ·split at h
   ·rename_i e;subst e;cases h;exact Wk.refl _
   ·cases h
  ·cases h
 |.rw j,d,q,h=>by
  simp only[Sh.mt] at h;split at h
  ·split at h
   ·rename_i e;subst e;cases h;refine Wk.of_eq ?_;rw[TD.er,TD.er];simp only[ZbU,hL]
   ·cases h
  ·cases h
 |.rp j s p,d,q,h=>by
  simp only[Sh.mt] at h;split at h
  ·split at h
   ·rename_i e;obtain⟨rfl,rfl,e⟩:=e;cases h;rw[Zfo e];refine Wk.of_eq ?_;rw[TD.er,TD.er];simp only[ZbU,hL]
   ·cases h
  ·cases h
 |.view j p s lo n,d,q,h=>by
  simp only[Sh.mt] at h;split at h
  ·split at h
   ·rename_i e;obtain⟨rfl,e,rfl,rfl,rfl⟩:=e;cases h;rw[Zfo e];exact Wk.refl _
   ·cases h
  ·cases h
 |.fn g l,d,q,h=>by
  simp only[Sh.mt] at h;split at h
  ·split at h
   ·rename_i e;subst e;obtain⟨w,h1,rfl⟩:=Zb h;exact WkL.fn (mts_wk hL l _ w h1)
   ·cases h
  ·cases h
 |.agg l,d,q,h=>by
  simp only[Sh.mt] at h;split at h
  ·obtain⟨w,h1,rfl⟩:=Zb h;exact WkL.agg (mts_wk hL l _ w h1)
  ·cases h
 |.arr n s l,d,q,h=>by
  simp only[Sh.mt] at h;split at h
  ·split at h
   ·rename_i e;obtain⟨rfl,rfl⟩:=e;obtain⟨w,h1,rfl⟩:=Zb h;exact WkL.arr (mts_wk hL l _ w h1)
   ·cases h
  ·cases h
 |.tup l,d,q,h=>by
  simp only[Sh.mt] at h;split at h
  ·obtain⟨w,h1,rfl⟩:=Zb h;exact WkL.tup (mts_wk hL l _ w h1)
  ·cases h
 |.iface t x,d,q,h=>by
  simp only[Sh.mt] at h;split at h
  ·split at h
   ·rename_i e;subst e;obtain⟨w,h1,rfl⟩:=Zb h;exact Wk.iface (Zsc hL x _ w h1)
   ·cases h
  ·cases h
 |.ptr0,d,q,h=>by
  simp only[Sh.mt] at h
  split at h <;> cases h;exact Wk.refl _
 |.fn0,d,q,h=>by
  simp only[Sh.mt] at h
  split at h <;> cases h;exact Wk.refl _
 |.if0,d,q,h=>by
  simp only[Sh.mt] at h
  split at h <;> cases h;exact Wk.refl _
 |.map0,d,q,h=>by
  simp only[Sh.mt] at h
  split at h <;> cases h;exact Wk.refl _
 |.junk,d,q,h=>by
  simp only[Sh.mt] at h;split at h
  ·rename_i e;cases h;exact Wk.junk e.2 e.1
  ·cases h
theorem mts_wk{L M:Lk}(hL:∀id t,Ya L id t none=Ya M id t none):∀(l:List Sh)(ds:List TD)(q:List TD×List TV),Sh.mts L l ds=some q→WkL (TD.ers L ds) (TD.ers M q.1)
 |[],ds,q,h=>by
  simp only[Sh.mts] at h
  split at h <;> cases h;exact .nil
 |s::r,ds,q,h=>by
  simp only[Sh.mts] at h;split at h
  ·split at h
   ·rename_i a b h1 h2;cases h;exact .cons (Zsc hL s _ a h1) (mts_wk hL r _ b h2)
   ·cases h
  ·cases h
end
inductive ESh where
 |var (s:Sh) (st:Bool)
 |log (t:Ty) (e:yb)
 |map (tid:yb) (k v:Ty)
 |row (t:Ty) (st:Bool) (e:yb)
 |rowN (t:Ty) (np:List Nat) (st:Bool) (e:yb)
 |rowM (t:Ty) (np:List Nat) (st:Bool) (e:yb) (s:Sh)
 |gone
def ZqD(k v:Ty):Ty:=.sl (.st [k,v])
def ZIQ(L:Lk)(t:Ty)(d:TD):Option t.den:=(d.flat L).bind λx=>TP.to Zj1 x t
theorem ZBl{L:Lk}{t:Ty}{d:TD}{y:t.den}(h:ZIQ L t d=some y):Wk (d.er L) (.p (t.enc y)):=by
 obtain⟨x,h1,h2⟩:=yf.1 h;have hf:(d.er L).flat=some x.pe:=by rw[Zq7,h1];rfl
 have hw:Wk (d.er L) (.p x.pe):=⟨(ZoJ _ _ hf).symm,(Zxk hf).symm,λσ vs r=>by simp only[repD];exact Zk7 _ _ _ hf r⟩;have hz:=ZxS h2;exact⟨hw.size.trans hz.size,hw.agg.trans hz.agg,λσ vs r=>(Wk.p hz).rep σ vs (hw.rep σ vs r)⟩
def ESh.mt(L:Lk):ESh→TEnt→Option (TEnt×List TV)
 |.var s st,.var d st'=>if st=st'∨st=false then(s.mt L d).map λq=>(.var q.1 st,q.2) else none
 |.log t e,.log u e' xs=>if e=e' then(Ty.castL u t xs).map λys=>(.log t e ys,[⟨.sl t,ys⟩]) else none
 |.map tid k v,.map tid' k' v' l=>if tid=tid' then(Ty.cast (ZqD k' v') (ZqD k v) l).map λ(m:List (k.den×v.den))=>(.map tid k v m,[⟨ZqD k v,m⟩]) else none
 |.row t st e,.rowT u v st' e' xs=>if(st=st'∨st=false)∧e=e' then(Ty.castL u t xs).map λys=>(.rowT t v st e ys,[⟨.sl (.st []),v⟩,⟨.sl t,ys⟩]) else none
 |.rowN t np st e,.rowN u np' v st' e' pre post=>if(st=st'∨st=false)∧e=e'∧np=np' then(Ty.castL u t pre).bind λys=>(Ty.castL u t post).map λzs=>
   (.rowN t np v st e ys zs,[⟨.sl (.st []),v⟩,⟨.sl t,ys⟩,⟨.sl t,zs⟩]) else none
 |.rowN t np st e,.rowM u np' v st' e' pre mid post=>if st=st'∧e=e'∧np=np' then(Ty.castL u t pre).bind λys=>(Ty.castL u t post).bind λzs=>(ZIQ L t mid).map λy=>
   (.rowN t np v st e (ys++[y]) zs,[⟨.sl (.st []),v⟩,⟨.sl t,ys++[y]⟩,⟨.sl t,zs⟩]) else none
 |.rowM t np st e s,.rowM u np' v st' e' pre mid post=>if st=st'∧e=e'∧np=np' then(Ty.castL u t pre).bind λys=>(Ty.castL u t post).bind λzs=>(s.mt L mid).map λq=>
   (.rowM t np v st e ys q.1 zs,[⟨.sl (.st []),v⟩,⟨.sl t,ys⟩,⟨.sl t,zs⟩]++q.2) else none
 |.gone,.gone=>some (.gone,[])
 |_,_=>none
def ESh.fill:ESh→List TV→Option (TEnt×List TV)
 |.var s st,vs=>(s.fill vs).map λq=>(.var q.1 st,q.2)
 |.log t e,vs=>match vs with
  |x::r=>(Ty.cast x.1 (.sl t) x.2).map λ(y:List t.den)=>(.log t e y,r)
  |[]=>none
 |.map tid k v,vs=>match vs with
  |x::r=>(Ty.cast x.1 (ZqD k v) x.2).map λ(y:List (k.den×v.den))=>(.map tid k v y,r)
  |[]=>none
 |.row t st e,vs=>match vs with
  |x::y::r=>(Ty.cast x.1 (.sl (.st [])) x.2).bind λ(v:List Unit)=>(Ty.cast y.1 (.sl t) y.2).map λ(l:List t.den)=>(.rowT t v st e l,r)
  |_=>none
 |.rowN t np st e,vs=>match vs with
  |x::y::z::r=>(Ty.cast x.1 (.sl (.st [])) x.2).bind λ(v:List Unit)=>(Ty.cast y.1 (.sl t) y.2).bind λ(l:List t.den)=>(Ty.cast z.1 (.sl t) z.2).bind λ(m:List t.den)=>some (.rowN t np v st e l m,r)
  |_=>none
 |.rowM t np st e s,vs=>match vs with
  |x::y::z::r=>(Ty.cast x.1 (.sl (.st [])) x.2).bind λ(v:List Unit)=>(Ty.cast y.1 (.sl t) y.2).bind λ(l:List t.den)=>(Ty.cast z.1 (.sl t) z.2).bind λ(m:List t.den)=>
   (s.fill r).map λq=>(.rowM t np v st e l q.1 m,q.2)
  |_=>none
 |.gone,vs=>some (.gone,vs)
def ESh.mts(L:Lk):List ESh→List TEnt→Option (List TEnt×List TV)
 |[],[]=>some ([],[])
 |s::r,d::q=>match ESh.mt L s d,ESh.mts L r q with
  |some a,some b=>some (a.1::b.1,a.2++b.2)
  |_,_=>none
 |_,_=>none
def ESh.fills:List ESh→List TV→Option (List TEnt×List TV)
 |[],vs=>some ([],vs)
 |s::r,vs=>(ESh.fill s vs).bind λa=>(ESh.fills r a.2).map λb=>(a.1::b.1,b.2)
theorem ZEK{O:Type}{t:Ty}(v:List Unit)(a b:List t.den)(k:List Unit→List t.den→List t.den→Option O):
 ((Ty.cast (.sl (.st [])) (.sl (.st [])) v).bind λ(v:List Unit)=>(Ty.cast (.sl t) (.sl t) a).bind λ(l:List t.den)=>(Ty.cast (.sl t) (.sl t) b).bind λ(m:List t.den)=>k v l m)=k v a b:=by
 have e1:=Y5 (.sl (.st [])) v;have e2:=Y5 (.sl t) a;have e3:=Y5 (.sl t) b;rw[e1,e2,e3];rfl
theorem ZEL{L:Lk}{s:ESh}{d:TEnt}{q:TEnt×List TV}(h:s.mt L d=some q)(rest:List TV):s.fill (q.2++rest)=some (q.1,rest):=by
 unfold ESh.mt at h;split at h
 ·split at h
  ·obtain⟨w,h1,rfl⟩:=Zb h;simp only[ESh.fill,Zlk _ _ w h1 rest,yab]
  ·cases h
 ·split at h
  ·obtain⟨w,h1,rfl⟩:=Zb h;rename_i t e _ _ _ _;exact congrArg (Option.map λ(y:List t.den)=>(TEnt.log t e y,rest)) (Y5 (.sl t) w)
  ·cases h
 ·split at h
  ·obtain⟨w,h1,rfl⟩:=Zb h;rename_i tid k v _ _ _ _ _;exact congrArg (Option.map λ(y:List (k.den×v.den))=>(TEnt.map tid k v y,rest)) (Y5 (ZqD k v) w)
  ·cases h
 ·split at h
  ·obtain⟨w,h1,rfl⟩:=Zb h;rename_i t st e _ v _ _ _ _;have e1:=Y5 (.sl (.st [])) v;have e2:=Y5 (.sl t) w;show((Ty.cast (.sl (.st [])) (.sl (.st [])) v).bind λ(v:List Unit)=>(Ty.cast (.sl t) (.sl t) w).map λ(l:List t.den)=>(TEnt.rowT t v st e l,rest))=_;rw[e1,e2];rfl
  ·cases h
 ·rename_i t np st e u np' v st' e' pre post;split at h
  ·obtain⟨a,h1,h⟩:=yf.1 h;obtain⟨b,h2,rfl⟩:=Zb h;exact ZEK v a b (λv l m=>some (TEnt.rowN t np v st e l m,rest))
  ·cases h
 ·rename_i t np st e u np' v st' e' pre mid post;split at h
  ·obtain⟨a,h1,h⟩:=yf.1 h;obtain⟨b,h2,h⟩:=yf.1 h;obtain⟨c,h3,rfl⟩:=Zb h;exact ZEK v (a++[c]) b (λv l m=>some (TEnt.rowN t np v st e l m,rest))
  ·cases h
 ·rename_i t np st e s u np' v st' e' pre mid post;split at h
  ·obtain⟨a,h1,h⟩:=yf.1 h;obtain⟨b,h2,h⟩:=yf.1 h;obtain⟨c,h3,rfl⟩:=Zb h;have:=ZEK v a b (λv l m=>(s.fill (c.2++rest)).map λq=>(TEnt.rowM t np v st e l q.1 m,q.2));refine this.trans ?_;rw[Zlk _ _ c h3 rest];rfl
  ·cases h
 ·cases h;rfl
 ·cases h
theorem ZaD{L:Lk}:∀{l:List ESh}{H:List TEnt}{q:List TEnt×List TV},ESh.mts L l H=some q→∀rest,ESh.fills l (q.2++rest)=some (q.1,rest)
 |[],[],q,h,rest=>by cases h;rfl
 |[],_::_,q,h,rest=>by cases h
 |_::_,[],q,h,rest=>by cases h
 |s::r,d::H,q,h,rest=>by
  simp only[ESh.mts] at h;split at h
  ·rename_i a b h1 h2;cases h;simp only[ESh.fills,yaj,ZEL h1,ya,ZaD h2,yab]
  ·cases h
theorem ZIR{L:Lk}{s:ESh}{d:TEnt}{q:TEnt×List TV}(h:s.mt L d=some q):lkE (some q.1)=lkE (some d):=by
 unfold ESh.mt at h;split at h
 ·split at h
  ·obtain⟨w,h1,rfl⟩:=Zb h;rfl
  ·cases h
 ·split at h
  ·obtain⟨w,h1,rfl⟩:=Zb h;obtain⟨e,h2⟩:=ZE h1;subst e;subst h2;rfl
  ·cases h
 ·split at h
  ·obtain⟨w,h1,rfl⟩:=Zb h;rfl
  ·cases h
 ·split at h
  ·obtain⟨w,h1,rfl⟩:=Zb h;obtain⟨e,h2⟩:=ZE h1;subst e;subst h2;rfl
  ·cases h
 ·split at h
  ·obtain⟨a,h1,h⟩:=yf.1 h;obtain⟨b,h2,rfl⟩:=Zb h;obtain⟨e,h3⟩:=ZE h1;subst e;obtain⟨_,h4⟩:=ZE h2;subst h3;subst h4;rfl
  ·cases h
 ·split at h
  ·obtain⟨a,h1,h⟩:=yf.1 h;obtain⟨b,h2,h⟩:=yf.1 h;obtain⟨c,h3,rfl⟩:=Zb h;obtain⟨e,h4⟩:=ZE h1;subst e;obtain⟨_,h5⟩:=ZE h2;subst h4;subst h5;simp only[lkE,yp,yag,ycq];rw[ycg,Nat.add_comm (0+1)]
  ·cases h
 ·split at h
  ·obtain⟨a,h1,h⟩:=yf.1 h;obtain⟨b,h2,h⟩:=yf.1 h;obtain⟨c,h3,rfl⟩:=Zb h;obtain⟨e,h4⟩:=ZE h1;subst e;obtain⟨_,h5⟩:=ZE h2;subst h4;subst h5;rfl
  ·cases h
 ·cases h;rfl
 ·cases h
theorem ZhA{L:Lk}:∀{l:List ESh}{H:List TEnt}{q:List TEnt×List TV},ESh.mts L l H=some q→q.1.length=H.length∧lk q.1=lk H
 |[],[],q,h=>by cases h;exact⟨rfl,rfl⟩
 |[],_::_,q,h=>by cases h
 |_::_,[],q,h=>by cases h
 |s::r,d::H,q,h=>by
  simp only[ESh.mts] at h;split at h
  ·rename_i a b h1 h2;cases h;obtain⟨e1,e2⟩:=ZhA h2;refine⟨by simp[e1],funext λi=> ?_⟩
   cases i with
   |zero=>exact ZIR h1
   |succ i=>exact congrFun e2 i
  ·cases h
theorem ZBm:∀(l:List Dv){m m':List Dv},WkL m m'→WkL (l++m) (l++m')
 |[],_,_,h=>h
 |x::l,_,_,h=>.cons (Wk.refl x) (ZBm l h)
theorem ZBn{l m:List Dv}{d d':Dv}(h:Wk d d'):WkL (l++d::m) (l++d'::m):=ZBm l (.cons h (WkL.refl m))
theorem ZEM{n s:Nat}(xs:List Pl):Wk (.arr n s (xs.map .p)) (.p (.arr n s xs)):=⟨rfl,rfl,λσ vs r=>by
 simp only[repD,repC] at r ⊢;obtain⟨h1,h2,h3⟩:=r;exact⟨by simpa using h1,λx hx=>h2 (.p x) (List.mem_map_of_mem hx),Zh9.1 h3⟩⟩
theorem ZIS{n s:Nat}{d:Dv}{x:Pl}(l m:List Pl)(h:Wk d (.p x)):Wk (.arr n s (l.map .p++d::m.map .p)) (.p (.arr n s (l++x::m))):=by
 have h1:Wk (.arr n s (l.map .p++d::m.map .p)) (.arr n s (l.map .p++.p x::m.map .p)):=WkL.arr (ZBn h);have h2:=ZEM (n:=n) (s:=s) (l++x::m);rw[yax,yaf] at h2;exact⟨rfl,rfl,λσ vs r=>h2.rep σ vs (h1.rep σ vs r)⟩
theorem ZBo{L M:Lk}{t:Ty}{np:List Nat}{v:List Unit}{st:Bool}{e:yb}{a b:List t.den}{mid:TD}{c:t.den}(hw:Wk (mid.er L) (.p (t.enc c))):
 WkE ((TEnt.rowM t np v st e a mid b).er L) ((TEnt.rowN t np v st e (a++[c]) b).er M):=by
 have h:=ZIS (a.map t.enc) (b.map λx=>(ZuC np (.v t x)).pe) (n:=a.length+(b.length+1)) (s:=t.size) hw;rw[ybc,ybc] at h;have e1:(a++[c]).length+b.length=a.length+(b.length+1):=by rw[yp,yag,ycq];omega
 have e2:(a++[c]).map t.enc++(b.map λx=>(ZuC np (.v t x)).pe)=a.map t.enc++t.enc c::b.map λx=>(ZuC np (.v t x)).pe:=by rw[yax,yaj];rfl
 rw[TEnt.er,TEnt.er,e1,e2];exact .row ⟨h,rfl⟩
theorem ZIT{L M:Lk}(hL:∀id t,Ya L id t none=Ya M id t none){s:ESh}{d:TEnt}{q:TEnt×List TV}(h:s.mt L d=some q):WkE (d.er L) (q.1.er M):=by
 unfold ESh.mt at h;split at h
 ·split at h
  ·rename_i e;obtain⟨w,h1,rfl⟩:=Zb h;rcases e with e|e
   ·subst e;exact .var (Zsc hL _ _ w h1)
   ·subst e;exact .varz (Zsc hL _ _ w h1)
  ·cases h
 ·split at h
  ·rename_i e;subst e;obtain⟨w,h1,rfl⟩:=Zb h;obtain⟨e,h2⟩:=ZE h1;subst e;subst h2;exact .refl _
  ·cases h
 ·split at h
  ·rename_i e;subst e;obtain⟨w,h1,rfl⟩:=Zb h;obtain⟨e,h2⟩:=ZaR h1;unfold ZqD at e;simp only[Ty.sl.injEq,Ty.st.injEq,List.cons.injEq,and_true] at e;obtain⟨e1,e2⟩:=e;subst e1;subst e2;subst h2;exact .refl _
  ·cases h
 ·split at h
  ·rename_i e;obtain⟨e0,e1⟩:=e;subst e1;obtain⟨w,h1,rfl⟩:=Zb h;obtain⟨e,h2⟩:=ZE h1;subst e;subst h2;rcases e0 with e0|e0
   ·subst e0;exact .refl _
   ·subst e0;exact .lock
  ·cases h
 ·split at h
  ·rename_i e;obtain⟨e0,e1,e2⟩:=e;subst e1;subst e2;obtain⟨a,h1,h⟩:=yf.1 h;obtain⟨b,h2,rfl⟩:=Zb h;obtain⟨e,h3⟩:=ZE h1;subst e;obtain⟨_,h4⟩:=ZE h2;subst h3;subst h4;rcases e0 with e0|e0
   ·subst e0;exact .refl _
   ·subst e0;exact .lock
  ·cases h
 ·rename_i _ _ _ _ _ _ _ _ _ pre mid post;split at h
  ·rename_i e;obtain⟨e0,e1,e2⟩:=e;subst e0;subst e1;subst e2;obtain⟨a,h1,h⟩:=yf.1 h;obtain⟨b,h2,h⟩:=yf.1 h;obtain⟨c,h3,rfl⟩:=Zb h;obtain⟨e,h4⟩:=ZE h1;subst e;obtain⟨_,h5⟩:=ZE h2;subst h4;subst h5;exact ZBo (ZBl h3)
  ·cases h
 ·split at h
  ·rename_i e;obtain⟨e0,e1,e2⟩:=e;subst e0;subst e1;subst e2;obtain⟨a,h1,h⟩:=yf.1 h;obtain⟨b,h2,h⟩:=yf.1 h;obtain⟨c,h3,rfl⟩:=Zb h;obtain⟨e,h4⟩:=ZE h1;subst e;obtain⟨_,h5⟩:=ZE h2;subst h4;subst h5;rw[TEnt.er,TEnt.er];exact .row ⟨WkL.arr (ZBn (Zsc hL _ _ c h3)),rfl⟩
  ·cases h
 ·cases h;exact .refl _
 ·cases h
theorem Zll{L M:Lk}(hL:∀id t,Ya L id t none=Ya M id t none):∀{l:List ESh}{H:List TEnt}{q:List TEnt×List TV},ESh.mts L l H=some q→WkH (H.map (TEnt.er L)) (q.1.map (TEnt.er M))
 |[],[],q,h=>by cases h;exact .nil
 |[],_::_,q,h=>by cases h
 |_::_,[],q,h=>by cases h
 |s::r,d::H,q,h=>by
  simp only[ESh.mts] at h;split at h
  ·rename_i a b h1 h2;cases h;exact .cons (ZIT hL h1) (Zll hL h2)
  ·cases h
def ofD:(ts:List Ty)→Ty.dens ts→List TV
 |[],_=>[]
 |[t],x=>[⟨t,x⟩]
 |t::u::r,x=>⟨t,x.1⟩::ofD (u::r) x.2
def toD:(ts:List Ty)→List TV→Option (Ty.dens ts)
 |[],[]=>some ()
 |[t],[x]=>Ty.cast x.1 t x.2
 |t::u::r,x::l=>Zl1 (Ty.cast x.1 t x.2) (toD (u::r) l)
 |_,_=>none
theorem ZcK:∀(ts:List Ty)(l:List TV)(x:Ty.dens ts),toD ts l=some x→ofD ts x=l
 |[],[],x,h=>rfl
 |[],_::_,x,h=>by cases h
 |[t],[],x,h=>by cases h
 |[t],[y],x,h=>by
  obtain⟨e,h2⟩:=ZaR (show Ty.cast y.1 t y.2=some x from h)
  obtain⟨u,y⟩:=y;dsimp only at e h2;subst e;subst h2
  rfl
 |[t],_::_::_,x,h=>by cases h
 |t::u::r,[],x,h=>by cases h
 |t::u::r,y::l,x,h=>by
  obtain⟨h1,h2⟩:=ZaB (α:=t.den) (β:=Ty.dens (u::r)) (show Zl1 (Ty.cast y.1 t y.2) (toD (u::r) l)=some x from h)
  obtain⟨e,h3⟩:=ZaR h1;obtain⟨u',y⟩:=y;dsimp only at e h3;subst e;have:=ZcK (u::r) l x.2 h2;show(⟨u',x.1⟩:TV)::ofD (u::r) x.2=_;rw[this,h3]
abbrev Slots:=List (Nat×Sh)
def shs(sl:Slots)(n:Nat):List Sh:=(yw n).map λi=>(sl.lookup i).getD .junk
def VQ(n:Nat)(sl:Slots)(es:List ESh)(vs:List TV):Option (List TD×List TEnt):=
 (Sh.fills (shs sl n) vs).bind λq=>(ESh.fills es q.2).bind λw=>if w.2.isEmpty then some (q.1,w.1) else none
theorem Zlm:∀{l:List Sh}{vs:List TV}{q:List TD×List TV},Sh.fills l vs=some q→q.1.length=l.length
 |[],vs,q,h=>by simp only[Sh.fills] at h;cases h;rfl
 |s::r,vs,q,h=>by
  simp only[Sh.fills] at h;obtain⟨a,h1,h⟩:=yf.1 h;obtain⟨b,h2,rfl⟩:=Zb h;simp[Zlm h2]
theorem ZhB{n:Nat}{sl:Slots}{es:List ESh}{vs:List TV}{q:List TD×List TEnt}(h:VQ n sl es vs=some q):q.1.length=n:=by
 unfold VQ at h;obtain⟨a,h1,h⟩:=yf.1 h;obtain⟨b,h2,h⟩:=yf.1 h;split at h
 ·cases h;rw[Zlm h1];simp[shs]
 ·cases h
structure XSh where
 ex:Ex
 sl:Slots
 es:List ESh
 ty:List Ty
def XSh.sum:List XSh→Type
 |[]=>Empty
 |[e]=>Ty.dens e.ty
 |e::f::r=>Ty.dens e.ty⊕XSh.sum (f::r)
abbrev Kc(O:Type):=Ex→List TD→List TEnt→Option O
def xT{O:Type}(n:Nat):(l:List XSh)→XSh.sum l→Kc O→Option O
 |[],_,_=>none
 |[e],o,K=>(VQ n e.sl e.es (ofD e.ty o)).bind λs=>K e.ex s.1 s.2
 |e::f::r,o,K=>match (o:Ty.dens e.ty⊕XSh.sum (f::r)) with
  |.inl o=>(VQ n e.sl e.es (ofD e.ty o)).bind λs=>K e.ex s.1 s.2
  |.inr o=>xT n (f::r) o K
def Zyh:(l:List XSh)→XSh.sum l→XSh→List TV→Prop
 |[],_,_,_=>False
 |[e],o,x,vs=>x=e∧vs=ofD e.ty o
 |e::f::r,o,x,vs=>match (o:Ty.dens e.ty⊕XSh.sum (f::r)) with
  |.inl o=>x=e∧vs=ofD e.ty o
  |.inr o=>Zyh (f::r) o x vs
theorem Zra{O:Type}{n:Nat}{K:Kc O}{out:O}:∀{l:List XSh}{o:XSh.sum l},xT n l o K=some out→∃e vs s,Zyh l o e vs∧VQ n e.sl e.es vs=some s∧K e.ex s.1 s.2=some out
 |[],_,h=>by cases h
 |[e],o,h=>by
  obtain⟨s,h1,h2⟩:=yf.1 (show(VQ n e.sl e.es (ofD e.ty o)).bind (λs=>K e.ex s.1 s.2)=some out from h)
  exact⟨e,_,s,⟨rfl,rfl⟩,h1,h2⟩
 |e::f::r,.inl o,h=>by
  obtain⟨s,h1,h2⟩:=yf.1 (show(VQ n e.sl e.es (ofD e.ty o)).bind (λs=>K e.ex s.1 s.2)=some out from h)
  exact⟨e,_,s,⟨rfl,rfl⟩,h1,h2⟩
 |e::f::r,.inr o,h=>by
  obtain⟨e',vs,s,h1,h2,h3⟩:=Zra (l:=f::r) (o:=o) h;exact⟨e',vs,s,h1,h2,h3⟩
mutual
def TD.rn(f:Nat→Option Nat):TD→Option TD
 |.p x=>some (.p x)
 |.elem x=>some (.elem x)
 |.ref id path=>(f id).map λi=>.ref i path
 |.own id nn t c=>(f id).map λi=>.own i nn t c
 |.view id path s lo n=>(f id).map λi=>.view i path s lo n
 |.agg xs=>(TD.rns f xs).map .agg
 |.arr n s xs=>(TD.rns f xs).map (.arr n s)
 |.fn g cap=>(TD.rns f cap).map (.fn g)
 |.iface t x=>(TD.rn f x).map (.iface t)
 |.tup xs=>(TD.rns f xs).map .tup
 |.mp id=>(f id).map .mp
 |.rv id v s lo n=>(f id).map λi=>.rv i v s lo n
 |.rref id v path=>(f id).map λi=>.rref i v path
 |.rw id=>(f id).map .rw
 |.rp id path=>(f id).map λi=>.rp i path
 |.junk=>some .junk
def TD.rns(f:Nat→Option Nat):List TD→Option (List TD)
 |[]=>some []
 |x::r=>match TD.rn f x,TD.rns f r with
  |some y,some ys=>some (y::ys)
  |_,_=>none
end
def TEnt.rn(f:Nat→Option Nat):TEnt→Option TEnt
 |.var d st=>(d.rn f).map λd'=>.var d' st
 |.row v s st e d=>(d.rn f).map λd'=>.row v s st e d'
 |.rowM t np v st e pre d post=>(d.rn f).map λd'=>.rowM t np v st e pre d' post
 |e=>some e
def TEnt.rns(f:Nat→Option Nat):List TEnt→Option (List TEnt)
 |[]=>some []
 |x::r=>match TEnt.rn f x,TEnt.rns f r with
  |some y,some ys=>some (y::ys)
  |_,_=>none
def Rc(f:Nat→Option Nat)(L M:Lk):Prop:=∀id j t,f id=some j→Ya L id t none=Ya M j t none
theorem ZG3{f:Nat→Option Nat}{L M:Lk}(h:Rc f L M){id j:Nat}(e:f id=some j)(t:Ty)(c:Option (List t.den)):Ya L id t c=Ya M j t c:=by
 cases c with
 |none=>exact h id j t e
 |some _=>rfl
mutual
theorem Zfp{f:Nat→Option Nat}{L M:Lk}(h:Rc f L M):∀(d d':TD),d.rn f=some d'→Dv.rn f (d.er L)=some (d'.er M)
 |.p x,d',e=>by cases e;rfl
 |.elem x,d',e=>by cases e;rfl
 |.ref id path,d',e=>by
  obtain⟨i,h1,rfl⟩:=Zb e
  simp only[TD.er,Dv.rn,h1,yab]
 |.own id nn t c,d',e=>by
  obtain⟨i,h1,rfl⟩:=Zb e
  simp only[TD.er,Dv.rn,h1,yab,ZG3 h h1]
 |.view id path s lo n,d',e=>by
  obtain⟨i,h1,rfl⟩:=Zb e
  simp only[TD.er,Dv.rn,h1,yab]
 |.agg xs,d',e=>by
  obtain⟨i,h1,rfl⟩:=Zb e
  simp only[TD.er,Dv.rn,rns_er h xs i h1,yab]
 |.arr n s xs,d',e=>by
  obtain⟨i,h1,rfl⟩:=Zb e
  simp only[TD.er,Dv.rn,rns_er h xs i h1,yab]
 |.fn g xs,d',e=>by
  obtain⟨i,h1,rfl⟩:=Zb e
  simp only[TD.er,Dv.rn,rns_er h xs i h1,yab]
 |.iface t x,d',e=>by
  obtain⟨i,h1,rfl⟩:=Zb e
  simp only[TD.er,Dv.rn,Zfp h x i h1,yab]
 |.tup xs,d',e=>by
  obtain⟨i,h1,rfl⟩:=Zb e
  simp only[TD.er,Dv.rn,rns_er h xs i h1,yab]
 |.mp id,d',e=>by
  obtain⟨i,h1,rfl⟩:=Zb e
  simp only[TD.er,Dv.rn,h1,yab]
 |.rv id v s lo n,d',e=>by
  obtain⟨i,h1,rfl⟩:=Zb e
  simp only[TD.er,Dv.rn,h1,yab]
 |.rref id v path,d',e=>by
  obtain⟨i,h1,rfl⟩:=Zb e
  simp only[TD.er,Dv.rn,h1,yab]
 |.rw id,d',e=>by
  obtain⟨i,h1,rfl⟩:=Zb e
  simp only[TD.er,Dv.rn,h1,yab,ZbU,h _ _ _ h1]
 |.rp id path,d',e=>by
  obtain⟨i,h1,rfl⟩:=Zb e
  simp only[TD.er,Dv.rn,h1,yab,ZbU,h _ _ _ h1]
 |.junk,d',e=>by cases e;rfl
theorem rns_er{f:Nat→Option Nat}{L M:Lk}(h:Rc f L M):∀(ds es:List TD),TD.rns f ds=some es→Dv.rns f (TD.ers L ds)=some (TD.ers M es)
 |[],es,e=>by cases e;rfl
 |x::r,es,e=>by
  simp only[TD.rns] at e;split at e
  ·rename_i y ys h1 h2;cases e;simp only[TD.ers,Dv.rns,Zfp h x y h1,rns_er h r ys h2]
  ·cases e
end
theorem Zz6{α:Type}(f:Nat→Option Nat)(g:α→Pl):∀(l:List α)(m:List Dv),Dv.rns f ((l.map λx=>.p (g x))++m)=(Dv.rns f m).map λq=>(l.map λx=>.p (g x))++q
 |[],m=>by cases h:Dv.rns f m <;> simp[h]
 |x::l,m=>by
  rw[yaf,yaa,Dv.rns,Dv.rn,Zz6 f g l m];cases Dv.rns f m <;> rfl
theorem ZG4{α β:Type}{f:Nat→Option Nat}{g:α→Pl}{g':β→Pl}{l:List α}{d d':Dv}{m:List β}(h:Dv.rn f d=some d'):
 Dv.rns f ((l.map λx=>.p (g x))++d::m.map λx=>.p (g' x))=some ((l.map λx=>.p (g x))++d'::m.map λx=>.p (g' x)):=by
 have e:=Zz6 f g' m [];rw[ybh] at e;rw[Zz6,Dv.rns,h,e];simp[Dv.rns]
theorem ZEN{f:Nat→Option Nat}{L M:Lk}(h:Rc f L M){e e':TEnt}(k:e.rn f=some e'):Ent.rn f (e.er L)=some (e'.er M):=by
 cases e with
 |var d st=>
  obtain⟨i,h1,rfl⟩:=Zb k
  simp only[TEnt.er,Ent.rn,Zfp h d i h1,yab]
 |row v s st e d=>
  obtain⟨i,h1,rfl⟩:=Zb k
  simp only[TEnt.er,Ent.rn,Zfp h d i h1,yab]
 |rowM t np v st e pre d post=>
  obtain⟨i,h1,rfl⟩:=Zb k
  simp only[TEnt.er,Ent.rn,Dv.rn,ZG4 (Zfp h d i h1),yab]
 |_=>cases k;rfl
theorem ZBp{f:Nat→Option Nat}{L M:Lk}(h:Rc f L M):∀(ds es:List TEnt),TEnt.rns f ds=some es→Ent.rns f (ds.map (TEnt.er L))=some (es.map (TEnt.er M))
 |[],es,e=>by cases e;rfl
 |x::r,es,e=>by
  simp only[TEnt.rns] at e;split at e
  ·rename_i y ys h1 h2;cases e;simp only[yaf,Ent.rns,ZEN h h1,ZBp h r ys h2]
  ·cases e
theorem ZEO{f:Nat→Option Nat}{e e':TEnt}(k:e.rn f=some e'):lkE (some e')=lkE (some e):=by
 cases e with
 |var d st=>obtain⟨i,h1,rfl⟩:=Zb k;rfl
 |row v s st e d=>obtain⟨i,h1,rfl⟩:=Zb k;rfl
 |rowM t np v st e pre d post=>obtain⟨i,h1,rfl⟩:=Zb k;rfl
 |_=>cases k;rfl
theorem Zyi{f:Nat→Option Nat}:∀{ds es:List TEnt},TEnt.rns f ds=some es→es.length=ds.length∧∀(j:Nat),lkE (es[j]?)=lkE (ds[j]?)
 |[],es,e=>by cases e;exact⟨rfl,λ_=>rfl⟩
 |x::r,es,e=>by
  simp only[TEnt.rns] at e;split at e
  ·rename_i y ys h1 h2;cases e;obtain⟨g1,g2⟩:=Zyi h2;refine⟨by simp[g1],λj=> ?_⟩
   cases j with
   |zero=>exact ZEO h1
   |succ j=>exact g2 j
  ·cases e
def Wi(H:List TEnt)(all:List Nat):List Nat→Option (List TEnt)
 |[]=>some []
 |id::r=>match (H[id]?).bind (TEnt.rn (toIds all)),Wi H all r with
  |some e,some es=>some (e::es)
  |_,_=>none
theorem ZeC{H:List TEnt}{all:List Nat}:∀{ids:List Nat}{Hin:List TEnt},Wi H all ids=some Hin→Hin.length=ids.length∧∀(j id:Nat),ids[j]? =some id→id < H.length∧lkE (Hin[j]?)=lkE (H[id]?)
 |[],Hin,h=>by cases h;exact⟨rfl,λj id e=>by simp at e⟩
 |i::r,Hin,h=>by
  simp only[Wi] at h;split at h
  ·rename_i e es h1 h2;cases h;obtain⟨g1,g2⟩:=ZeC h2;obtain⟨e0,h3,h4⟩:=yf.1 h1;refine⟨by simp[g1],λj id hj=> ?_⟩
   cases j with
   |zero=>
    cases hj
    exact⟨(yr.1 h3).1,by rw[h3];exact ZEO h4⟩
   |succ j=>exact g2 j id hj
  ·cases h
theorem Wd{H:List TEnt}{all:List Nat}{M:Lk}(h:Rc (toIds all) (lk H) M):∀{ids:List Nat}{Hin:List TEnt},Wi H all ids=some Hin→subEnts (erH H) all ids=some (Hin.map (TEnt.er M))
 |[],Hin,e=>by cases e;rfl
 |i::r,Hin,e=>by
  simp only[Wi] at e;split at e
  ·rename_i e0 es h1 h2;cases e;obtain⟨e1,h3,h4⟩:=yf.1 h1;simp only[subEnts,Yo h3,ya,ZEN h h4,Wd h h2,yaf]
  ·cases e
mutual
def TD.lay(L:Lk)(S:List Nat):TD→TD
 |.own id nn t c=>if S.contains id then .own id nn t (some (Ya L id t c)) else .own id nn t c
 |.agg xs=>.agg (TD.lays L S xs)
 |.arr m s xs=>.arr m s (TD.lays L S xs)
 |.fn f xs=>.fn f (TD.lays L S xs)
 |.iface t x=>.iface t (TD.lay L S x)
 |.tup xs=>.tup (TD.lays L S xs)
 |.p x=>.p x
 |.elem x=>.elem x
 |.ref id path=>.ref id path
 |.view id path s lo n=>.view id path s lo n
 |.mp id=>.mp id
 |.rv id v s lo n=>.rv id v s lo n
 |.rref id v path=>.rref id v path
 |.rw id=>if S.contains id then .rv id (ZbU L id 0) (ZbU L id 1) 0 (ZbU L id 2) else .rw id
 |.rp id path=>if S.contains id then .rref id (ZbU L id 0) path else .rp id path
 |.junk=>.junk
def TD.lays(L:Lk)(S:List Nat):List TD→List TD
 |[]=>[]
 |x::r=>TD.lay L S x::TD.lays L S r
end
mutual
def TD.under(n:Nat):TD→Bool
 |.own id _ _ c=>c.isSome || decide (id < n)
 |.rw id=>decide (id < n)
 |.rp id _=>decide (id < n)
 |.agg xs=>TD.unders n xs
 |.arr _ _ xs=>TD.unders n xs
 |.fn _ xs=>TD.unders n xs
 |.iface _ x=>TD.under n x
 |.tup xs=>TD.unders n xs
 |_=>true
def TD.unders(n:Nat):List TD→Bool
 |[]=>true
 |x::r=>TD.under n x&&TD.unders n r
end
def TEnt.lay(L:Lk)(S:List Nat):TEnt→TEnt
 |.var d st=>.var (d.lay L S) st
 |.row v s st e d=>.row v s st e (d.lay L S)
 |.rowM t np v st e pre d post=>.rowM t np v st e pre (d.lay L S) post
 |e=>e
def TEnt.under(n:Nat):TEnt→Bool
 |.var d _=>d.under n
 |.row _ _ _ _ d=>d.under n
 |.rowM _ _ _ _ _ _ d _=>d.under n
 |_=>true
def Lo(S:List Nat)(n:Nat)(L M:Lk):Prop:=∀id t,S.contains id=false→id < n→Ya L id t none=Ya M id t none
mutual
theorem Zsd{L M:Lk}{S:List Nat}{n:Nat}(h:Lo S n L M):∀(d:TD),d.under n=true→(d.lay L S).er M=d.er L
 |.p _,_=>rfl
 |.elem _,_=>rfl
 |.ref _ _,_=>rfl
 |.own id nn t c,hf=>by
  rw[TD.lay];split
  ·rfl
  ·rename_i hn
   cases c with
   |none=>
    have:id < n:=by simpa[TD.under] using hf
    rw[TD.er,TD.er,h id t (by simpa using hn) this]
   |some _=>rfl
 |.view _ _ _ _ _,_=>rfl
 |.agg xs,hf=>by rw[TD.lay,TD.er,TD.er,ers_lay h xs hf]
 |.arr _ _ xs,hf=>by rw[TD.lay,TD.er,TD.er,ers_lay h xs hf]
 |.fn _ xs,hf=>by rw[TD.lay,TD.er,TD.er,ers_lay h xs hf]
 |.iface _ x,hf=>by rw[TD.lay,TD.er,TD.er,Zsd h x hf]
 |.tup xs,hf=>by rw[TD.lay,TD.er,TD.er,ers_lay h xs hf]
 |.mp _,_=>rfl
 |.rv _ _ _ _ _,_=>rfl
 |.rref _ _ _,_=>rfl
 |.rw id,hf=>by
  rw[TD.lay];split
  ·rfl
  ·rename_i hn;have:id < n:=by simpa[TD.under] using hf
   simp only[TD.er,ZbU,h id _ (by simpa using hn) this]
 |.rp id _,hf=>by
  rw[TD.lay];split
  ·rfl
  ·rename_i hn;have:id < n:=by simpa[TD.under] using hf
   simp only[TD.er,ZbU,h id _ (by simpa using hn) this]
 |.junk,_=>rfl
theorem ers_lay{L M:Lk}{S:List Nat}{n:Nat}(h:Lo S n L M):∀(ds:List TD),TD.unders n ds=true→TD.ers M (TD.lays L S ds)=TD.ers L ds
 |[],_=>rfl
 |x::r,hf=>by
  simp only[TD.unders,yj] at hf;rw[TD.lays,TD.ers,TD.ers,Zsd h x hf.1,ers_lay h r hf.2]
end
theorem Zyj{L:Lk}{S:List Nat}:∀(l:List TD),(TD.lays L S l).length=l.length
 |[]=>rfl
 |_::r=>by rw[TD.lays,yag,yag,Zyj r]
theorem ZG5{L M:Lk}{S:List Nat}{n:Nat}(h:Lo S n L M){e:TEnt}(hf:e.under n=true):(e.lay L S).er M=e.er L:=by
 cases e with
 |var d st=>rw[TEnt.lay,TEnt.er,TEnt.er,Zsd h d hf]
 |row v s st e d=>rw[TEnt.lay,TEnt.er,TEnt.er,Zsd h d hf]
 |rowM t np v st e pre d post=>rw[TEnt.lay,TEnt.er,TEnt.er,Zsd h d hf]
 |_=>rfl
theorem ZG6{L:Lk}{S:List Nat}(e:Option TEnt):lkE (e.map (TEnt.lay L S))=lkE e:=by
 cases e with
 |none=>rfl
 |some e=>cases e <;> rfl
theorem ZpT{α β:Type}(f:α→β):∀(ids:List Nat)(A B:List α),(putBack A ids B).map f=putBack (A.map f) ids (B.map f)
 |[],A,B=>by simp[putBack]
 |id::r,A,[]=>by simp[putBack]
 |id::r,A,b::B=>by simp only[putBack,yaf];rw[ZpT f r,ybo]
def TD.argI(L:Lk)(ids:List Nat):TD→TD
 |.own id nn t c=>if ids.contains id then .own id nn t c else .p (.sl nn t (Ya L id t c))
 |.agg ds=>if TD.ownss ids ds then .agg ds else TD.melt L ds
 |d=>d
theorem Zwr{L:Lk}{ids:List Nat}(d:TD):(d.argI L ids).er L=Dv.argI ids (d.er L):=by
 cases d with
 |own id nn t c=>
  rw[TD.argI,TD.er,Dv.argI]
  split <;> rfl
 |p _=>rfl
 |elem _=>rfl
 |ref _ _=>rfl
 |view _ _ _ _ _=>rfl
 |agg ds=>
  rw[TD.argI,TD.er,Dv.argI,ownss_er];split
  ·rw[TD.er]
  ·exact ZBa _
 |arr _ _ _=>rfl
 |fn _ _=>rfl
 |iface _ _=>rfl
 |tup _=>rfl
 |mp _=>rfl
 |rv _ _ _ _ _=>rfl
 |rref _ _ _=>rfl
 |rw _=>rfl
 |rp _ _=>rfl
 |junk=>rfl
def Zse(P:yg)(ts:List TD):List yo→List yb→Option (List TD)
 |[],_=>some []
 |_,[]=>some []
 |x::r,t::q=>match arT P ts t x,Zse P ts r q with
  |some a,some b=>some (a::b)
  |_,_=>none
theorem ZnI{P:yg}{ts:List TD}{L:Lk}(ids:List Nat):∀{l:List yo}{ty:List yb}{ds:List TD},Zse P ts l ty=some ds→
 ((l.zip ty).map λq=>(Zy P (TD.ers L ts) q.2 q.1).argI ids)=TD.ers L (ds.map (TD.argI L ids))
 |[],ty,ds,h=>by cases h;rfl
 |x::r,[],ds,h=>by cases h;rfl
 |x::r,t::q,ds,h=>by
  simp only[Zse] at h;split at h
  ·rename_i a b h1 h2;cases h;simp only[List.zip_cons_cons,yaf,TD.ers,Zw (L:=L) h1,Zwr,ZnI ids h2]
  ·cases h
theorem ZBq{L:Lk}(ids:List Nat)(ds:List TD):(TD.ers L ds).map (Dv.argI ids)=TD.ers L (ds.map (TD.argI L ids)):=by
 rw[ZN,ZN,ybc,ybc];exact ycj λx _=>(Zwr x).symm
structure Fs(P:yg)where
 g:yv
 ps:List Sh
 es:List ESh
 ins:List Ty
 xs:List XSh
 M:Ty.dens ins→Option (XSh.sum xs)
def Fs.Ok{P:yg}(s:Fs P):Prop:=
 ∀x o,s.M x=some o→∃args R H,Sh.fills s.ps (ofD s.ins x)=some (args,R)∧ESh.fills s.es R=some (H,[])∧
  ∀e vs s',Zyh s.xs o e vs→VQ 1 e.sl e.es vs=some s'→∃r,s'.1=[r]∧Con P s.g (TD.ers (lk H) args) (erH H) (r.er (lk s'.2)) (erH s'.2)
def AllOk{P:yg}:List (Fs P)→Prop
 |[]=>True
 |s::r=>s.Ok∧AllOk r
mutual
def Sh.ids:Sh→TD→List (Nat×Nat)
 |.own j _,d=>match d with
  |.own id _ _ none=>[(j,id)]
  |_=>[]
 |.ref j _,d=>match d with
  |.ref id _=>[(j,id)]
  |_=>[]
 |.mp j,d=>match d with
  |.mp id=>[(j,id)]
  |_=>[]
 |.rw j,d=>match d with
  |.rw id=>[(j,id)]
  |_=>[]
 |.rp j _ _,d=>match d with
  |.rp id _=>[(j,id)]
  |_=>[]
 |.view j _ _ _ _,d=>match d with
  |.view id _ _ _ _=>[(j,id)]
  |_=>[]
 |.fn _ l,d=>match d with
  |.fn _ ds=>Sh.idsL l ds
  |_=>[]
 |.agg l,d=>match d with
  |.agg ds=>Sh.idsL l ds
  |_=>[]
 |.arr _ _ l,d=>match d with
  |.arr _ _ ds=>Sh.idsL l ds
  |_=>[]
 |.tup l,d=>match d with
  |.tup ds=>Sh.idsL l ds
  |_=>[]
 |.iface _ x,d=>match d with
  |.iface _ y=>Sh.ids x y
  |_=>[]
 |_,_=>[]
def Sh.idsL:List Sh→List TD→List (Nat×Nat)
 |[],_=>[]
 |s::r,ds=>match ds with
  |d::q=>Sh.ids s d++Sh.idsL r q
  |[]=>[]
end
def ZIU(H:List TEnt):List ESh→Nat→List (Nat×Nat)→List (Nat×Nat)
 |[],_,l=>l
 |e::r,j,l=>ZIU H r (j+1) (match e,(l.lookup j).bind λid=>ZpQ H id with
  |.var s _,some d=>l++Sh.ids s d
  |_,_=>l)
def ZH0(H:List TEnt)(ps:List Sh)(es:List ESh)(ds:List TD):Option (List Nat):=
 let l:=ZIU H es 0 (Sh.idsL ps ds)
 (yw es.length).mapM λj=>l.lookup j
def Zws{P:yg}(s:Fs P)(H:List TEnt)(args:List TD)(ids:List Nat):Option (Ty.dens s.ins):=
 if once ids then(TD.rns (toIds ids) (args.map (TD.argI (lk H) ids))).bind λa2=>(Wi H ids ids).bind λHin=>
  (Sh.mts (lk Hin) s.ps a2).bind λq=>(ESh.mts (lk Hin) s.es Hin).bind λw=>toD s.ins (q.2++w.2)
 else none
theorem Q6{H Hin:List TEnt}{ids:List Nat}(h:Wi H ids ids=some Hin):Rc (toIds ids) (lk H) (lk Hin):=by
 intro id j t e;obtain⟨g1,g2⟩:=ZeC h;have hj:=idxOf?_some e;have:=(g2 j id hj).2;unfold Ya lk;dsimp only;rw[this]
theorem ZG7{P:yg}{s:Fs P}{H:List TEnt}{args:List TD}{ids:List Nat}{x:Ty.dens s.ins}(h:Zws s H args ids=some x):
 once ids=true∧∃Hin a2 a3 H3 R,Wi H ids ids=some Hin∧subEnts (erH H) ids ids=some (erH Hin)∧Dv.rns (toIds ids) (TD.ers (lk H) (args.map (TD.argI (lk H) ids)))=some (TD.ers (lk Hin) a2)∧
  Sh.fills s.ps (ofD s.ins x)=some (a3,R)∧ESh.fills s.es R=some (H3,[])∧WkL (TD.ers (lk Hin) a2) (TD.ers (lk H3) a3)∧WkH (erH Hin) (erH H3):=by
 unfold Zws at h;split at h
 ·rename_i ho;obtain⟨a2,h1,h⟩:=yf.1 h;obtain⟨Hin,h2,h⟩:=yf.1 h;obtain⟨q,h3,h⟩:=yf.1 h;obtain⟨w,h4,h⟩:=yf.1 h;obtain⟨g1,g2⟩:=ZhA h4;have e:=ZcK _ _ _ h;have hc:∀id t,Ya (lk Hin) id t none=Ya (lk w.1) id t none:=λid t=>by rw[g2]
  refine⟨ho,Hin,a2,q.1,w.1,w.2,h2,Wd (Q6 h2) h2,rns_er (Q6 h2) _ _ h1, ?_, ?_,mts_wk hc _ _ _ h3,Zll hc h4⟩
  ·rw[e];exact mts_fills _ _ _ h3 _
  ·have:=ZaD h4 []
   rwa [ybh] at this
 ·cases h
section
variable{P:yg}{o:Oper}{ts all:List TD}{H:List TEnt}{O:Type}{K:Kn O}{out:O}
def ZG8(all:List TD)(H:List TEnt)(K:Kn O)(ids:List Nat)(r:TD)(Hn:List TEnt):Option O:=
 if(ids.isEmpty&&Hn.isEmpty)=true then(r.rn λ_=>none).bind λr'=>K all r' H [.call (r.er (lk [])) [] []] 0 else
 (r.rn (fromIds ids H.length)).bind λr'=>(TEnt.rns (fromIds ids H.length) Hn).bind λHb=>
   if(decide (ids.length≤Hn.length)&&TD.unders H.length all&&H.all (TEnt.under H.length))=true then
    K (TD.lays (lk H) ids all) r' (putBack (H.map (TEnt.lay (lk H) ids)) ids Hb) [.call (r.er (lk Hn)) (erH Hn) ids] 2
   else none
def Zsf(s:Fs P)(all:List TD)(H:List TEnt)(K:Kn O)(args:List TD)(ids:List Nat)(x:Ty.dens s.ins):Option O:=
 (s.M x).bind λy=>xT 1 s.xs y λ_ rs Hn=>match rs with
   |[r]=>ZG8 all H K ids r Hn
   |_=>none
def Zyk(g:yv)(all:List TD)(H:List TEnt)(K:Kn O)(args:List TD)(other:Option O):List (Fs P)→Option O
 |[]=>other
 |s::rest=>if s.g=g then match (ZH0 H s.ps s.es args).bind λids=>(Zws s H args ids).map λx=>(ids,x) with
   |some q=>Zsf s all H K args q.1 q.2
   |none=>Zyk g all H K args other rest
  else Zyk g all H K args other rest
mutual
def Sh.exD:Sh→TD→Bool
 |.v t,d=>match d with
  |.p (.v u _)=>match Ty.dec u t with
   |isTrue _=>true
   |isFalse _=>false
  |_=>false
 |.own _ _,d=>match d with
  |.own _ none _ none=>true
  |_=>false
 |.ref _ _,d=>match d with
  |.ref _ _=>true
  |_=>false
 |.mp _,d=>match d with
  |.mp _=>true
  |_=>false
 |.rw _,d=>match d with
  |.rw _=>true
  |_=>false
 |.agg l,d=>match d with
  |.agg ds=>Sh.exDs l ds
  |_=>false
 |.arr _ _ l,d=>match d with
  |.arr _ _ ds=>Sh.exDs l ds
  |_=>false
 |.ptr0,_=>true
 |.fn0,_=>true
 |.if0,_=>true
 |.map0,_=>true
 |_,_=>false
def Sh.exDs:List Sh→List TD→Bool
 |[],[]=>true
 |s::r,d::q=>Sh.exD s d&&Sh.exDs r q
 |_,_=>false
end
theorem ZLd{L:Lk}{t:Ty}{d:TD}{q:TD×List TV}(h:Sh.exD (.v t) d=true)(k:Sh.mt L (.v t) d=some q):q.1=d:=by
 unfold Sh.exD at h;split at h
 ·rename_i u y;split at h
  ·rename_i e _;subst e;unfold Sh.mt TD.toT TP.to at k;dsimp only at k;rw[Y5,yab] at k;cases k;rfl
  ·cases h
 ·cases h
theorem ZIV{L:Lk}{j:Nat}{t:Ty}{d:TD}{q:TD×List TV}(h:Sh.exD (.own j t) d=true)(k:Sh.mt L (.own j t) d=some q):q.1=d:=by
 unfold Sh.exD at h;split at h
 ·unfold Sh.mt at k;dsimp only at k;split at k
  ·rename_i e;obtain⟨rfl,rfl⟩:=e;cases k;rfl
  ·cases k
 ·cases h
theorem ZIW{L:Lk}{j:Nat}{p:List Stp}{d:TD}{q:TD×List TV}(h:Sh.exD (.ref j p) d=true)(k:Sh.mt L (.ref j p) d=some q):q.1=d:=by
 unfold Sh.exD at h;split at h
 ·unfold Sh.mt at k;dsimp only at k;split at k
  ·rename_i e;obtain⟨rfl,e2⟩:=e;have:=Zfo e2;subst this;cases k;rfl
  ·cases k
 ·cases h
theorem ZJ5{L:Lk}{j:Nat}{d:TD}{q:TD×List TV}(h:Sh.exD (.mp j) d=true)(k:Sh.mt L (.mp j) d=some q):q.1=d:=by
 unfold Sh.exD at h;split at h
 ·unfold Sh.mt at k;dsimp only at k;split at k
  ·rename_i e;subst e;cases k;rfl
  ·cases k
 ·cases h
theorem ZJ6{L:Lk}{j:Nat}{d:TD}{q:TD×List TV}(h:Sh.exD (.rw j) d=true)(k:Sh.mt L (.rw j) d=some q):q.1=d:=by
 unfold Sh.exD at h;split at h
 ·unfold Sh.mt at k;dsimp only at k;split at k
  ·rename_i e;subst e;cases k;rfl
  ·cases k
 ·cases h
mutual
theorem ZH1{L:Lk}:∀(s:Sh)(d:TD)(q:TD×List TV),Sh.exD s d=true→Sh.mt L s d=some q→q.1=d
 |.v t,d,q,h,k=>ZLd h k
 |.own j t,d,q,h,k=>ZIV h k
 |.ref j p,d,q,h,k=>ZIW h k
 |.mp j,d,q,h,k=>ZJ5 h k
 |.rw j,d,q,h,k=>ZJ6 h k
 |.agg l,.agg ds,q,h,k=>by
  have k:(Sh.mts L l ds).map (λq=>(TD.agg q.1,q.2))=some q:=by unfold Sh.mt at k;exact k
  have h:Sh.exDs l ds=true:=by unfold Sh.exD at h;exact h
  obtain⟨w,k1,k2⟩:=Zb k;rw[←k2]
  exact congrArg TD.agg (exs_mts l ds w h k1)
 |.arr n s l,.arr m s2 ds,q,h,k=>by
  have k:(if m=n∧s2=s then(Sh.mts L l ds).map (λq=>(TD.arr n s q.1,q.2)) else none)=some q:=by unfold Sh.mt at k;exact k
  have h:Sh.exDs l ds=true:=by unfold Sh.exD at h;exact h
  split at k
  ·rename_i e;obtain⟨w,k1,k2⟩:=Zb k;rw[←k2,e.1,e.2];exact congrArg (TD.arr n s) (exs_mts l ds w h k1)
  ·cases k
 |.ptr0,d,q,h,k=>by
  unfold Sh.mt at k
  split at k <;> first|(cases k;rfl)|cases k
 |.fn0,d,q,h,k=>by
  unfold Sh.mt at k
  split at k <;> first|(cases k;rfl)|cases k
 |.if0,d,q,h,k=>by
  unfold Sh.mt at k
  split at k <;> first|(cases k;rfl)|cases k
 |.map0,d,q,h,k=>by
  unfold Sh.mt at k;split at k <;> first|(cases k;rfl)|cases k
theorem exs_mts{L:Lk}:∀(l:List Sh)(ds:List TD)(q:List TD×List TV),Sh.exDs l ds=true→Sh.mts L l ds=some q→q.1=ds
 |[],[],q,_,k=>by
  simp only[Sh.mts] at k;cases k
  rfl
 |[],_::_,_,h,_=>by cases h
 |_::_,[],_,h,_=>by cases h
 |s::r,d::ds,q,h,k=>by
  simp only[Sh.exDs,yj] at h;simp only[Sh.mts] at k;split at k
  ·rename_i a b k1 k2;cases k;rw[ZH1 s d a h.1 k1,exs_mts r ds b h.2 k2]
  ·cases k
end
def ESh.exE:ESh→TEnt→Bool
 |.var s st,.var d st'=>(st==st')&&s.exD d
 |.log t _,.log u _ _=>match Ty.dec u t with
  |isTrue _=>true
  |isFalse _=>false
 |.gone,.gone=>true
 |_,_=>false
theorem ZIX{L:Lk}{s:ESh}{d:TEnt}{q:TEnt×List TV}(h:s.exE d=true)(k:s.mt L d=some q):q.1=d:=by
 unfold ESh.exE at h;split at h
 ·simp only[yj,beq_iff_eq] at h;obtain⟨rfl,h⟩:=h;simp only[ESh.mt] at k;split at k
  ·obtain⟨w,k1,rfl⟩:=Zb k;show TEnt.var w.1 _=_;rw[ZH1 _ _ w h k1]
  ·cases k
 ·split at h
  ·rename_i e _;subst e;simp only[ESh.mt] at k;split at k
   ·rename_i e;subst e;obtain⟨w,k1,rfl⟩:=Zb k;obtain⟨e1,e2⟩:=ZE k1;cases e1;subst e2;rfl
   ·cases k
  ·cases h
 ·simp only[ESh.mt] at k;cases k;rfl
 ·cases h
def ESh.exs:List ESh→List TEnt→Bool
 |[],[]=>true
 |s::r,d::q=>s.exE d&&ESh.exs r q
 |_,_=>false
theorem Zyl{L:Lk}:∀{l:List ESh}{ds:List TEnt}{q:List TEnt×List TV},ESh.exs l ds=true→ESh.mts L l ds=some q→q.1=ds
 |[],[],q,_,k=>by
  simp only[ESh.mts] at k;cases k
  rfl
 |[],_::_,_,h,_=>by cases h
 |_::_,[],_,h,_=>by cases h
 |s::r,d::ds,q,h,k=>by
  simp only[ESh.exs,yj] at h;simp only[ESh.mts] at k;split at k
  ·rename_i a b k1 k2;cases k;rw[ZIX h.1 k1,Zyl h.2 k2]
  ·cases k
structure Rs(P:yg)where
 g:yv
 ps:List Sh
 es:List ESh
 ins:List Ty
 r:Sh
 t:List Ty
 M:Ty.dens ins→Option (Ty.dens t)
def Rs.Ok{P:yg}(s:Rs P):Prop:=
 ∀x o,s.M x=some o→∃args R H,Sh.fills s.ps (ofD s.ins x)=some (args,R)∧ESh.fills s.es R=some (H,[])∧
  ∀q,Sh.fill s.r (ofD s.t o)=some q→Con P s.g (TD.ers (lk H) args) (erH H) (q.1.er (lk H)) (erH H)
def AllRo{P:yg}:List (Rs P)→Prop
 |[]=>True
 |s::r=>s.Ok∧AllRo r
mutual
theorem Zrb{f g:Nat→Option Nat}(hfg:∀i j,f i=some j→g j=some i):∀(d d':Dv),d.rn f=some d'→d'.rn g=some d
 |.p x,d',h=>by cases h;rfl
 |.elem x,d',h=>by cases h;rfl
 |.ref id o p,d',h=>by
  simp only[Dv.rn,yq] at h;obtain⟨i,h1,rfl⟩:=h
  simp only[Dv.rn,hfg _ _ h1,yab]
 |.own id nn s xs,d',h=>by
  simp only[Dv.rn,yq] at h;obtain⟨i,h1,rfl⟩:=h
  simp only[Dv.rn,hfg _ _ h1,yab]
 |.view id o p s lo n,d',h=>by
  simp only[Dv.rn,yq] at h;obtain⟨i,h1,rfl⟩:=h
  simp only[Dv.rn,hfg _ _ h1,yab]
 |.agg xs,d',h=>by
  simp only[Dv.rn,yq] at h;obtain⟨i,h1,rfl⟩:=h
  simp only[Dv.rn,rns_back hfg _ _ h1,yab]
 |.arr n s xs,d',h=>by
  simp only[Dv.rn,yq] at h;obtain⟨i,h1,rfl⟩:=h
  simp only[Dv.rn,rns_back hfg _ _ h1,yab]
 |.fn k xs,d',h=>by
  simp only[Dv.rn,yq] at h;obtain⟨i,h1,rfl⟩:=h
  simp only[Dv.rn,rns_back hfg _ _ h1,yab]
 |.iface t x,d',h=>by
  simp only[Dv.rn,yq] at h;obtain⟨i,h1,rfl⟩:=h
  simp only[Dv.rn,Zrb hfg _ _ h1,yab]
 |.tup xs,d',h=>by
  simp only[Dv.rn,yq] at h;obtain⟨i,h1,rfl⟩:=h
  simp only[Dv.rn,rns_back hfg _ _ h1,yab]
 |.mp id,d',h=>by
  simp only[Dv.rn,yq] at h;obtain⟨i,h1,rfl⟩:=h
  simp only[Dv.rn,hfg _ _ h1,yab]
 |.rv id v s lo n,d',h=>by
  simp only[Dv.rn,yq] at h;obtain⟨i,h1,rfl⟩:=h
  simp only[Dv.rn,hfg _ _ h1,yab]
 |.rref id v o p,d',h=>by
  simp only[Dv.rn,yq] at h;obtain⟨i,h1,rfl⟩:=h
  simp only[Dv.rn,hfg _ _ h1,yab]
 |.junk,d',h=>by cases h;rfl
theorem rns_back{f g:Nat→Option Nat}(hfg:∀i j,f i=some j→g j=some i):∀(d d':List Dv),Dv.rns f d=some d'→Dv.rns g d'=some d
 |[],d',h=>by cases h;rfl
 |x::r,d',h=>by
  simp only[Dv.rns] at h;split at h
  ·rename_i y ys h1 h2;cases h;simp only[Dv.rns,Zrb hfg x y h1,rns_back hfg r ys h2]
  ·cases h
end
theorem ZEP{f g:Nat→Option Nat}(hfg:∀i j,f i=some j→g j=some i){e e':Ent}(h:e.rn f=some e'):e'.rn g=some e:=by
 cases e with
 |var d st=>
  simp only[Ent.rn,yq] at h;obtain⟨y,h1,rfl⟩:=h
  simp only[Ent.rn,Zrb hfg _ _ h1,yab]
 |row v s st t d=>
  simp only[Ent.rn,yq] at h;obtain⟨y,h1,rfl⟩:=h
  simp only[Ent.rn,Zrb hfg _ _ h1,yab]
 |log _ _ _=>cases h;rfl
 |map _ _=>cases h;rfl
 |gone=>cases h;rfl
theorem ZEQ{H:List Ent}{ids:List Nat}{Hin:List Ent}(ho:once ids=true)(h:subEnts H ids ids=some Hin):∃Hb,Ent.rns (fromIds ids H.length) Hin=some Hb∧putBack H ids Hb=H:=by
 have hfg:∀i j,toIds ids i=some j→fromIds ids H.length j=some i:=by
  intro i j e;have hj:=idxOf?_some e;unfold fromIds;rw[if_pos (yr.1 hj).1,hj]
 have key:∀(l:List Nat)(A:List Ent),subEnts H ids l=some A→∃B,Ent.rns (fromIds ids H.length) A=some B∧B.length=l.length∧∀(j id:Nat),l[j]? =some id→B[j]? =H[id]? ∧id < H.length:=by
  intro l
  induction l with
  |nil=>
   intro A hA;simp only[subEnts,yi] at hA;subst hA
   exact⟨[],rfl,rfl,λj id hj=>by simp at hj⟩
  |cons x r ih=>
   intro A hA;simp only[subEnts] at hA;split at hA
   ·rename_i e es h1 h2;cases hA;obtain⟨B,b1,b2,b3⟩:=ih es h2;obtain⟨e0,g1,g2⟩:=yf.1 h1;refine⟨e0::B, ?_,by simp[b2],λj id hj=> ?_⟩
    ·simp only[Ent.rns,ZEP hfg g2,b1]
    ·cases j with
     |zero=>
      simp only[yas,yi] at hj;subst hj
      exact⟨by rw[yas,g1],(yr.1 g1).1⟩
     |succ j=>exact b3 j id (by simpa using hj)
   ·cases hA
 obtain⟨Hb,b1,b2,b3⟩:=key ids Hin h
 have hlt:∀i,i∈ids→i < H.length:=λi hi=>by
  obtain⟨j,hj⟩:=List.getElem?_of_mem hi;exact(b3 j i hj).2
 refine⟨Hb,b1, ?_⟩;have hle:ids.length≤Hb.length:=by omega
 apply ybp;intro i;have hlen:(putBack H ids Hb).length=H.length:=by rw[Za7 _ _ _ hle];omega
 by_cases hi:i < H.length
 ·by_cases hm:i∈ids
  ·obtain⟨j,hj⟩:=List.getElem?_of_mem hm;rw[Zfj H ids Hb j i ho hle hlt hj,(b3 j i hj).1]
  ·exact VU H ids Hb i hle hi hm
 ·rw[yao (by omega),yao (by omega)]
structure Sp(P:yg)where
 l:List (Fs P):=[]
 hd:(O:Type)→yv→List TD→List TEnt→(TD→List TEnt→Option O)→Option O:=λ_ _ _ _ _=>none
 mt:List (yb×String×yv):=[]
 ro:List (Rs P):=[]
def HdOk(P:yg)(hd:(O:Type)→yv→List TD→List TEnt→(TD→List TEnt→Option O)→Option O):Prop:=
 ∀(O:Type)(g:yv)(args:List TD)(H:List TEnt)(K:TD→List TEnt→Option O)(out:O),hd O g args H K=some out→
  ∃r H',K r H'=some out∧Con P g (TD.ers (lk H) args) (erH H) (r.er (lk H')) (erH H')
def MtOk(P:yg):List (yb×String×yv)→Prop
 |[]=>True
 |q::r=>ZCn P q.1 q.2.1 q.2.2∧MtOk P r
def ZER:List (yb×String×yv)→yb→String→Option yv
 |[],_,_=>none
 |q::r,t,n=>if q.1=t then if q.2.1=n then some q.2.2 else ZER r t n else ZER r t n
theorem Zwt:∀{l:List (yb×String×yv)}{t:yb}{n:String}{g:yv},MtOk P l→ZER l t n=some g→ZCn P t n g
 |[],_,_,_,_,h=>by cases h
 |q::r,t,n,g,hk,h=>by
  unfold ZER at h;split at h
  ·rename_i e1;split at h
   ·rename_i e2;cases h;rw[←e1, ←e2];exact hk.1
   ·exact Zwt hk.2 h
  ·exact Zwt hk.2 h
structure SpOk(s:Sp P):Prop where
 l:AllOk s.l
 hd:HdOk P s.hd
 mt:MtOk P s.mt
 ro:AllRo s.ro
theorem ZBr:HdOk P (λ_ _ _ _ _=>none):=λ_ _ _ _ _ _ h=>by cases h
theorem okS{l:List (Fs P)}(h:AllOk l):SpOk ({ l:=l}:Sp P):=⟨h,ZBr,trivial,ytt⟩
theorem okR{l:List (Fs P)}{mt:List (yb×String×yv)}{ro:List (Rs P)}(h:AllOk l)(k:MtOk P mt)(r:AllRo ro):SpOk ({ l:=l,mt:=mt,ro:=ro}:Sp P):=⟨h,ZBr,k,r⟩
mutual
def TD.look:TD→List Nat
 |.ref id _=>[id]
 |.own id _ _ _=>[id]
 |.view id _ _ _ _=>[id]
 |.mp id=>[id]
 |.rv id _ _ _ _=>[id]
 |.rref id _ _=>[id]
 |.rw id=>[id]
 |.rp id _=>[id]
 |.agg xs=>TD.looks xs
 |.arr _ _ xs=>TD.looks xs
 |.fn _ xs=>TD.looks xs
 |.iface _ x=>TD.look x
 |.tup xs=>TD.looks xs
 |_=>[]
def TD.looks:List TD→List Nat
 |[]=>[]
 |x::r=>TD.look x++TD.looks r
end
def TEnt.look:TEnt→List Nat
 |.var d _=>d.look
 |.row _ _ _ _ d=>d.look
 |.rowM _ _ _ _ _ _ d _=>d.look
 |_=>[]
def ZpU(h:List TEnt):Nat→List Nat→List Nat→List Nat
 |0,_,got=>got
 |_+1,[],got=>got
 |k+1,id::r,got=>if got.contains id then ZpU h k r got else ZpU h k (((h[id]?).map TEnt.look).getD []++r) (id::got)
def inT(sp:Sp P)(g:yv)(all:List TD)(H:List TEnt)(K:Kn O)(args:List TD):Option O:=
 let ids:=ZpU H 100000 (TD.looks args) []
 if once ids then(TD.rns (toIds ids) (args.map (TD.argI (lk H) ids))).bind λa2=>(Wi H ids ids).bind λHin=>
  sp.hd O g a2 Hin λr Hn=>ZG8 all H K ids r Hn
 else none
def ZBs(g:yv)(all:List TD)(H:List TEnt)(K:Kn O)(args:List TD)(other:Option O):List (Rs P)→Option O
 |[]=>other
 |s::rest=>if s.g=g then(ZH0 H s.ps s.es args).bind λids=>(Wi H ids ids).bind λHin=>if(once ids&& !ids.isEmpty&&ESh.exs s.es Hin)=true then
   (TD.rns (toIds ids) (args.map (TD.argI (lk H) ids))).bind λa2=>(Sh.mts (lk Hin) s.ps a2).bind λq=>(ESh.mts (lk Hin) s.es Hin).bind λw=>(toD s.ins (q.2++w.2)).bind λx=>
     (s.M x).bind λy=>(Sh.fill s.r (ofD s.t y)).bind λq=>(q.1.rn λ_=>none).bind λr'=>K all r' H [.call (q.1.er (lk Hin)) (erH Hin) ids] 3
   else none
  else ZBs g all H K args other rest
def ZES(sp:Sp P)(g:yv)(all:List TD)(H:List TEnt)(K:Kn O)(args:List TD):Option O:=ZBs g all H K args (Zyk g all H K args (inT sp g all H K args) sp.l) sp.ro
structure CallOk(P:yg)(g:yv)(all args:List TD)(H:List TEnt)(a':List TD)(d:TD)(H':List TEnt)(hs:List Hint)(cls:Nat):Prop where
 same:TD.ers (lk H') a'=TD.ers (lk H) all
 len:a'.length=all.length
 op:∃(ids:List Nat)(Hin Hn Hb:List Ent)(az:List Dv)(r:Dv),once ids=true∧ids.length≤Hn.length∧subEnts (erH H) ids ids=some Hin∧
  Dv.rns (toIds ids) (TD.ers (lk H) (args.map (TD.argI (lk H) ids)))=some az∧Con P g az Hin r Hn∧r.rn (fromIds ids H.length)=some (d.er (lk H'))∧Ent.rns (fromIds ids H.length) Hn=some Hb∧
  erH H'=putBack (erH H) ids Hb∧hs=[.call r Hn ids]∧(cls=2∧¬(ids=[]∧Hn=[])∨(cls=3∧erH H'=erH H∧¬(ids=[]∧Hn=[]))∨cls=0∧ids=[]∧Hn=[]∧H'=H∧a'=all∧r=d.er (lk H')∧r.rn (λ_=>none)=some r)
theorem ZuJ{g:yv}{args:List TD}{ids:List Nat}{Hin:List TEnt}{az:List Dv}{r4:TD}{Hn:List TEnt}(honce:once ids=true)(p1:Wi H ids ids=some Hin)(p2:subEnts (erH H) ids ids=some (erH Hin))
 (p3:Dv.rns (toIds ids) (TD.ers (lk H) (args.map (TD.argI (lk H) ids)))=some az) (hcon':Con P g az (erH Hin) (r4.er (lk Hn)) (erH Hn)) (h9:ZG8 all H K ids r4 Hn=some out):
 ∃a d H' hs c,K a d H' hs c=some out∧CallOk P g all args H a d H' hs c:=by
 unfold ZG8 at h9;split at h9
 ·rename_i hem;rw[yj] at hem;have i1:ids=[]:=by simpa using hem.1
  have i2:Hn=[]:=by simpa using hem.2
  subst i1;subst i2;obtain⟨r',hr',h9⟩:=yf.1 h9;have f1:=Zfp (L:=lk []) (M:=lk H) (λid j t e=>by cases e) _ _ hr';have f2:=Zaz (f:=λ_=>none) _ _ f1;have f3:r4.er (lk [])=r'.er (lk H):=Option.some.inj (f2.symm.trans f1);have hin0:Hin=[]:=by cases p1;rfl
  subst hin0;refine⟨_,_,_,_,_,h9,rfl,rfl,[],[],[],[],az,r4.er (lk []),rfl,yn _,rfl,p3,hcon', ?_,rfl, ?_,rfl,.inr (.inr ⟨rfl,rfl,rfl,rfl,rfl,f3,f2⟩)⟩
  ·rw[←f3];exact Zaz _ _ f1
  ·rw[ZpI]
 rename_i hne;obtain⟨r',hr',h9⟩:=yf.1 h9;obtain⟨Hb,hHb,h9⟩:=yf.1 h9;obtain⟨hk,h9⟩:=Za h9;simp only[yj,decide_eq_true_eq] at hk;obtain⟨⟨k1,k2⟩,k3⟩:=hk;obtain⟨b1,b2⟩:=Zyi hHb;obtain⟨s1,s2⟩:=ZeC p1
 have hlt:∀i,i∈ids→i < H.length:=λi hi=>by
  obtain⟨j,hj⟩:=List.getElem?_of_mem hi;exact(s2 j i hj).1
 have hlo:Lo ids H.length (lk H) (lk (putBack (H.map (TEnt.lay (lk H) ids)) ids Hb)):=by
  intro id t hn hl;unfold Ya lk;dsimp only
  rw[VU _ _ _ id (by rw[b1];exact k1) (by rw[yz];exact hl) (λhm=>by
   rw[List.contains_eq_any_beq] at hn;simp at hn;exact hn id hm rfl),yal,ZG6]
 have hrc:Rc (fromIds ids H.length) (lk Hn) (lk (putBack (H.map (TEnt.lay (lk H) ids)) ids Hb)):=by
  intro j i t e
  have key:lk (putBack (H.map (TEnt.lay (lk H) ids)) ids Hb) i=lk Hn j:=by
   show lkE ((putBack (H.map (TEnt.lay (lk H) ids)) ids Hb)[i]?)=lkE (Hn[j]?);rw[←b2 j];unfold fromIds at e;split at e
   ·rw[Zfj _ _ _ j i honce (by rw[b1];exact k1) (λi hi=>by rw[yz];exact hlt i hi) e]
   ·rename_i hj;cases e;have:=Zgp (H.map (TEnt.lay (lk H) ids)) ids Hb j (by rw[b1];exact k1) (by omega);rw[yz] at this;rw[this]
  unfold Ya;rw[key]
 have e2:(putBack (H.map (TEnt.lay (lk H) ids)) ids Hb).map (TEnt.er (lk (putBack (H.map (TEnt.lay (lk H) ids)) ids Hb)))=putBack (erH H) ids (Hb.map (TEnt.er (lk (putBack (H.map (TEnt.lay (lk H) ids)) ids Hb)))):=by
  rw[ZpT,ybc];congr 1;refine ycj λe he=> ?_;exact ZG5 hlo (ybd.1 k3 e he)
 have f1:=Zfp hrc _ _ hr';have f2:=ZBp hrc _ _ hHb;refine⟨_,_,_,_,_,h9,ers_lay hlo all k2,Zyj all,ids,erH Hin,erH Hn,_,az,r4.er (lk Hn),honce,by rw[ZO];exact k1,p2,p3,hcon',f1,f2,e2,rfl,.inl ⟨rfl,λhh=>hne ?_⟩⟩;have i2:Hn=[]:=by have:=hh.2;unfold erH at this;simpa using this
 rw[i2,hh.1];rfl
theorem ZtO{args:List TD}{s:Fs P}{ids:List Nat}{x:Ty.dens s.ins}(ok:s.Ok)(hp:Zws s H args ids=some x)(h:Zsf s all H K args ids x=some out):
 ∃a d H' hs c,K a d H' hs c=some out∧CallOk P s.g all args H a d H' hs c:=by
 unfold Zsf at h;obtain⟨y,hM,h0⟩:=yf.1 h;obtain⟨e,vs,s',hsel,hfs,h9⟩:=Zra h0;clear h0 h;obtain⟨honce,Hin,a2,a3,H3,R,p1,p2,p3,p4,p5,p6,p7⟩:=ZG7 hp;obtain⟨args,R1,H4,q1,q2,hcon⟩:=ok x y hM;obtain⟨r4,hr4,hcon⟩:=hcon e vs s' hsel hfs;rw[hr4] at h9;dsimp only at h9;rw[p4] at q1;cases q1;rw[p5] at q2;cases q2;generalize s'.2=Hn at h9 hcon;exact ZuJ honce p1 p2 p3 (ZA1 hcon p6 p7) h9
theorem ZmP{g:yv}{args:List TD}{other:Option O}(ho:other=some out→∃a d H' hs c,K a d H' hs c=some out∧CallOk P g all args H a d H' hs c):∀{l:List (Fs P)},AllOk l→Zyk g all H K args other l=some out→
 ∃a d H' hs c,K a d H' hs c=some out∧CallOk P g all args H a d H' hs c
 |[],_,h=>ho h
 |s::r,ok,h=>by
  unfold Zyk at h;split at h
  ·rename_i hg;split at h
   ·rename_i q hq;obtain⟨ids,h1,hq⟩:=yf.1 hq;obtain⟨x,h2,rfl⟩:=Zb hq;exact hg ▸ ZtO ok.1 h2 h
   ·exact ZmP ho ok.2 h
  ·exact ZmP ho ok.2 h
theorem ZET{sp:Sp P}{g:yv}{args:List TD}(ok:SpOk sp)(h:inT sp g all H K args=some out):∃a d H' hs c,K a d H' hs c=some out∧CallOk P g all args H a d H' hs c:=by
 unfold inT at h;dsimp only at h;generalize ZpU H 100000 (TD.looks args) []=ids at h;obtain⟨ho,h⟩:=Za h;obtain⟨a2,h1,h⟩:=yf.1 h;obtain⟨Hin,h2,h⟩:=yf.1 h;obtain⟨r,Hn,h3,h4⟩:=ok.hd _ _ _ _ _ _ h;exact ZuJ ho h2 (Wd (Q6 h2) h2) (rns_er (Q6 h2) _ _ h1) h4 h3
theorem Zsg{g:yv}{args:List TD}{other:Option O}(ho:other=some out→∃a d H' hs c,K a d H' hs c=some out∧CallOk P g all args H a d H' hs c):∀{l:List (Rs P)},AllRo l→ZBs g all H K args other l=some out→
 ∃a d H' hs c,K a d H' hs c=some out∧CallOk P g all args H a d H' hs c
 |[],_,h=>ho h
 |s::r,ok,h=>by
  unfold ZBs at h;split at h
  ·rename_i hg;obtain⟨ids,_,h⟩:=yf.1 h;obtain⟨Hin,h2,h⟩:=yf.1 h;obtain⟨hk,h⟩:=Za h;simp only[yj,Bool.not_eq_true',List.isEmpty_eq_false_iff] at hk;obtain⟨⟨k1,k2⟩,k3⟩:=hk;obtain⟨a2,h3,h⟩:=yf.1 h;obtain⟨q,h4,h⟩:=yf.1 h;obtain⟨⟨w1,w2⟩,h5,h⟩:=yf.1 h;obtain⟨x,h6,h⟩:=yf.1 h;obtain⟨y,h7,h⟩:=yf.1 h;obtain⟨z,h8,h⟩:=yf.1 h;obtain⟨r',h9,h⟩:=yf.1 h;have hw:w1=Hin:=Zyl k3 h5;subst hw;obtain⟨az,R,H3,q1,q2,hcon⟩:=ok.1 x y h7;have e:=ZcK _ _ _ h6;rw[e,mts_fills _ _ _ h4 _] at q1;cases q1;have q3:=ZaD h5 [];rw[ybh] at q3;rw[q3] at q2;cases q2;have hcon:=hcon z h8;have p2:=Wd (Q6 h2) h2;have p3:=rns_er (Q6 h2) _ _ h3;have hcon:=ZA1 hcon (mts_wk (λ_ _=>rfl) _ _ _ h4) (WkH.refl _);have f1:=Zfp (f:=λ_=>none) (L:=lk w1) (M:=lk H) (λid j t e=>by cases e) _ _ h9;have f2:=Zaz (f:=λ_=>none) _ _ f1;have f3:z.1.er (lk w1)=r'.er (lk H):=Option.some.inj (f2.symm.trans f1);obtain⟨Hb,b1,b2⟩:=ZEQ k1 p2;have hlen:=(ZeC h2).1;refine⟨_,_,_,_,_,h,rfl,rfl,ids,erH w1,erH w1,Hb,TD.ers (lk w1) a2,z.1.er (lk w1),k1,by rw[ZO];omega,p2,p3,hg ▸ hcon, ?_,by rw[←ZO H];exact b1,b2.symm,rfl,.inr (.inl ⟨rfl,rfl,λhh=>k2 hh.1⟩)⟩;rw[←f3];exact Zaz _ _ f1
  ·exact Zsg ho ok.2 h
theorem Zym{sp:Sp P}{g:yv}{args:List TD}(ok:SpOk sp)(h:ZES sp g all H K args=some out):∃a d H' hs c,K a d H' hs c=some out∧CallOk P g all args H a d H' hs c:=
 Zsg (λh=>ZmP (λh=>ZET ok h) ok.l h) ok.ro h
theorem ZCY{c:Call}{f:yo}{g:yv}{cap az:List TD}{a:List TD}{d:TD}{H':List TEnt}{hs:List Hint}{cls:Nat}(ho:o.op=.call c)(hc:c.callee=.value f)(hf:arT P ts 0 f=some (.fn g cap))
 (hb:(Zcj P (Zh5 g)&&c.args.size==c.argTypes.size)=true) (ha:Zse P ts c.args.toList c.argTypes.toList=some az) (h:CallOk P (Zh5 g) all (if g < big then az++cap else cap++az) H a d H' hs cls):Good P o ts all H a d H' hs cls:=by
 have hfv:=Zw (L:=lk H) hf;obtain⟨ids,Hin,Hn,Hb,az',r,honce,hle,p2,p3,hcon,f1,f2,e2,rfl,hcl⟩:=h.op
 have ea:Xh P ids (TD.ers (lk H) ts) c g (TD.ers (lk H) cap)=TD.ers (lk H) ((if g < big then az++cap else cap++az).map (TD.argI (lk H) ids)):=by
  unfold Xh;split
  ·rw[ZnI ids ha,ZBq,yax,ZN,ZN,ZN,yax]
  ·rw[ZnI ids ha,ZBq,yax,ZN,ZN,ZN,yax]
 have ge:¬(ids=[]∧Hn=[])→GoodE P o ts H d H' [.call r Hn ids]:=λhne=>by
  refine⟨λrest=> ?_,λrest=> ?_,[Con P (Zh5 g) az' Hin r Hn],⟨hcon,ytt⟩,λrest=> ?_⟩
  ·unfold evN;rw[ho];dsimp only;rw[hc];dsimp only;rw[hfv];dsimp only[TD.er];rw[yaa,yx];split
   ·rename_i e1 e2;exfalso;simp only[List.cons.injEq,Hint.call.injEq] at e2;exact hne ⟨e2.1.2.2,e2.1.2.1⟩
   ·rename_i e2;cases e2
   ·rfl
  ·unfold evR;rw[ho];dsimp only;rw[hc]
  ·unfold evE;rw[ho];dsimp only;rw[hc];dsimp only;rw[hfv];dsimp only[TD.er];rw[yaa,yx];dsimp only;rw[if_pos (by simp only[yj,decide_eq_true_eq] at hb ⊢;exact⟨⟨hb,honce⟩,hle⟩)];rw[ea,p3,p2,ZO,f1,f2];dsimp only;rw[e2]
 rcases hcl with⟨rfl,hne⟩|⟨rfl,hsm,hne⟩|⟨rfl,rfl,rfl,rfl,rfl,rfl,hrn⟩
 ·exact⟨h.same,h.len,or3 ⟨rfl,ge hne⟩⟩
 ·exact⟨h.same,h.len,.inr (.inr (.inr ⟨rfl,hsm,ge hne⟩))⟩
 ·refine⟨h.same,h.len,.inl ⟨rfl,rfl,[Con P (Zh5 g) az' [] (d.er (lk H')) []],⟨?_,ytt⟩,λrest=> ?_⟩⟩
  ·cases p2;exact hcon
  ·unfold evN;rw[ho];dsimp only;rw[hc];dsimp only;rw[hfv];dsimp only[TD.er];rw[yaa,yx];dsimp only;rw[if_pos hb,ea, ←ZmE,p3,ZmE,hrn]
theorem ZCZ{c:Call}{recv:yo}{name:String}{t:yb}{x:TD}{g:yv}{az:List TD}{a:List TD}{d:TD}{H':List TEnt}{hs:List Hint}{cls:Nat}(ho:o.op=.call c)(hc:c.callee=.invoke recv name)(hf:arT P ts 0 recv=some (.iface t x))
 (hm:ZCn P t name g) (hb:(Zcj P g&&c.args.size==c.argTypes.size)=true) (ha:Zse P ts c.args.toList c.argTypes.toList=some az) (h:CallOk P g all (x::az) H a d H' hs cls):Good P o ts all H a d H' (.meth g::hs) 2:=by
 have hfv:=Zw (L:=lk H) hf;obtain⟨ids,Hin,Hn,Hb,az',r,honce,hle,p2,p3,hcon,f1,f2,e2,rfl,hcl⟩:=h.op
 have ea:(x.er (lk H)).argI ids::Xh P ids (TD.ers (lk H) ts) c 0 []=TD.ers (lk H) ((x::az).map (TD.argI (lk H) ids)):=by
  unfold Xh;rw[if_pos (by decide),ZnI ids ha,List.map_nil,ybh,yaf,TD.ers,Zwr]
 refine⟨h.same,h.len,or3 (⟨rfl,λrest=> ?_,λrest=> ?_,[ZCn P t name g,Con P g az' Hin r Hn],⟨hm,hcon,ytt⟩,λrest=> ?_⟩)⟩
 ·unfold evN;rw[ho];dsimp only;rw[hc]
 ·unfold evR;rw[ho];dsimp only;rw[hc]
 ·unfold evE;rw[ho];dsimp only;rw[hc];dsimp only;rw[hfv];dsimp only[TD.er];rw[yaa,yaa,yx];dsimp only;rw[if_pos (by simp only[yj,decide_eq_true_eq] at hb ⊢;exact⟨⟨hb,honce⟩,hle⟩)];rw[ea,p3,p2,ZO,f1,f2];dsimp only;rw[e2]
end
end Go.Ev
end
section
namespace Go.Ev
section
variable{P:yg}{o:Oper}{ts all:List TD}{H:List TEnt}{O:Type}{K:Kn O}{out:O}
def TD.isView:TD→Bool
 |.view _ _ _ _ _=>true
 |_=>false
def TD.isNilSl:TD→Bool
 |.p (.sl (some false) _ [])=>true
 |_=>false
def TD.isRef:TD→Bool
 |.ref _ _=>true
 |_=>false
def TD.isRref:TD→Bool
 |.rref _ _ _=>true
 |_=>false
def TD.isRv:TD→Bool
 |.rv _ _ _ _ _=>true
 |_=>false
def ZG9(a:TD)(lo hi:Option Int):Bool:=
 match a with
 |.rv _ _ _ _ n=> !Za2 n lo hi
 |_=>false
def TD.isOwn:TD→Bool
 |.own _ _ _ _=>true
 |_=>false
def TD.isMp:TD→Bool
 |.mp _=>true
 |_=>false
def ZnJ(l:List Tmp):Option Tmp→Bool
 |some t=>l.contains t
 |none=>false
def Zj4(P:yg)(o:Oper)(ts all:List TD)(H:List TEnt)(K:Kn O):Option O:=opN (lk H) P o ts λd hs=>K all d H hs 0
theorem W3(h:Zj4 P o ts all H K=some out):∃a d H' hs c,K a d H' hs c=some out∧Good P o ts all H a d H' hs c:=by
 obtain⟨d,hs,h1,h2⟩:=ZEy h;exact⟨_,_,_,_,_,h1,rfl,rfl,.inl ⟨rfl,rfl,h2⟩⟩
def ZBt(P:yg)(hi:HI)(o:Oper)(x:yo)(asg:Bool)(ts all:List TD)(H:List TEnt)(K:Kn O):Option O:=
 match o.dst,arT P ts o.type x with
 |some t,some d=>if hi.still.contains t&&(d.isView || d.isRv) then Zwh t all H K d else if hi.still.contains t&&d.isRw then Zwm t all H K d else if asg&&(hi.rowt.contains t&&d.isNilSl) then Zwo P o.type t all H K d else if asg&&(hi.own.contains t&&d.isNilSl) then ZzT P o.type t all H K d else Zj4 P o ts all H K
 |_,_=>Zj4 P o ts all H K
def TD.numI(d:TD):Option Num:=
 match d.num with
 |some a=>if a.k=.i64 then some a else none
 |none=>none
def opT(P:yg)(hi:HI)(specs:Sp P)(o:Oper)(ts all:List TD)(H:List TEnt)(K:Kn O):Option O:=
 match o.op with
 |.move x=>ZBt P hi o x false ts all H K
 |.assign x=>ZBt P hi o x true ts all H K
 |.slice t x lo h none=>if ZnJ hi.frz o.dst then(arT P ts t x).bind λa=>(Zge P ts lo).bind λl=>(Zge P ts h).bind λr=>ZIO P t l r all H K a
  else(arT P ts t x).bind λa=>(Zge P ts lo).bind λl=>(Zge P ts h).bind λr=>if(ZnJ hi.rowt o.dst&&a.isRw)=true then Zsb P t l r all H K a else if ZG9 a l r=true then ZzR P t l r all H K a else Zj4 P o ts all H K
 |.load t x=>(arT P ts 0 x).bind λd=>if d.isRef || d.isRref then ZEB P t all H K d else if d.isRp then Zz2 P t all H K d else Zj4 P o ts all H K
 |.lookup t x ix ok=>(arT P ts t x).bind λd=>Zv2 P t all H ok K (λkt=>arT P ts kt ix) d
 |.makeMap t none=>Zr7 P t all H K
 |.makeSlice t l c=>((arT P ts 0 l).bind TD.numI).bind λn=>((arT P ts 0 c).bind TD.numI).bind λn'=>if ZnJ hi.rowt o.dst then Zz5 P t n.n n'.n all H K else ZmM P t (ZnJ hi.own o.dst) (ZnJ hi.row o.dst) n.n n'.n all H K
 |.mapUpdate t x k v=>(arT P ts t x).bind λd=>Zv6 P t all H K (λkt=>arT P ts kt k) (λet=>arT P ts et v) d
 |.alloc t=>ZzU P hi o.dst t all H K
 |.box t x=>(arT P ts t x).bind (ZIN hi o.dst all H K)
 |.store t x y=>(arT P ts 0 x).bind λa=>(arT P ts t y).bind λv=>if a.isRp then Zwk P t all H K v a else ZzV P (ZJ2 hi x) t all H K v a
 |.buildSlice t len parts=>if ZnJ hi.rowt o.dst then(match (o.dst.bind λd=>hi.rew.lookup d).bind λs=>all[s]? with
  |some (.rw id)=>Zz4 P ts t len parts.toList id all H K
  |_=>ZEJ P ts t len parts.toList all H K) else if ZnJ hi.row o.dst then(if ZJ3 P ts t (lk H) parts.toList=true then Zwb P ts t len parts.toList all H K else Zr9 P ts t len parts.toList all H K) else if ZnJ hi.own o.dst then Zwd P ts t len parts.toList all H K else Zj4 P o ts all H K
 |.indexAddr t x ix=>(arT P ts t x).bind λa=>if a.isRw then(arT P ts 0 ix).bind λb=>b.inner.bind λip=>(ZvP ip).bind λq=>Zwi P t q.2 all H K a else Zj4 P o ts all H K
 |.call c=>match c.callee with
  |.builtin .len=>match c.args.toList,c.argTypes.toList with
   |[x],[t]=>(arT P ts t x).bind λd=>if d.isMp then Zv4 P t all H K d else if d.isRw then ZEI P t all H K d else Zj4 P o ts all H K
   |_,_=>none
  |.builtin .append=>match c.args.toList,c.argTypes.toList with
   |[x,y],[t,u]=>(arT P ts t x).bind λa=>(arT P ts u y).bind λb=>if a.isRw || (a.isNilSl&&ZnJ hi.rowt o.dst) then Zsa P true t u all H K b a else if a.isOwn || a.isRv || (a.isNilSl&&(ZnJ hi.own o.dst || ZnJ hi.row o.dst)) then Zwf P (ZnJ hi.own o.dst) (ZnJ hi.row o.dst) t u all H K b (if hi.eqs=true then ZzX H a else a) else Zj4 P o ts all H K
   |_,_=>none
  |.builtin .copy=>match c.args.toList,c.argTypes.toList with
   |[x,y],[t,u]=>(arT P ts t x).bind λa=>(arT P ts u y).bind λb=>ZEH P t u all H K b a
   |_,_=>none
  |.builtin .clear=>match c.args.toList,c.argTypes.toList with
   |[x],[t]=>(arT P ts t x).bind λa=>ZzY P t all H K a
   |_,_=>none
  |.builtin .delete=>match c.args.toList,c.argTypes.toList with
   |[x,y],[t,u]=>(arT P ts t x).bind λa=>Zv8 P t all H K (arT P ts u y) a
   |_,_=>none
  |.value f=>match arT P ts 0 f with
   |some (.fn g cap)=>if(Zcj P (Zh5 g)&&c.args.size==c.argTypes.size)=true then(Zse P ts c.args.toList c.argTypes.toList).bind λaz=>ZES specs (Zh5 g) all H K (if g < big then az++cap else cap++az) else Zj4 P o ts all H K
   |_=>none
  |.invoke recv name=>match arT P ts 0 recv with
   |some (.iface t x)=>(ZER specs.mt t name).bind λg=>if(Zcj P g&&c.args.size==c.argTypes.size)=true then(Zse P ts c.args.toList c.argTypes.toList).bind λaz=>ZES specs g all H (λa d H' hs _=>K a d H' (.meth g::hs) 2) (x::az) else none
   |_=>none
  |_=>none
 |_=>Zj4 P o ts all H K
theorem ZaU{d:TD}{n:Num}(h:d.numI=some n):d.num=some n∧n.k=.i64:=by
 unfold TD.numI at h;split at h
 ·rename_i a hn;split at h
  ·rename_i e;cases h;exact⟨hn,e⟩
  ·cases h
 ·cases h
theorem Zsh{hi:HI}{x:yo}{asg:Bool}(ho:if asg=true then o.op=.assign x else o.op=.move x)(h:ZBt P hi o x asg ts all H K=some out):∃a d H' hs c,K a d H' hs c=some out∧Good P o ts all H a d H' hs c:=by
 unfold ZBt at h;split at h
 ·rename_i t d hd hx;split at h
  ·refine Zyc (x:=x) ?_ hd hx h;cases asg
   ·exact .inr ho
   ·exact .inl ho
  split at h
  ·refine Zwn (x:=x) ?_ hd hx h;cases asg
   ·exact .inr ho
   ·exact .inl ho
  split at h
  ·rename_i ha;rw[yj] at ha;rw[if_pos ha.1] at ho;exact Zwp ho hd hx h
  ·split at h
   ·rename_i ha;rw[yj] at ha;rw[if_pos ha.1] at ho;exact Zx5 ho hd hx h
   ·exact W3 h
 ·exact W3 h
theorem Zsi{hi:HI}{specs:Sp P}(ok:SpOk specs)(h:opT P hi specs o ts all H K=some out):∃a d H' hs c,K a d H' hs c=some out∧Good P o ts all H a d H' hs c:=by
 unfold opT at h;split at h
 ·rename_i x ho;exact Zsh (asg:=false) ho h
 ·rename_i x ho;exact Zsh (asg:=true) ho h
 ·rename_i t x lo hi' ho;split at h
  ·obtain⟨a,h1,h⟩:=yf.1 h;obtain⟨l,h2,h⟩:=yf.1 h;obtain⟨r,h3,h⟩:=yf.1 h;exact ZCX ho h1 h2 h3 h
  ·obtain⟨a,h1,h⟩:=yf.1 h;obtain⟨l,h2,h⟩:=yf.1 h;obtain⟨r,h3,h⟩:=yf.1 h;split at h
   ·exact ZtN ho h1 h2 h3 h
   split at h
   ·exact Zx3 ho h1 h2 h3 h
   ·exact W3 h
 ·rename_i t x ho;obtain⟨d,h1,h⟩:=yf.1 h;split at h
  ·exact ZzQ ho h1 h
  split at h
  ·exact Zyd ho h1 h
  ·exact W3 h
 ·rename_i t x ix okk ho;obtain⟨d,h1,h⟩:=yf.1 h;exact Zv3 ho h1 h
 ·rename_i t ho;exact ZtK ho h
 ·rename_i t l c ho;obtain⟨n,h1,h⟩:=yf.1 h;obtain⟨n',h2,h⟩:=yf.1 h;obtain⟨d1,g1,g2⟩:=yf.1 h1;obtain⟨d2,g3,g4⟩:=yf.1 h2;split at h
  ·exact Zyg ho (by rw[g1];exact(ZaU g2).1) (by rw[g3];exact(ZaU g4).1) (ZaU g2).2 (ZaU g4).2 h
  exact ZqC ho (by rw[g1];exact(ZaU g2).1) (by rw[g3];exact(ZaU g4).1) (ZaU g2).2 (ZaU g4).2 h
 ·rename_i t x k v ho;obtain⟨d,h1,h⟩:=yf.1 h;exact Zv7 ho h1 h
 ·rename_i t ho;exact Zx7 ho h
 ·rename_i t x ho;obtain⟨d,h1,h⟩:=yf.1 h;exact ZCV ho h1 h
 ·rename_i t x y ho;obtain⟨a,h1,h⟩:=yf.1 h;obtain⟨v,h2,h⟩:=yf.1 h;split at h
  ·exact Zwl ho h1 h2 h
  ·exact Zx8 ho h1 h2 h
 ·rename_i t len parts ho;split at h
  ·split at h
   ·exact Zyf ho h
   ·exact Zz3 ho h
  split at h
  ·split at h
   ·exact Zwc ho h
   ·exact ZtL ho h
  split at h
  ·exact Zwe ho h
  ·exact W3 h
 ·rename_i t x ix ho;obtain⟨a,h1,h⟩:=yf.1 h;split at h
  ·obtain⟨b,h2,h⟩:=yf.1 h;obtain⟨ip,h3,h⟩:=yf.1 h;obtain⟨q,h4,h⟩:=yf.1 h;rw[Xi h3] at h2;exact Zwj ho h1 h2 h4 h
  ·exact W3 h
 ·rename_i c ho;split at h
  ·rename_i hc;split at h
   ·rename_i x t ha ht;obtain⟨d,h1,h⟩:=yf.1 h;split at h
    ·exact Zv5 ho hc ha ht h1 h
    split at h
    ·exact Zz1 ho hc ha ht h1 h
    ·exact W3 h
   ·cases h
  ·rename_i hc;split at h
   ·rename_i x y t u ha ht;obtain⟨a,h1,h⟩:=yf.1 h;obtain⟨b,h2,h⟩:=yf.1 h;split at h
    ·exact ZtM ho hc ha ht (Zw h1) h2 h
    split at h
    ·refine Zwg ho hc ha ht ?_ h2 h;split
     ·rw[ZCW];exact Zw h1
     ·exact Zw h1
    ·exact W3 h
   ·cases h
  ·rename_i hc;split at h
   ·rename_i x y t u ha ht;obtain⟨a,h1,h⟩:=yf.1 h;obtain⟨b,h2,h⟩:=yf.1 h;exact ZzZ ho hc ha ht h1 h2 h
   ·cases h
  ·rename_i hc;split at h
   ·rename_i x t ha ht;obtain⟨a,h1,h⟩:=yf.1 h;exact Zya ho hc ha ht h1 h
   ·cases h
  ·rename_i hc;split at h
   ·rename_i x y t u ha ht;obtain⟨a,h1,h⟩:=yf.1 h;exact Zv9 ho hc ha ht h1 h
   ·cases h
  ·rename_i f hc;split at h
   ·rename_i g cap hf;split at h
    ·rename_i hb;obtain⟨az,h1,h⟩:=yf.1 h;obtain⟨a,d,H',hs,cc,k1,k2⟩:=Zym ok h;exact⟨a,d,H',hs,cc,k1,ZCY ho hc hf hb h1 k2⟩
    ·exact W3 h
   ·cases h
  ·rename_i recv name hc;split at h
   ·rename_i t x hf;obtain⟨g,hg,h⟩:=yf.1 h;obtain⟨hb,h⟩:=Za h;obtain⟨az,h1,h⟩:=yf.1 h;obtain⟨a,d,H',hs,cc,k1,k2⟩:=Zym ok h;exact⟨a,d,H',_,_,k1,ZCZ ho hc hf (Zwt ok.mt hg) hb h1 k2⟩
   ·cases h
  ·cases h
 ·exact W3 h
def Zz7(ops:Array Oper)(j:Nat):Option Tmp:=(ops[j]?).bind (·.dst)
def ZtP(b:Bool):TD:=.p (.v .bool b)
def ZEU:TD→Bool
 |.tup []=>true
 |_=>false
def gT(P:yg)(hi:HI)(specs:Sp P)(ops:Array Oper)(o:Oper)(ts all:List TD)(H:List TEnt)(K:Kn O):Option O:=
 match o.guard with
 |none=>opT P hi specs o ts all H K
 |some (j,want)=>(Zz7 ops j).bind λt=>match (ts.getD t .junk).boolT with
  |some b=>
   if b=true then
    if true=want then opT P hi specs o (ts.set t (ZtP true)) (all.set t (ZtP true)) H λa d H' hs c=>K a d H' (.b true::hs) c
    else K (all.set t (ZtP true)) (.tup []) H [.b true] 0
   else
    if false=want then opT P hi specs o (ts.set t (ZtP false)) (all.set t (ZtP false)) H λa d H' hs c=>K a d H' (.b false::hs) c
    else K (all.set t (ZtP false)) (.tup []) H [.b false] 0
  |none=>if ZEU (ts.getD t .junk) then K all (.tup []) H [.raw] 0 else none
structure GoodG(P:yg)(ops:Array Oper)(o:Oper)(ts all:List TD)(H:List TEnt)(all':List TD)(d:TD)(H':List TEnt)(hs:List Hint)(cls:Nat):Prop where
 same:TD.ers (lk H') all'=TD.ers (lk H) all
 len:all'.length=all.length
 op:∃C,AllP C∧∀rest,evG P ops o (TD.ers (lk H) ts) (erH H) (hs++rest)=some (C,d.er (lk H'),erH H',rest)
 sam:cls=3→erH H'=erH H
 cls:∀rest,clsOf P o (TD.ers (lk H) ts) (erH H) (hs++rest)≤cls
theorem Zwu{d:TD}{a:List TD}{H':List TEnt}{hs:List Hint}{c:Nat}(h:Good P o ts all H a d H' hs c):∃C,AllP C∧(∀rest,Zh6 P o (TD.ers (lk H) ts) (erH H) (hs++rest)=some (C,d.er (lk H'),erH H',rest))∧
 ∀rest,(if(evN P o (TD.ers (lk H) ts) (hs++rest)).isSome then 0 else if(evR P o (TD.ers (lk H) ts) (erH H) (hs++rest)).isSome then 1 else 2)≤c:=by
 rcases h.op with⟨rfl,rfl,C,h1,h2⟩|⟨rfl,rfl,h0,C,h1,h2⟩|⟨rfl,h0,h00,C,h1,h2⟩|⟨rfl,_,h0,h00,C,h1,h2⟩
 ·exact⟨C,h1,λrest=>by unfold Zh6;rw[h2 rest],λrest=>by rw[h2 rest];simp⟩
 ·exact⟨C,h1,λrest=>by unfold Zh6;rw[h0 rest];dsimp only;rw[h2 rest],λrest=>by rw[h0 rest,h2 rest];simp⟩
 ·exact⟨C,h1,λrest=>by unfold Zh6;rw[h0 rest];dsimp only;rw[h00 rest];exact h2 rest,λrest=>by rw[h0 rest,h00 rest];simp⟩
 ·exact⟨C,h1,λrest=>by unfold Zh6;rw[h0 rest];dsimp only;rw[h00 rest];exact h2 rest,λrest=>by rw[h0 rest,h00 rest];simp⟩
theorem Zsj{d:TD}{a:List TD}{H':List TEnt}{hs:List Hint}{c:Nat}(h:Good P o ts all H a d H' hs c)(hc:c=3):erH H'=erH H:=by
 subst hc;rcases h.op with⟨e,_⟩|⟨e,_⟩|⟨e,_⟩|⟨_,e,_⟩
 ·cases e
 ·cases e
 ·cases e
 ·exact e
theorem Zyn{l:List TD}{t:Nat}{b:Bool}(h:(l.getD t .junk).boolT=some b):l.getD t .junk=ZtP b:=by
 unfold TD.boolT at h;split at h
 ·rename_i x hx;unfold TP.boolB at h;split at h
  ·cases h;exact hx
  ·cases h
 ·cases h
theorem set_same{l:List TD}{t:Nat}{d:TD}(h:l.getD t .junk=d):(l.set t d)=l:=by
 apply ybp;intro i;rw[ybw];split
 ·rename_i e;subst e;split
  ·rename_i hl;rw[←h,ycx,yac hl];rfl
  ·rename_i hl;rw[yao (by omega)]
 ·rfl
theorem ZBu{hi:HI}{specs:Sp P}{ops:Array Oper}(ok:SpOk specs)(hg:∀j want t,o.guard=some (j,want)→Zz7 ops j=some t→ts.getD t .junk=all.getD t .junk)(h:gT P hi specs ops o ts all H K=some out):
 ∃a d H' hs c,K a d H' hs c=some out∧GoodG P ops o ts all H a d H' hs c:=by
 unfold gT at h;split at h
 ·rename_i hgd;obtain⟨a,d,H',hs,c,h1,h2⟩:=Zsi ok h;obtain⟨C,g1,g2,g3⟩:=Zwu h2;refine⟨a,d,H',hs,c,h1,h2.same,h2.len,⟨C++[],Zj.2 ⟨g1,ytt⟩,λrest=> ?_⟩,Zsj h2,λrest=> ?_⟩
  ·unfold evG;rw[hgd];dsimp only;rw[g2 rest];rfl
  ·unfold clsOf;rw[hgd];exact g3 rest
 ·rename_i j want hgd;obtain⟨t,ht,h9⟩:=yf.1 h;clear h;have eall:=hg j want t hgd ht
  have eslot:((ops[j]?).bind (·.dst)).map (λt=>(TD.ers (lk H) ts).getD t .junk)=some ((ts.getD t .junk).er (lk H)):=by
   rw[show(ops[j]?).bind (·.dst)=some t from ht,yab,Znu]
  split at h9
  ·rename_i b hb;have e1:=Zyn hb;have e2:all.getD t .junk=ZtP b:=by rw[←eall];exact e1
   have e3:(ts.getD t .junk).er (lk H)=.p (.bool b):=Zhx hb;split at h9
   ·rename_i hbt;subst hbt;rw[set_same e1,set_same e2] at h9;split at h9
    ·rename_i hw;subst hw;obtain⟨a,d,H',hs,c,h1,h2⟩:=Zsi ok h9;obtain⟨C,g1,g2,g3⟩:=Zwu h2;refine⟨a,d,H',_,c,h1,h2.same,h2.len,⟨(true=true)::C++[],Zj.2 ⟨⟨rfl,g1⟩,ytt⟩,λrest=> ?_⟩,Zsj h2,λrest=> ?_⟩
     ·unfold evG;rw[hgd];dsimp only;rw[eslot,e3];simp only[yaa,if_true,g2 rest];rfl
     ·unfold clsOf;rw[hgd];simp only[yaa,if_true];exact g3 rest
    ·rename_i hw;refine⟨_,_,_,_,_,h9,rfl,rfl,⟨[true=true],⟨rfl,ytt⟩,λrest=> ?_⟩,λ_=>rfl,λrest=> ?_⟩
     ·unfold evG;rw[hgd];dsimp only;rw[eslot,e3];simp only[yaa,yx,if_neg hw];rfl
     ·unfold clsOf;rw[hgd];simp only[yaa,if_neg hw];exact yn _
   ·rename_i hbt;have hbt:b=false:=by simpa using hbt
    subst hbt;rw[set_same e1,set_same e2] at h9;split at h9
    ·rename_i hw;subst hw;obtain⟨a,d,H',hs,c,h1,h2⟩:=Zsi ok h9;obtain⟨C,g1,g2,g3⟩:=Zwu h2;refine⟨a,d,H',_,c,h1,h2.same,h2.len,⟨(false=false)::C++[],Zj.2 ⟨⟨rfl,g1⟩,ytt⟩,λrest=> ?_⟩,Zsj h2,λrest=> ?_⟩
     ·unfold evG;rw[hgd];dsimp only;rw[eslot,e3];simp only[yaa,if_true,g2 rest];rfl
     ·unfold clsOf;rw[hgd];simp only[yaa,if_true];exact g3 rest
    ·rename_i hw;refine⟨_,_,_,_,_,h9,rfl,rfl,⟨[false=false],⟨rfl,ytt⟩,λrest=> ?_⟩,λ_=>rfl,λrest=> ?_⟩
     ·unfold evG;rw[hgd];dsimp only;rw[eslot,e3];simp only[yaa,yx,if_neg hw];rfl
     ·unfold clsOf;rw[hgd];simp only[yaa,if_neg hw];exact yn _
  ·obtain⟨h1,h9⟩:=Za h9
   have e3:(ts.getD t .junk).er (lk H)=.tup []:=by
    unfold ZEU at h1;split at h1
    ·rename_i hx;rw[hx];rfl
    ·cases h1
   refine⟨_,_,_,_,_,h9,rfl,rfl,⟨[],trivial,λrest=> ?_⟩,λ_=>rfl,λrest=> ?_⟩
   ·unfold evG;rw[hgd];dsimp only;rw[eslot,e3];rfl
   ·unfold clsOf;rw[hgd];exact yn _
def ZuK(ts:List TD)(dst:Option Tmp)(d:TD):List TD:=
 match dst with
 |some i=>ts.set i d
 |none=>ts
theorem Zyo{L:Lk}(dst:Option Tmp)(d:TD):TD.ers L (ZuK ts dst d)=Zjw (TD.ers L ts) dst (d.er L):=by
 cases dst with
 |none=>rfl
 |some i=>simp only[ZuK,Zjw,ZN,ybo]
theorem ZuL(dst:Option Tmp)(d:TD):(ZuK ts dst d).length=ts.length:=by
 cases dst <;> simp[ZuK]
def ZEV(P:yg)(hi:HI)(specs:Sp P)(ops:Array Oper):List Oper→List TD→List TEnt→(List TD→List TEnt→List Hint→Option O)→Option O
 |[],all,H,K=>K all H []
 |o::r,all,H,K=>gT P hi specs ops o all all H λa d H' hs _=>ZEV P hi specs ops r (ZuK a o.dst d) H' λa' h' hs'=>K a' h' (hs++hs')
theorem ZuM{hi:HI}{specs:Sp P}{ops:Array Oper}(ok:SpOk specs):∀(l:List Oper)(all:List TD)(H:List TEnt)(K:List TD→List TEnt→List Hint→Option O),ZEV P hi specs ops l all H K=some out→
 ∃a h hs C,K a h hs=some out∧a.length=all.length∧AllP C∧∀rest,Zrn P ops l (TD.ers (lk H) all) (erH H) (hs++rest)=some (C,TD.ers (lk h) a,erH h,rest)
 |[],all,H,K,h=>⟨all,H,[],[],h,rfl,trivial,λ_=>rfl⟩
 |o::r,all,H,K,h=>by
  unfold ZEV at h;obtain⟨a,d,H',hs,c,h1,h2⟩:=ZBu ok (λ_ _ _ _ _=>rfl) h;obtain⟨a',h',hs',C',k1,k0,k2,k3⟩:=ZuM ok r _ _ _ h1;obtain⟨C,g1,g2⟩:=h2.op;refine⟨a',h',_,C++C',k1,by rw[k0,ZuL,h2.len],Zj.2 ⟨g1,k2⟩,λrest=> ?_⟩;unfold Zrn;rw[yaj,g2 (hs'++rest)];dsimp only;rw[←h2.same, ←Zyo,k3 rest]
end
end Go.Ev
end
section
namespace Go.Ev
section
variable{P:yg}{o:Oper}{ts all:List TD}{H:List TEnt}{O:Type}{out:O}
def Zjb(keep:List Nat):Nat→List TD→List TD
 |_,[]=>[]
 |i,d::r=>(if keep.contains i then d else .junk)::Zjb keep (i+1) r
theorem ZnK{L:Lk}(keep:List Nat):∀(l:List TD)(k:Nat),TD.ers L (Zjb keep k l)=ZU keep k (TD.ers L l)
 |[],_=>rfl
 |d::r,k=>by
  rw[Zjb,TD.ers,TD.ers,ZU,ZnK keep r];split <;> rfl
theorem ZuN(keep:List Nat):∀(l:List TD)(k t:Nat),keep.contains (k+t)=true→(Zjb keep k l).getD t .junk=l.getD t .junk
 |[],_,_,_=>rfl
 |d::r,k,0,h=>by
  have h':keep.contains k=true:=h
  simp only[Zjb,h',if_true,List.getD_cons_zero]
 |d::r,k,t+1,h=>by
  simp only[Zjb,List.getD_cons_succ];exact ZuN keep r (k+1) t (by rw[show k+1+t=k+(t+1) by omega];exact h)
mutual
def Pl.sameB:Pl→Pl→Bool
 |.int k n,.int l m=>decide (k=l)&&decide (n=m)
 |.bool a,.bool b=>a==b
 |.str a,.str b=>decide (a=b)
 |.ptr0,.ptr0=>true
 |.fn0,.fn0=>true
 |.if0,.if0=>true
 |.map0,.map0=>true
 |.fnv f,.fnv g=>Nat.beq f g
 |.agg xs,.agg ys=>Pl.samesB xs ys
 |.arr n s xs,.arr m u ys=>Nat.beq n m&&Nat.beq s u&&Pl.samesB xs ys
 |.sl a s xs,.sl b u ys=>a==b&&Nat.beq s u&&Pl.samesB xs ys
 |.iface t x,.iface u y=>Nat.beq t u&&Pl.sameB x y
 |_,_=>false
def Pl.samesB:List Pl→List Pl→Bool
 |[],[]=>true
 |x::r,y::q=>Pl.sameB x y&&Pl.samesB r q
 |_,_=>false
end
mutual
theorem Pl.sameB_eq:∀(a b:Pl),Pl.sameB a b=true→a=b
 |.int k n,b,h=>by cases b <;> simp_all[Pl.sameB]
 |.bool k,b,h=>by cases b <;> simp_all[Pl.sameB]
 |.str k,b,h=>by cases b <;> simp_all[Pl.sameB]
 |.ptr0,b,h=>by cases b <;> simp_all[Pl.sameB]
 |.fn0,b,h=>by cases b <;> simp_all[Pl.sameB]
 |.if0,b,h=>by cases b <;> simp_all[Pl.sameB]
 |.map0,b,h=>by cases b <;> simp_all[Pl.sameB]
 |.fnv f,b,h=>by cases b <;> simp_all[Pl.sameB]
 |.agg xs,b,h=>by cases b <;> simp_all[Pl.sameB];exact Pl.samesB_eq _ _ h
 |.arr n s xs,b,h=>by cases b <;> simp_all[Pl.sameB];exact Pl.samesB_eq _ _ h.2
 |.sl n s xs,b,h=>by cases b <;> simp_all[Pl.sameB];exact Pl.samesB_eq _ _ h.2
 |.iface t x,b,h=>by cases b <;> simp_all[Pl.sameB];exact Pl.sameB_eq _ _ h.2
theorem Pl.samesB_eq:∀(a b:List Pl),Pl.samesB a b=true→a=b
 |[],[],_=>rfl
 |[],_::_,h=>by cases h
 |_::_,[],h=>by cases h
 |x::r,y::q,h=>by
  simp only[Pl.samesB,yj] at h;rw[Pl.sameB_eq x y h.1,Pl.samesB_eq r q h.2]
end
def ZuO:List Nat→List Nat→Bool
 |[],[]=>true
 |x::r,y::q=>Nat.beq x y&&ZuO r q
 |_,_=>false
theorem ZnL:∀(a b:List Nat),ZuO a b=true→a=b
 |[],[],_=>rfl
 |[],_::_,h=>by cases h
 |_::_,[],h=>by cases h
 |x::r,y::q,h=>by
  simp only[ZuO,yj] at h;rw[Nat.eq_of_beq_eq_true h.1,ZnL r q h.2]
mutual
def Dv.sameB:Dv→Dv→Bool
 |.p x,.p y=>Pl.sameB x y
 |.elem x,.elem y=>Pl.sameB x y
 |.ref i o l,.ref j q m=>Nat.beq i j&&Nat.beq o q&&ZuO l m
 |.own i a s xs,.own j b u ys=>Nat.beq i j&&a==b&&Nat.beq s u&&Pl.samesB xs ys
 |.view i o l a b c,.view i' o' l' a' b' c'=>Nat.beq i i'&&Nat.beq o o'&&ZuO l l'&&Nat.beq a a'&&Nat.beq b b'&&Nat.beq c c'
 |.agg xs,.agg ys=>Dv.samesB xs ys
 |.arr n s xs,.arr m u ys=>Nat.beq n m&&Nat.beq s u&&Dv.samesB xs ys
 |.fn f xs,.fn g ys=>Nat.beq f g&&Dv.samesB xs ys
 |.iface t x,.iface u y=>Nat.beq t u&&Dv.sameB x y
 |.tup xs,.tup ys=>Dv.samesB xs ys
 |.mp i,.mp j=>Nat.beq i j
 |.rv a b c d e,.rv a' b' c' d' e'=>Nat.beq a a'&&Nat.beq b b'&&Nat.beq c c'&&Nat.beq d d'&&Nat.beq e e'
 |.rref a b c l,.rref a' b' c' l'=>Nat.beq a a'&&Nat.beq b b'&&Nat.beq c c'&&ZuO l l'
 |.junk,.junk=>true
 |_,_=>false
def Dv.samesB:List Dv→List Dv→Bool
 |[],[]=>true
 |x::r,y::q=>Dv.sameB x y&&Dv.samesB r q
 |_,_=>false
end
theorem Zgf{a b:Nat}(h:Nat.beq a b=true):a=b:=Nat.eq_of_beq_eq_true h
mutual
theorem Dv.sameB_eq:∀(a b:Dv),Dv.sameB a b=true→a=b
 |.p x,b,h=>by
  cases b <;> simp only[Dv.sameB,ybt] at h
  rw[Pl.sameB_eq _ _ h]
 |.elem x,b,h=>by
  cases b <;> simp only[Dv.sameB,ybt] at h
  rw[Pl.sameB_eq _ _ h]
 |.ref i o l,b,h=>by
  cases b <;> simp only[Dv.sameB,ybt,yj] at h
  rw[Zgf h.1.1,Zgf h.1.2,ZnL _ _ h.2]
 |.own i a s xs,b,h=>by
  cases b <;> simp only[Dv.sameB,ybt,yj,beq_iff_eq] at h
  rw[Zgf h.1.1.1,h.1.1.2,Zgf h.1.2,Pl.samesB_eq _ _ h.2]
 |.view i o l a k c,b,h=>by
  cases b <;> simp only[Dv.sameB,ybt,yj] at h
  rw[Zgf h.1.1.1.1.1,Zgf h.1.1.1.1.2,ZnL _ _ h.1.1.1.2,Zgf h.1.1.2,Zgf h.1.2,Zgf h.2]
 |.agg xs,b,h=>by
  cases b <;> simp only[Dv.sameB,ybt] at h
  rw[Dv.samesB_eq _ _ h]
 |.arr n s xs,b,h=>by
  cases b <;> simp only[Dv.sameB,ybt,yj] at h
  rw[Zgf h.1.1,Zgf h.1.2,Dv.samesB_eq _ _ h.2]
 |.fn f xs,b,h=>by
  cases b <;> simp only[Dv.sameB,ybt,yj] at h
  rw[Zgf h.1,Dv.samesB_eq _ _ h.2]
 |.iface t x,b,h=>by
  cases b <;> simp only[Dv.sameB,ybt,yj] at h
  rw[Zgf h.1,Dv.sameB_eq _ _ h.2]
 |.tup xs,b,h=>by
  cases b <;> simp only[Dv.sameB,ybt] at h
  rw[Dv.samesB_eq _ _ h]
 |.mp i,b,h=>by
  cases b <;> simp only[Dv.sameB,ybt] at h
  rw[Zgf h]
 |.rv a k c d e,b,h=>by
  cases b <;> simp only[Dv.sameB,ybt,yj] at h
  rw[Zgf h.1.1.1.1,Zgf h.1.1.1.2,Zgf h.1.1.2,Zgf h.1.2,Zgf h.2]
 |.rref a k c l,b,h=>by
  cases b <;> simp only[Dv.sameB,ybt,yj] at h
  rw[Zgf h.1.1.1,Zgf h.1.1.2,Zgf h.1.2,ZnL _ _ h.2]
 |.junk,b,h=>by
  cases b <;> simp only[Dv.sameB,ybt] at h;rfl
theorem Dv.samesB_eq:∀(a b:List Dv),Dv.samesB a b=true→a=b
 |[],[],_=>rfl
 |[],_::_,h=>by cases h
 |_::_,[],h=>by cases h
 |x::r,y::q,h=>by
  simp only[Dv.samesB,yj] at h;rw[Dv.sameB_eq x y h.1,Dv.samesB_eq r q h.2]
end
def Ent.sameB:Option Ent→Option Ent→Bool
 |some (.var d _),some (.var e _)=>Dv.sameB d e
 |_,_=>false
theorem Ent.sameB_rd{a b:Option Ent}(h:Ent.sameB a b=true):rdE a=rdE b:=by
 unfold Ent.sameB at h;split at h
 ·rw[Dv.sameB_eq _ _ h];rfl
 ·cases h
structure TR where
 cls:Nat
 rd:Option Nat
 tc:Option (List Nat)
 n:Nat
 push:Bool
 loc:Bool
 m:Nat
 sm:Nat→Bool
def ZBv(P:yg)(hi:HI)(specs:Sp P)(ops:Array Oper):List Oper→List TD→List TEnt→(List TD→List TEnt→List TR→List Hint→Option O)→Option O
 |[],all,H,K=>K all H [] []
 |o::r,all,H,K=>gT P hi specs ops o (Zjb (looks ops o) 0 all) all H λa d H' hs c=>ZBv P hi specs ops r (ZuK a o.dst d) H' λa' h' rs hs'=>
   K a' h' (⟨c,ZCp P o (TD.ers (lk H) (Zjb (looks ops o) 0 all)),Zvw P o (TD.ers (lk H) (Zjb (looks ops o) 0 all)) hs,H.length,Zh7 o,Zna o hs,H'.length,λid=>(c==3) || Ent.sameB ((erH H')[id]?) ((erH H)[id]?)⟩::rs) (hs++hs')
def RecOk(R:Rec)(r:TR):Prop:=R.cls≤r.cls∧R.rd=r.rd∧(∀l,r.tc=some l→R.tc=some l)∧R.H.length=r.n∧R.push=r.push∧(r.loc=true→R.loc=true)∧R.H'.length=r.m∧∀id,r.sm id=true→rdE (R.H'[id]?)=rdE (R.H[id]?)
inductive RecsOk:List Rec→List TR→Prop where
 |nil:RecsOk [] []
 |cons {R:Rec} {r:TR} {Rs:List Rec} {rs:List TR} (h:RecOk R r) (k:RecsOk Rs rs):RecsOk (R::Rs) (r::rs)
theorem Zz8{ts:List Dv}{hs rest:List Hint}{l:List Nat}(h:Zer P o ts hs=some l):Zer P o ts (hs++rest)=some l:=by
 unfold Zer at h ⊢;split at h <;> first|exact h|skip
 ·cases hs with
  |nil=>cases h
  |cons x r=>rw[yaa];cases x <;> exact h
 split at h <;> first|exact h|skip
 all_goals
  split at h
  ·exact h
  ·cases h
theorem ZHa{ts:List Dv}{hs rest:List Hint}{l:List Nat}(h:Zvw P o ts hs=some l):Zvw P o ts (hs++rest)=some l:=by
 unfold Zvw at h ⊢;split at h
 ·rename_i hg;rw[if_pos hg];exact Zz8 h
 ·cases h
theorem ZEW{hs rest:List Hint}(h:Zna o hs=true):Zna o (hs++rest)=true:=by
 unfold Zna at h ⊢;rw[yj] at h ⊢;refine⟨h.1, ?_⟩;have h:=h.2;split at h
 ·split at h
  ·split at h
   ·exact h
   ·cases h
  ·split at h
   ·exact h
   ·cases h
  ·cases h
 ·cases h
theorem Zsk{hi:HI}{specs:Sp P}{ops:Array Oper}(ok:SpOk specs):∀(l:List Oper)(all:List TD)(H:List TEnt)(K:List TD→List TEnt→List TR→List Hint→Option O),ZBv P hi specs ops l all H K=some out→
 ∃a h rs hs C,K a h rs hs=some out∧a.length=all.length∧AllP C∧∀rest,∃RS,evD P ops l (TD.ers (lk H) all) (erH H) (hs++rest)=some (C,RS,TD.ers (lk h) a,erH h,rest)∧RecsOk RS rs
 |[],all,H,K,h=>⟨all,H,[],[],[],h,rfl,trivial,λ_=>⟨[],rfl,.nil⟩⟩
 |o::r,all,H,K,h=>by
  unfold ZBv at h
  have hgd:∀j want t,o.guard=some (j,want)→Zz7 ops j=some t→(Zjb (looks ops o) 0 all).getD t .junk=all.getD t .junk:=by
   intro j want t hg hs;refine ZuN _ _ _ _ ?_;rw[Nat.zero_add];unfold looks;rw[hg];dsimp only;rw[show(ops[j]?).bind (·.dst)=some t from hs]
   simp
  obtain⟨a,d,H',hs,c,h1,h2⟩:=ZBu ok hgd h;obtain⟨a',h',rs,hs',C',k1,k0,k2,k3⟩:=Zsk ok r _ _ _ h1;obtain⟨C,g1,g2⟩:=h2.op;refine⟨a',h',_,_,C++C',k1,by rw[k0,ZuL,h2.len],Zj.2 ⟨g1,k2⟩,λrest=> ?_⟩;obtain⟨RS,e1,e2⟩:=k3 rest;unfold evD;rw[←ZnK,yaj,g2 (hs'++rest)];dsimp only;rw[←h2.same, ←Zyo,e1]
  refine⟨_,rfl,.cons ⟨h2.cls _,rfl,λl hl=> ?_,ZO _,rfl,λhl=>ZEW hl,ZO _,λid hs=>by
   have hs:(c==3 || Ent.sameB ((erH H')[id]?) ((erH H)[id]?))=true:=hs;rw[yce] at hs;rcases hs with h5|h5
   ·rw[h2.sam (by simpa using h5)]
   ·exact Ent.sameB_rd h5⟩ e2⟩
  exact ZHa hl
def ZBw(ops:Array Oper)(cls:List Nat)(free comm:Nat→Nat→Bool):Bool:=
 let l:=ops.toList;let A:=ZDO l;let n:=l.length
 (cls.length==n)&&Zhq l 0&&
 ((yw n).all λi=>match l[i]? with|some o=>A.getD i 0==Zh8 A i o|none=>true)&&
 ((yw n).all λi=>(yw n).all λj=>i==j || Zhr l i==none || !(Zhr l i==Zhr l j))&&
 ((yw n).all λi=>match l[i]? with
   |some o=>let k:=looks ops o
    (yw n).all λj=>match Zhr l j with
      |some t=>i==j || !(k.contains t) || (if j < i then(A.getD i 0).testBit j else(A.getD j 0).testBit i)
      |none=>true
   |none=>true)&&
 ((yw n).all λi=>cls.getD i 0==0 || (yw n).all λj=>i==j || decide (cls.getD j 0 < 2) || (if j < i then(A.getD i 0).testBit j else(A.getD j 0).testBit i) || (decide (cls.getD i 0≤1)&&free i j) || comm i j)
def ZEX(rs:List TR)(i j:Nat):Bool:=
 match rs[i]?,rs[j]? with
 |some r,some q=>match r.rd with
  |some id=>decide (id < q.n)&&decide (id < r.n)&&((match q.tc with|some l=> !l.contains id|none=>false) || q.sm id)
  |none=>false
 |_,_=>false
def cT(rs:List TR)(c:Nat)(r:TR):Bool:=r.loc || (r.push&&r.m==r.n+1&&(rs.take c).all λq=>decide (q.n≤r.n))
def cI(rs:List TR):Nat:=match rs.findIdx? (λr=>r.loc&&r.cls==2) with
 |some c=>c
 |none=>(rs.findIdx? (λr=>r.push)).getD 0
def ZBx(rs:List TR)(i j:Nat):Bool:=
 let c:=cI rs
 ((rs[c]?).map (cT rs c)).getD false&&((i==c&&decide (c < j)&&((rs[j]?).map (·.push)).getD false) || (j==c&&decide (c < i)&&((rs[i]?).map (·.push)).getD false))
theorem Zsl{RS:List Rec}{rs:List TR}(h:RecsOk RS rs):RS.length=rs.length:=by
 induction h with
 |nil=>rfl
 |cons _ _ ih=>simp[ih]
theorem Zj5{RS:List Rec}{rs:List TR}(h:RecsOk RS rs):∀{i:Nat}{r:TR},rs[i]? =some r→∃R,RS[i]? =some R∧RecOk R r:=by
 induction h with
 |nil=>intro i r h;simp at h
 |cons h k ih=>
  intro i r hi
  cases i with
  |zero=>cases hi;exact⟨_,rfl,h⟩
  |succ i=>exact ih hi
theorem ZC0{RS:List Rec}{rs:List TR}(h:RecsOk RS rs):∀{i:Nat}{R:Rec},RS[i]? =some R→∃r,rs[i]? =some r∧RecOk R r:=by
 induction h with
 |nil=>intro i r h;simp at h
 |cons h k ih=>
  intro i r hi
  cases i with
  |zero=>cases hi;exact⟨_,rfl,h⟩
  |succ i=>exact ih hi
theorem Zyp{RS:List Rec}{rs:List TR}(h:RecsOk RS rs)(i:Nat):(RS.map (·.cls)).getD i 0≤(rs.map (·.cls)).getD i 0:=by
 simp only[ycx,yal]
 cases hi:rs[i]? with
 |none=>
  have:RS[i]? =none:=by rw[List.getElem?_eq_none_iff] at hi ⊢;rw[Zsl h];exact hi
  rw[this]
  exact yn _
 |some r=>
  obtain⟨R,e,k⟩:=Zj5 h hi;rw[e];exact k.1
theorem ZHb{ops:Array Oper}{RS:List Rec}{rs:List TR}(h:RecsOk RS rs)(k:ZBw ops (rs.map (·.cls)) (ZEX rs) (ZBx rs)=true)(hn:rs.length=ops.size):Zvx ops RS=true:=by
 unfold ZBw at k;unfold Zvx;simp only[yj] at k ⊢;obtain⟨⟨⟨⟨⟨k1,k2⟩,k3⟩,k4⟩,k5⟩,k6⟩:=k;refine⟨⟨⟨⟨⟨?_,k2⟩,k3⟩,k4⟩,k5⟩, ?_⟩
 ·simpa[Zsl h] using k1
 ·have hcm:∃c,c∈yw (ops.toList.length+1)∧∀i j,ZBx rs i j=true→ZgW RS c i j=true:=by
   have hget:∀(k:Nat),((rs[k]?).map (·.push)).getD false=true→((RS[k]?).map (·.push)).getD false=true:=by
    intro k hk
    cases hr:rs[k]? with
    |none=>rw[hr] at hk;cases hk
    |some r=>
     obtain⟨R,e1,e2⟩:=Zj5 h hr;rw[hr] at hk;rw[e1];show R.push=true;rw[e2.2.2.2.2.1];exact hk
   refine⟨if cI rs < rs.length then cI rs else 0, ?_,λi j hij=> ?_⟩
   ·rw[List.mem_range];split
    ·rename_i hlt;rw[hn] at hlt;have:ops.toList.length=ops.size:=by simp
     omega
    ·omega
   ·unfold ZBx at hij;dsimp only at hij;generalize cI rs=c at hij ⊢;rw[yj] at hij;obtain⟨h1,h2⟩:=hij
    cases hr:rs[c]? with
    |none=>rw[hr] at h1;cases h1
    |some r=>
     have hlt:=(yr.1 hr).1;rw[if_pos hlt];obtain⟨R,e1,e2⟩:=Zj5 h hr;rw[hr] at h1;unfold ZgW;rw[yj];refine⟨?_, ?_⟩
     ·rw[e1];show cOk RS c R=true;have h1:cT rs c r=true:=h1;unfold cT at h1;unfold cOk;rw[yce] at h1 ⊢;rcases h1 with h1|h1
      ·exact .inl (e2.2.2.2.2.2.1 h1)
      ·simp only[yj,beq_iff_eq,ybd,decide_eq_true_eq] at h1 ⊢;obtain⟨⟨b1,b2⟩,b3⟩:=h1;refine .inr ⟨⟨by rw[e2.2.2.2.2.1];exact b1,by rw[e2.2.2.2.2.2.2.1,e2.2.2.2.1];exact b2⟩,λq hq=> ?_⟩;obtain⟨k,hk⟩:=List.mem_iff_getElem?.1 hq;rw[List.getElem?_take] at hk;split at hk
       ·rename_i hkc;obtain⟨q2,f1,f2⟩:=ZC0 h hk;rw[f2.2.2.2.1,e2.2.2.2.1];refine b3 q2 (List.mem_iff_getElem?.2 ⟨k, ?_⟩);rw[List.getElem?_take,if_pos hkc];exact f1
       ·cases hk
     ·simp only[yce,yj] at h2 ⊢;rcases h2 with⟨⟨a1,a2⟩,a3⟩|⟨⟨a1,a2⟩,a3⟩
      ·exact .inl ⟨⟨a1,a2⟩,hget _ a3⟩
      ·exact .inr ⟨⟨a1,a2⟩,hget _ a3⟩
  obtain⟨c,hc1,hc2⟩:=hcm;rw[List.any_eq_true];refine⟨c,hc1, ?_⟩;rw[ybd] at k6 ⊢;intro i hi;have:=k6 i hi;have hc:=Zyp h i;simp only[yce] at this ⊢;rcases this with h0|h1
  ·left;have h0:(rs.map (·.cls)).getD i 0=0:=by simpa using h0
   have:(RS.map (·.cls)).getD i 0=0:=by omega
   simpa using this
  ·by_cases hz:(RS.map (·.cls)).getD i 0=0
   ·left;simpa using hz
   ·right;rw[ybd] at h1 ⊢;intro j hj;have h2:=h1 j hj;have hd:=Zyp h j;simp only[yce,yj,decide_eq_true_eq] at h2 ⊢;rcases h2 with(((h2|h2)|h2)|h2)|h2
    ·exact .inl (.inl (.inl (.inl h2)))
    ·refine .inl (.inl (.inl (.inr ?_)));have:(RS.map (·.cls)).getD j 0≠2:=by omega
     simpa using this
    ·exact .inl (.inl (.inr h2))
    ·refine .inl (.inr ⟨?_, ?_⟩)
     ·have:(RS.map (·.cls)).getD i 0=1:=by omega
      simpa using this
     ·have hf:=h2.2;unfold ZEX at hf;unfold ZjO;split at hf
      ·rename_i r q hr hq;obtain⟨R,e1,e2⟩:=Zj5 h hr;obtain⟨Q,e3,e4⟩:=Zj5 h hq;rw[e1,e3];dsimp only;split at hf
       ·rename_i id hrd;rw[e2.2.1,hrd];dsimp only;rw[e4.2.2.2.1,e2.2.2.2.1];rw[yj] at hf ⊢;refine⟨hf.1, ?_⟩;rw[yce] at hf ⊢;rcases hf.2 with h5|h5
        ·left;split at h5
         ·rename_i l htc;rw[e4.2.2.1 l htc];exact h5
         ·cases h5
        ·right;exact@decide_eq_true _ (Classical.propDecidable _) (e4.2.2.2.2.2.2.2 id h5)
       ·cases hf
      ·cases hf
    ·exact .inr (hc2 i j h2)
theorem Zz9{A B:List Ent}(hl:A.length=B.length)(h:∀(i:Nat)(a b:Ent),A[i]? =some a→B[i]? =some b→WkE a b):WkH A B:=by
 induction A generalizing B with
 |nil=>cases B with
  |nil=>exact .nil
  |cons _ _=>simp at hl
 |cons a A ih=>cases B with
  |nil=>simp at hl
  |cons b B=>exact .cons (h 0 a b rfl rfl) (ih (by simpa using hl) λi a b h1 h2=>h (i+1) a b h1 h2)
def ZEY:TEnt→TEnt
 |.var d _=>.var d false
 |e=>e
def ZoY(ids:List Nat)(H:List TEnt):List TEnt:=(yw H.length).zipWith (λi e=>if ids.contains i then ZEY e else e) H
theorem ZHc(e:TEnt):lkE (some (ZEY e))=lkE (some e):=by cases e <;> rfl
theorem Zsm(ids:List Nat)(H:List TEnt)(i:Nat):(ZoY ids H)[i]? =(H[i]?).map λe=>if ids.contains i then ZEY e else e:=by
 unfold ZoY;rw[List.getElem?_zipWith];rcases Nat.lt_or_ge i H.length with h|h
 ·rw[List.getElem?_range h,yac h];rfl
 ·rw[yao (by simpa using h),yao h];rfl
theorem ZuP(ids:List Nat)(H:List TEnt):lk (ZoY ids H)=lk H:=by
 funext i;unfold lk;rw[Zsm]
 cases H[i]? with
 |none=>rfl
 |some e=>
  show lkE (some (if ids.contains i=true then ZEY e else e))=_
  split
  ·exact ZHc e
  ·rfl
theorem ZC1(ids:List Nat)(H:List TEnt):WkH (erH H) (erH (ZoY ids H)):=by
 refine Zz9 (by rw[ZO,ZO];unfold ZoY;simp) λi a b h1 h2=> ?_;unfold erH at h1 h2;rw[yal] at h1 h2;rw[ZuP,Zsm] at h2
 cases he:H[i]? with
 |none=>rw[he] at h1;cases h1
 |some e=>
  rw[he] at h1 h2;cases h1;cases h2;show WkE (e.er (lk H)) (TEnt.er (lk H) (if ids.contains i=true then ZEY e else e))
  split
  ·cases e <;> first|exact .refl _|exact .frz
  ·exact .refl _
theorem ZEZ{c:Code}{ts ts1:List Dv}{H0 H1 H2:List Ent}{ex:Ex}(h:WkH H0 H1)(r:Ww P c ts H1 ex ts1 H2):Ww P c ts H0 ex ts1 H2:=by
 intro σ a ok hH hrep;obtain⟨to,ok2⟩:=Znd ok (H':=H1) (by rw[hH];exact h);refine wp_mono (r { σ with H:=H1} a ok2 rfl (hrep.to to.leaf)) ?_;rintro e a' w' ⟨rfl,σ2,q1,q2,q3,q4,q5⟩;exact⟨rfl,σ2,q1,q2,to.trans q3,q4,q5⟩
def ZE0(ops:List Oper)(all:List TD):Nat→Tmp→Option Nat
 |0,_=>none
 |n+1,x=>match ops.find? λo=>o.dst==some x with
  |some o=>match o.op with
   |.fieldAddr _ (.tmp y) _=>ZE0 ops all n y
   |_=>none
  |none=>match all.getD x .junk with
   |.ref id _=>some id
   |_=>none
def ZJ7(hi:HI)(ops:List Oper)(all:List TD)(o:Oper):Option Nat:=
 match o.op with
 |.slice _ (.tmp x) _ _ none=>if ZnJ hi.frz o.dst then ZE0 ops all 4 x else none
 |_=>none
def Zsn(hi:HI)(ops:Array Oper)(all:List TD)(H:List TEnt):List TEnt:=
 match hi.frz with
 |[]=>H
 |_=>match ops.toList.filterMap (ZJ7 hi ops.toList all) with
  |[]=>H
  |ids=>ZoY ids H
theorem ZC2(hi:HI)(ops:Array Oper)(all:List TD)(H:List TEnt):WkH (erH H) (erH (Zsn hi ops all H))∧lk (Zsn hi ops all H)=lk H:=by
 unfold Zsn;split
 ·exact⟨WkH.refl _,rfl⟩
 ·split
  ·exact⟨WkH.refl _,rfl⟩
  ·exact⟨ZC1 _ _,ZuP _ _⟩
def ZIY(P:yg)(hi:HI)(specs:Sp P)(ops:Array Oper)(all:List TD)(H:List TEnt)(K:List TD→List TEnt→Option O):Option O:=
 if P.follows .mixedOrders then ZBv P hi specs ops ops.toList all (Zsn hi ops all H) λa h rs _=>if ZBw ops (rs.map (·.cls)) (ZEX rs) (ZBx rs)=true then K a h else none else none
theorem ZC3{hi:HI}{specs:Sp P}{ops:Array Oper}{K:List TD→List TEnt→Option O}(ok:SpOk specs)(h:ZIY P hi specs ops all H K=some out):∃a h,K a h=some out∧a.length=all.length∧∀id,Ww P (.region id ops true) (TD.ers (lk H) all) (erH H) .normal (TD.ers (lk h) a) (erH h):=by
 unfold ZIY at h;split at h
 ·rename_i hf;obtain⟨w1,w2⟩:=ZC2 hi ops all H;generalize Zsn hi ops all H=H0 at h w1 w2;obtain⟨a,h',rs,hs,C,k1,k0,k2,k3⟩:=Zsk ok _ _ _ _ h;obtain⟨k4,k5⟩:=Za k1;refine⟨a,h',k5,k0,λid=> ?_⟩;obtain⟨RS,e1,e2⟩:=k3 [];rw[←w2];refine ZEZ w1 (ZrW (hs:=hs) (hs':=[]) (C:=C) ?_ k2);simp only[ev,if_true];unfold Zvy;rw[if_pos hf];rw[ybh] at e1;rw[e1];dsimp only;rw[if_pos (ZHb e2 k4 (by have:=Zsl e2;unfold ZBw at k4;simp only[yj] at k4;simpa using k4.1.1.1.1.1))];rfl
 ·cases h
theorem ZC4{hi:HI}{specs:Sp P}{ops:Array Oper}{K:List TD→List TEnt→List Hint→Option O}(ok:SpOk specs)(h:ZEV P hi specs ops ops.toList all H K=some out):∃a h hs,K a h hs=some out∧a.length=all.length∧∀id,Ww P (.region id ops false) (TD.ers (lk H) all) (erH H) .normal (TD.ers (lk h) a) (erH h):=by
 obtain⟨a,h',hs,C,k1,k0,k2,k3⟩:=ZuM ok _ _ _ _ h;refine⟨a,h',hs,k1,k0,λid=> ?_⟩;refine ZrW (hs:=hs) (hs':=[]) (C:=C) ?_ k2;have:=k3 [];rw[ybh] at this;simp only[ev,ybt,if_false,this];rfl
end
end Go.Ev
end
section
namespace Go.Ev
def W9(H H':List Ent):Prop:=∀σ:Sg,Ok σ→σ.H=H→∃σ':Sg,σ'.w=σ.w∧σ'.H=H'∧To σ σ'∧Ok σ'
theorem W9.refl(H:List Ent):W9 H H:=λσ ok h=>⟨σ,rfl,h,To.refl σ,ok⟩
theorem W9.trans{A B C:List Ent}(h:W9 A B)(k:W9 B C):W9 A C:=λσ ok e=>by
 obtain⟨σ1,a1,a2,a3,a4⟩:=h σ ok e;obtain⟨σ2,b1,b2,b3,b4⟩:=k σ1 a4 a2;exact⟨σ2,b1.trans a1,b2,a3.trans b3,b4⟩
theorem ZE1{H H':List Ent}(h:WkH H H'):W9 H H':=λσ ok e=>by
 subst e;obtain⟨to,ok'⟩:=Znd ok h;exact⟨{ σ with H:=H'},rfl,rfl,to,ok'⟩
theorem ZHd{P:yg}{c:Code}{ts ts1 ts2:List Dv}{H H1 H2:List Ent}{ex:Ex}(h:W9 H H1∧∀(σ:Sg)(a:Act),RepT σ ts a→RepT σ ts1 a)(r:Ww P c ts1 H1 ex ts2 H2):Ww P c ts H ex ts2 H2:=by
 intro σ a ok hH hrep;obtain⟨σ1,e1,e2,e3,e4⟩:=h.1 σ ok hH;have:=r σ1 a e4 e2 (h.2 _ _ (hrep.to e3.leaf));rw[e1] at this;refine wp_mono this ?_;rintro e' a' w' ⟨rfl,σ2,q1,q2,q3,q4,q5⟩;exact⟨rfl,σ2,q1,q2,e3.trans q3,q4,q5⟩
theorem ZIZ{H:List Ent}{j:Nat}{x x' y:Ent}(hj:H[j]? =some x)
 (hy:∀σ:Sg,entOk σ none y)
 (hvar:(∃d st,x=.var d st)→∃d st,x'=.var d st) (hmap:(∃t kvs,x=.map t kvs)→∃t kvs,x'=.map t kvs) (hlog:∀s e xs,x≠ .log s e xs)
 (hunl:∀o,x.unlocked o→x'.unlocked o)
 (hrow:∀v s st e d,x=.row v s st e d→∃st' d',x'=.row v s st' e d')
 (hent:∀(σ:Sg)(mi:Option Nat),σ.H[H.length]? =some y→σ.m[H.length]? =some none→entOk σ mi x→entOk σ mi x'):W9 H ((H++[y]).set j x'):=by
 intro σ ok hH;subst hH;have hjl:j < σ.H.length:=(yr.1 hj).1;obtain⟨to1,ok1⟩:=WJ (σ':={ σ with m:=σ.m++[none],H:=σ.H++[y]}) ok rfl rfl rfl rfl (World.grownBy.refl σ.w none) (.inl rfl) (λ_=>hy _);obtain⟨mi,hm⟩:∃mi,σ.m[j]? =some mi:=⟨_,yac (by rw[ok.len];exact hjl)⟩;let σ1:Sg:={ σ with m:=σ.m++[none],H:=σ.H++[y]};let σ2:Sg:={ σ1 with m:=σ1.m.set j mi,H:=σ1.H.set j x'}
 have hH1:σ1.H[j]? =some x:=by
  show(σ.H++[y])[j]? =_;rw[yan hjl];exact hj
 have hm1:σ1.m[j]? =some mi:=by
  show(σ.m++[none])[j]? =_;rw[yan (by rw[ok.len];exact hjl)];exact hm
 have hx:=ok1.ent j x mi hH1 hm1
 obtain⟨to2,ok2⟩:=XK (σ':=σ2) (mi:=mi) (mi':=mi) ok1 hH1 hm1 rfl rfl rfl rfl rfl rfl rfl (yn _)
  (λ_ _ _=>rfl) (λ_ _ _ _ _ h=>h) (λo _ hu=>hunl o hu) (.inl rfl) (λq=>⟨rfl,hvar q⟩) (λq=>⟨rfl,hmap q⟩) (λs e xs q=>absurd q (hlog s e xs))
  (λleaf=>by
    refine hent σ2 mi ?_ ?_ (Zck leaf (λb _=>rfl) hx)
    ·show(σ1.H.set j _)[σ.H.length]? =_;rw[ybw,if_neg (by omega)];simp[σ1]
    ·show(σ1.m.set j _)[σ.H.length]? =_;rw[ybw,if_neg (by omega)];show(σ.m++[none])[σ.H.length]? =_;rw[yat (by rw[ok.len];exact yn _),ok.len];simp)
  (λv s st e d q=>by
    obtain⟨st',d',q'⟩:=hrow v s st e d q;exact⟨v,st',d',q',yn _,λ_=>⟨rfl,λb cur _ hc=>⟨cur,hc,rfl⟩⟩⟩)
 exact⟨σ2,rfl,rfl,to1.trans to2,ok2⟩
theorem ZC5{σ:Sg}{s:Nat}{a:List Value}(h:repD σ (.p (.sl (some false) s [])) a):a=[.slice none 0 0]:=by
 simp only[repD,repC] at h;obtain⟨_,A,c,rfl,w1,w2,w3,w4,w5⟩:=h
 have hA:A=none:=by
  have:=w3 false rfl
  cases A with
  |none=>rfl
  |some _=>cases this
 subst hA;have hc:=w4 rfl;subst hc;rfl
theorem ZHe{H:List Ent}{j s:Nat}{e:yb}{d d':Dv}{st:Bool}{path:List Nat}(hj:H[j]? =some (.var d st))(hg:Xv d path s (.rv H.length 0 s 0 0)=some d'):
 W9 H ((H++[Ent.row 0 s true e (.p (.arr 0 s []))]).set j (.var d' st)):=by
 have hsz:=Zew path d d' s _ rfl hg;refine ZIZ hj (λσ=>⟨0,by simp[rowN],.inl ⟨rfl,rfl⟩⟩) (λ_=>⟨_,_,rfl⟩) (λ⟨_,_,q⟩=>by cases q) (λ_ _ _ q=>by cases q) (λo hu=>hu) (λ_ _ _ _ _ q=>by cases q) ?_;rintro σ mi h1 h2 ⟨b,cs,t,rfl,q2,q3,q4⟩;refine⟨b,cs,t,rfl,q2, ?_,by rw[hsz];exact q4⟩;rw[hsz];refine Zgr path d d' s _ (λa ha=> ?_) hg _ q3;have:=ZC5 ha;subst this;simp only[repD];exact⟨none,0,rfl,yn _,by simp[maxLen],λ_=>rfl,λh=>absurd h (Nat.lt_irrefl 0),0,s,true,e,_,h1,yn _,λ_=>⟨rfl,.inl ⟨h2,rfl,rfl⟩⟩⟩
theorem ZHf{H:List Ent}{j:Nat}{d d':Dv}{st:Bool}(hj:H[j]? =some (.var d st))(hsz:d'.size=d.size)(hd:∀σ:Sg,Ok σ→σ.H=H→∀us,repD σ d us→repD σ d' us):W9 H (H.set j (.var d' st)):=by
 intro σ ok hH;subst hH;have hjl:j < σ.H.length:=(yr.1 hj).1;obtain⟨mi,hm⟩:∃mi,σ.m[j]? =some mi:=⟨_,yac (by rw[ok.len];exact hjl)⟩;let σ2:Sg:={ σ with m:=σ.m.set j mi,H:=σ.H.set j (.var d' st)};obtain⟨b,cs,t,rfl,q2,q3,q4⟩:=ok.ent j _ mi hj hm;have q5:=hd σ ok rfl _ q3
 obtain⟨to2,ok2⟩:=XK (σ':=σ2) (mi:=some b) (mi':=some b) ok hj hm rfl rfl rfl rfl rfl rfl rfl (yn _)
  (λ_ _ _=>rfl) (λ_ _ _ _ _ h=>h) (λo _ hu=>hu) (.inl rfl) (λq=>⟨rfl,_,_,rfl⟩) (λ⟨_,_,q⟩=>by cases q) (λs e xs q=>by cases q)
  (λleaf=>⟨b,cs,t,rfl,q2,by rw[hsz];exact Yi leaf _ _ q5,by rw[hsz];exact q4⟩)
  (λv s st e d q=>by cases q)
 exact⟨σ2,rfl,rfl,to2,ok2⟩
inductive GOp where
 |done (t:Tmp)
 |fresh (t:Tmp) (i:Nat)
 |rowt (t:Tmp) (path:List Nat) (T:Ty) (e:yb)
 |freshS (t:Tmp)
 |freshV (t:Tmp)
 |freshDone (t:Tmp) (i:Nat)
 |any (t:Tmp) (i:Nat) (T:Ty)
 |melt (t:Tmp)
 |split (t:Tmp) (ks:List Nat)
 |nn (t:Tmp)
def ZLe:TEnt→Bool
 |.rowN _ _ _ true _ _ _=>true
 |_=>false
section
variable{O:Type}{out:O}
abbrev Kh(O:Type):=List TD→List TEnt→Option O
def ZLf(t:Tmp)(path:List Nat)(T:Ty)(e:yb)(np:List Nat)(a:List TD)(h:List TEnt)(K:Kh O):Option O:=
 match a[t]? with
 |some (.ref id [])=>match h[id]? with
  |some (.var d true)=>(Zin T (.rw h.length) path d).bind λd'=>if(TD.frees h.length a&&h.all (TEnt.free h.length))=true then K a ((h++[TEnt.rowN T np [] true e [] []]).set id (.var d' true)) else none
  |_=>none
 |_=>none
def ZAa(t:Tmp)(path:List Nat)(T:Ty)(e:yb)(a:List TD)(h:List TEnt)(K:Kh O):Option O:=
 match a[t]? with
 |some (.ref id [])=>match h[id]? with
  |some (.var d true)=>(Zin T (.rw h.length) path d).bind λd'=>if(TD.frees h.length a&&h.all (TEnt.free h.length))=true then K a ((h++[TEnt.rowT T [] true e []]).set id (.var d' true)) else none
  |_=>none
 |_=>none
def Zyq(h:List TEnt):TD→Option (TD×List Nat)
 |.rw j=>match h[j]? with
  |some (.rowN T _ _ _ _ pre [])=>some (.p (.sl none T pre),[j])
  |some (.rowT T _ _ _ l)=>some (.p (.sl none T l),[j])
  |_=>none
 |d=>some (d,[])
def ZE2(h:List TEnt):TD→(TD→List Nat→Option O)→Option O
 |.rw j,K=>match h[j]? with
  |some (.rowN T _ _ _ _ pre post)=>if post.isEmpty=true then K (.p (.sl none T pre)) [j] else none
  |some (.rowT T _ _ _ l)=>K (.p (.sl none T l)) [j]
  |_=>none
 |d,K=>K d []
theorem ZAb{h:List TEnt}{d:TD}{K:TD→List Nat→Option O}(k:ZE2 h d K=some out):∃q,Zyq h d=some q∧K q.1 q.2=some out:=by
 unfold ZE2 at k;unfold Zyq;split at k
 ·rename_i j;dsimp only;split at k
  ·rename_i T np v st e pre post hd;rw[hd];obtain⟨h1,k⟩:=Za k
   cases post with
   |nil=>exact⟨_,rfl,k⟩
   |cons _ _=>cases h1
  ·rename_i T v st e l hd;rw[hd];exact⟨_,rfl,k⟩
  ·cases k
 ·rename_i hne;refine⟨(d,[]), ?_,k⟩;cases d <;> first|rfl|exact absurd rfl (hne _)
def ZAc(h:List TEnt):List TD→(List TD→List Nat→Option O)→Option O
 |[],K=>K [] []
 |d::r,K=>ZE2 h d λx l=>ZAc h r λy m=>K (x::y) (l++m)
def Zso(h:List TEnt):List TD→Option (List TD×List Nat)
 |[]=>some ([],[])
 |d::r=>match Zyq h d,Zso h r with
  |some q,some w=>some (q.1::w.1,q.2++w.2)
  |_,_=>none
theorem ZpV{h:List TEnt}:∀{ds:List TD}{K:List TD→List Nat→Option O},ZAc h ds K=some out→∃q,Zso h ds=some q∧K q.1 q.2=some out
 |[],K,k=>⟨_,rfl,k⟩
 |d::r,K,k=>by
  obtain⟨q,h1,k⟩:=ZAb k;obtain⟨w,h2,k⟩:=ZpV k;exact⟨(q.1::w.1,q.2++w.2),by simp only[Zso,h1,h2],k⟩
def Zj6:TEnt→TEnt
 |.rowN T np v _ e a b=>.rowN T np v false e a b
 |.rowT t v _ e l=>.rowT t v false e l
 |e=>e
def Zco(ids:List Nat)(H:List TEnt):List TEnt:=(yw H.length).zipWith (λi e=>if ids.contains i then Zj6 e else e) H
def Zsp(t:Tmp)(a:List TD)(h:List TEnt)(K:Kh O):Option O:=
 match a[t]? with
 |some (.ref id [])=>match h[id]? with
  |some (.var (.agg ds) st)=>ZAc h ds λx l=>K a ((Zco l h).set id (.var (.agg x) st))
  |_=>none
 |_=>none
def Zrc(t:Tmp)(i:Nat)(a:List TD)(h:List TEnt)(K:Kh O):Option O:=
 match a[t]? with
 |some (.ref j [])=>match h[j]? with
  |some (.var (.agg ds) st)=>match ds[i]? with
   |some (.rv id v s 0 n)=>match h[id]? with
    |some (.rowT T w _ _ l)=>if(decide (v=w.length)&&(decide (s=T.size)&&decide (n=l.length)))=true then K a (h.set j (.var (.agg (ds.set i (.rw id))) st)) else none
    |_=>none
   |_=>none
  |_=>none
 |_=>none
def Zsq(t:Tmp)(a:List TD)(h:List TEnt)(K:Kh O):Option O:=
 match a[t]? with
 |some (.rv id v s 0 n)=>match h[id]? with
  |some (.rowT T w _ _ l)=>if(decide (v=w.length)&&(decide (s=T.size)&&decide (n=l.length)))=true then K (a.set t (.rw id)) h else none
  |_=>none
 |_=>none
def Zsr(t:Tmp)(a:List TD)(h:List TEnt)(K:Kh O):Option O:=
 match a[t]? with
 |some (.ref j [])=>match h[j]? with
  |some (.var (.rv id v s 0 n) st)=>match h[id]? with
   |some (.rowT T w _ _ l)=>if(decide (v=w.length)&&(decide (s=T.size)&&decide (n=l.length)))=true then K a (h.set j (.var (.rw id) st)) else none
   |_=>none
  |_=>none
 |_=>none
def ZE3(t:Tmp)(i:Nat)(T:Ty)(a:List TD)(h:List TEnt)(K:Kh O):Option O:=
 match a[t]? with
 |some (.ref j [])=>match h[j]? with
  |some (.var (.agg ds) st)=>match ds[i]? with
   |some (.p x)=>(TP.to Zj1 x T).bind λy=>K a (h.set j (.var (.agg (ds.set i (.p (.v T y)))) st))
   |_=>none
  |_=>none
 |_=>none
def ZAd(t:Tmp)(a:List TD)(h:List TEnt)(K:Kh O):Option O:=
 match a[t]? with
 |some (.ref j [])=>match h[j]? with
  |some (.var (.p (.arr n s xs)) st)=>K a (h.set j (.var (.arr n s (xs.map TD.p)) st))
  |_=>K a h
 |_=>K a h
def Zwv(z:Int)(t:Tmp)(a:List TD)(h:List TEnt)(K:Kh O):List Nat→Option O
 |[]=>none
 |n::r=>if(z==(n:Int))=true then K (a.set t (.p (.v (.int .i64) (n:Int)))) h else Zwv z t a h K r
def Zww(t:Tmp)(ks:List Nat)(a:List TD)(h:List TEnt)(K:Kh O):Option O:=
 match a.getD t .junk with
 |.p (.v (.int .i64) z)=>Zwv z t a h K ks
 |_=>none
def ZI0(t:Tmp)(a:List TD)(h:List TEnt)(K:Kh O):Option O:=
 match a.getD t .junk with
 |.ref _ _=>K a h
 |_=>none
def ghT:GOp→List TD→List TEnt→Kh O→Option O
 |.done t,a,h,K=>Zsp t a h K
 |.fresh t i,a,h,K=>Zrc t i a h K
 |.rowt t path T e,a,h,K=>ZAa t path T e a h K
 |.freshS t,a,h,K=>Zsq t a h K
 |.freshV t,a,h,K=>Zsr t a h K
 |.freshDone t i,a,h,K=>Zrc t i a h λa h=>Zsp t a h K
 |.any t i T,a,h,K=>ZE3 t i T a h K
 |.melt t,a,h,K=>ZAd t a h K
 |.split t ks,a,h,K=>Zww t ks a h K
 |.nn t,a,h,K=>ZI0 t a h K
def ghO(g:Option GOp)(a:List TD)(h:List TEnt)(K:Kh O):Option O:=
 match g with
 |none=>K a h
 |some g=>ghT g a h K
theorem ZHg{H:List TEnt}{e:TEnt}(h:H.all (TEnt.free H.length)=true):erH (H++[e])=erH H++[e.er (lk (H++[e]))]:=by
 unfold erH;rw[yax];congr 1;refine ycj λx hx=> ?_;have hf:=ybd.1 h x hx;exact(Zye (λid t hn=>Zc9 id t hn) x hf).symm
theorem ZHh{H:List TEnt}{e:TEnt}{a:List TD}(h:TD.frees H.length a=true):TD.ers (lk (H++[e])) a=TD.ers (lk H) a:=(ers_free (λid t hn=>Zc9 id t hn) a h).symm
theorem Zyr{t:Tmp}{path:List Nat}{T:Ty}{e:yb}{a:List TD}{h:List TEnt}{K:Kh O}(k:ZAa t path T e a h K=some out):
 ∃a' h',K a' h'=some out∧a'.length=a.length∧W9 (erH h) (erH h')∧∀(σ:Sg)(act:Act),RepT σ (TD.ers (lk h) a) act→RepT σ (TD.ers (lk h') a') act:=by
 unfold ZAa at k;split at k
 ·rename_i id hid;split at k
  ·rename_i d hd;obtain⟨d',h1,k⟩:=yf.1 k;obtain⟨h2,k⟩:=Za k;rw[yj] at h2;have hlt:id < h.length:=(yr.1 hd).1;have hd':(h++[TEnt.rowT T [] true e []])[id]? =some (.var d true):=by rw[yan hlt];exact hd
   have hL:lk ((h++[TEnt.rowT T [] true e []]).set id (.var d' true))=lk (h++[TEnt.rowT T [] true e []]):=Qo hd' rfl rfl;refine⟨_,_,k,rfl, ?_,λσ act r=> ?_⟩
   ·have e1:erH ((h++[TEnt.rowT T [] true e []]).set id (.var d' true))=(erH h++[Ent.row 0 T.size true e (.p (.arr 0 T.size []))]).set id (.var (d'.er (lk (h++[TEnt.rowT T [] true e []]))) true):=by
     rw[Ws hL,ZHg h2.2];rfl
    rw[e1];have hj:(erH h)[id]? =some (.var (d.er (lk h)) true):=by rw[Yo hd];rfl
    refine ZHe (path:=path) hj ?_;have e2:=Zlh (L:=lk (h++[TEnt.rowT T [] true e []])) path d d' h1;have e3:d.er (lk (h++[TEnt.rowT T [] true e []]))=d.er (lk h):=(Zez (λid t hn=>Zc9 id t hn) d (ybd.1 h2.2 _ (List.mem_of_getElem? hd))).symm;rw[e3,(ZbW (T:=T) (v:=[]) (l:=[]) (List.getElem?_concat_length ..)).1] at e2;rw[ZO];exact e2
   ·rw[hL,ZHh h2.1];exact r
  ·cases k
 ·cases k
theorem ZE4(e:TEnt):lkE (some (Zj6 e))=lkE (some e):=by cases e <;> rfl
theorem Zio(ids:List Nat)(H:List TEnt)(i:Nat):(Zco ids H)[i]? =(H[i]?).map λe=>if ids.contains i then Zj6 e else e:=by
 unfold Zco;rw[List.getElem?_zipWith];rcases Nat.lt_or_ge i H.length with h|h
 ·rw[List.getElem?_range h,yac h];rfl
 ·rw[yao (by simpa using h),yao h];rfl
theorem ZuQ(ids:List Nat)(H:List TEnt):lk (Zco ids H)=lk H:=by
 funext i;unfold lk;rw[Zio]
 cases H[i]? with
 |none=>rfl
 |some e=>
  show lkE (some (if ids.contains i=true then Zj6 e else e))=_
  split
  ·exact ZE4 e
  ·rfl
theorem ZC6(ids:List Nat)(H:List TEnt):WkH (erH H) (erH (Zco ids H)):=by
 refine Zz9 (by rw[ZO,ZO];unfold Zco;simp) λi a b h1 h2=> ?_;unfold erH at h1 h2;rw[yal] at h1 h2;rw[ZuQ,Zio] at h2
 cases he:H[i]? with
 |none=>rw[he] at h1;cases h1
 |some e=>
  rw[he] at h1 h2;cases h1;cases h2;show WkE (e.er (lk H)) (TEnt.er (lk H) (if ids.contains i=true then Zj6 e else e))
  split
  ·cases e <;> first|exact .refl _|exact .lock
  ·exact .refl _
theorem ZE5{h H:List TEnt}{d:TD}{q:TD×List Nat}(hq:Zyq h d=some q)(hL:lk H=lk h)(hl:∀j,j∈q.2→∀e,h[j]? =some e→H[j]? =some (Zj6 e)):
 (q.1.er (lk H)).size=(d.er (lk H)).size∧∀σ:Sg,Ok σ→σ.H=erH H→∀us,repD σ (d.er (lk H)) us→repD σ (q.1.er (lk H)) us:=by
 have other:∀x:TD,(q.1.er (lk H)).size=(q.1.er (lk H)).size∧∀σ:Sg,Ok σ→σ.H=erH H→∀us,repD σ (q.1.er (lk H)) us→repD σ (q.1.er (lk H)) us:=λ_=>⟨rfl,λ_ _ _ _ r=>r⟩
 have row:∀(j:Nat)(v:Nat)(s:Nat)(e:yb)(xs:List Pl)(T:Ty)(l:List T.den),(TD.rw j).er (lk H)=.rv j v s 0 xs.length→(erH H)[j]? =some (.row v s false e (.p (.arr xs.length s xs)))→s=T.size→xs=l.map T.enc→
  ((TD.p (.sl none T l)).er (lk H)).size=((TD.rw j).er (lk H)).size∧∀σ:Sg,Ok σ→σ.H=erH H→∀us,repD σ ((TD.rw j).er (lk H)) us→repD σ ((TD.p (.sl none T l)).er (lk H)) us:=by
  intro j v s e xs T l e1 e2 e3 e4;subst e3;rw[e1];refine⟨rfl,λσ ok hH us r=> ?_⟩;have dr:=DeepR.rvp (H:=σ.H) (lo:=0) (n:=xs.length) (by rw[hH];exact e2) (by omega);rw[List.drop_zero,ybl] at dr;have:=ZrZ ok dr us r;rw[TD.er,TP.pe, ←e4];simpa[repD] using this
 unfold Zyq at hq;split at hq
 ·rename_i j;split at hq
  ·rename_i T np v st e pre hd;cases hq;have hH:=hl j (yav ..) _ hd;have hr:=ZG2 (q:=(v.length,T.size,pre.length+0)) (x:=Zj6 (.rowN T np v st e pre [])) hH rfl;refine row j v.length T.size e (pre.map T.enc) T pre (by rw[hr.1,yz];rfl) ?_ rfl rfl;rw[Yo hH,yz];simp only[Zj6,TEnt.er,List.map_nil,ybh,ycq,Nat.add_zero]
  ·rename_i T v st e l hd;cases hq;have hH:=hl j (yav ..) _ hd;have hr:=ZbW (T:=T) (v:=v) (st:=false) (e:=e) (l:=l) hH;refine row j v.length T.size e (l.map T.enc) T l (by rw[hr.1,yz]) ?_ rfl rfl;rw[Yo hH,yz];rfl
  ·cases hq
 ·cases hq;exact other d
theorem ZuR{h H:List TEnt}:∀{ds:List TD}{q:List TD×List Nat},Zso h ds=some q→lk H=lk h→(∀j,j∈q.2→∀e,h[j]? =some e→H[j]? =some (Zj6 e))→
 Dv.sizes (TD.ers (lk H) q.1)=Dv.sizes (TD.ers (lk H) ds)∧∀σ:Sg,Ok σ→σ.H=erH H→∀us,repDs σ (TD.ers (lk H) ds) us→repDs σ (TD.ers (lk H) q.1) us
 |[],q,hq,hL,hl=>by cases hq;exact⟨rfl,λ_ _ _ _ r=>r⟩
 |d::r,q,hq,hL,hl=>by
  simp only[Zso] at hq;split at hq
  ·rename_i q1 q2 h1 h2;cases hq;obtain⟨a1,a2⟩:=ZE5 h1 hL (λj hj=>hl j (List.mem_append_left _ hj));obtain⟨b1,b2⟩:=ZuR h2 hL (λj hj=>hl j (List.mem_append_right _ hj));refine⟨by simp only[TD.ers,Dv.sizes];rw[a1,b1],λσ ok hH us rr=> ?_⟩;simp only[TD.ers,repDs] at rr ⊢;obtain⟨u1,u2,e1,e2,e3⟩:=rr;exact⟨u1,u2,e1,a2 σ ok hH _ e2,b2 σ ok hH _ e3⟩
  ·cases hq
theorem ZpW{t:Tmp}{a:List TD}{h:List TEnt}{K:Kh O}(k:Zsp t a h K=some out):
 ∃a' h',K a' h'=some out∧a'.length=a.length∧W9 (erH h) (erH h')∧∀(σ:Sg)(act:Act),RepT σ (TD.ers (lk h) a) act→RepT σ (TD.ers (lk h') a') act:=by
 unfold Zsp at k;split at k
 ·rename_i id hid;split at k
  ·rename_i ds st hd;obtain⟨q,h1,k⟩:=ZpV k
   have hd2:(Zco q.2 h)[id]? =some (.var (.agg ds) st):=by
    rw[Zio,hd];show some (if q.2.contains id=true then Zj6 (.var (.agg ds) st) else .var (.agg ds) st)=_
    split <;> rfl
   have hL0:lk (Zco q.2 h)=lk h:=ZuQ _ _;have hL:lk ((Zco q.2 h).set id (.var (.agg q.1) st))=lk (Zco q.2 h):=Qo hd2 rfl rfl;refine⟨_,_,k,rfl,(ZE1 (ZC6 q.2 h)).trans ?_,λσ act rr=>by rw[hL,hL0];exact rr⟩;rw[Ws hL];have hj:(erH (Zco q.2 h))[id]? =some (.var (.agg (TD.ers (lk (Zco q.2 h)) ds)) st):=by rw[Yo hd2];rfl
   obtain⟨c1,c2⟩:=ZuR (H:=Zco q.2 h) h1 hL0 (λj hj e he=>by
    rw[Zio,he];show some (if q.2.contains j=true then Zj6 e else e)=_
    rw[if_pos (by simpa using hj)])
   refine ZHf hj ?_ λσ ok hH us r=> ?_
   ·exact c1
   ·simp only[TD.er,repD] at r ⊢;exact c2 σ ok hH us r
  ·cases k
 ·cases k
theorem Zys{L:Lk}{ds:List TD}{i:Nat}{x y:TD}(h:ds[i]? =some x)(e:y.er L=x.er L):TD.ers L (ds.set i y)=TD.ers L ds:=by
 rw[ZN,ZN,ybo,e];apply ybp;intro k;by_cases hk:i=k
 ·subst hk;rw[ycr (by rw[yz];exact(yr.1 h).1),yal,h];rfl
 ·rw[yda hk]
theorem ZnM{t:Tmp}{i:Nat}{a:List TD}{h:List TEnt}{K:Kh O}(k:Zrc t i a h K=some out):
 ∃a' h',K a' h'=some out∧a'.length=a.length∧W9 (erH h) (erH h')∧∀(σ:Sg)(act:Act),RepT σ (TD.ers (lk h) a) act→RepT σ (TD.ers (lk h') a') act:=by
 unfold Zrc at k;split at k
 ·rename_i j hj;split at k
  ·rename_i ds st hd;split at k
   ·rename_i id v s n hi;split at k
    ·rename_i T w st' e l hr;obtain⟨c,k2⟩:=Za k;clear k;rw[yj,yj,decide_eq_true_eq,decide_eq_true_eq,decide_eq_true_eq] at c;obtain⟨rfl,rfl,rfl⟩:=c;have hL:lk (h.set j (.var (.agg (ds.set i (.rw id))) st))=lk h:=Qo hd rfl rfl
     have he:(TD.rw id).er (lk h)=(TD.rv id w.length T.size 0 l.length).er (lk h):=by
      refine(Zwq (v:=w) (s:=T.size) (N:=l.length) ?_).1;unfold Ya lk;dsimp only;rw[hr];rfl
     refine⟨_,_,k2,rfl, ?_,λσ act rr=>by rw[hL];exact rr⟩
     have e2:erH (h.set j (.var (.agg (ds.set i (.rw id))) st))=erH h:=by
      rw[Ws hL];show(erH h).set j (.var (.agg (TD.ers (lk h) (ds.set i (.rw id)))) st)=erH h;rw[Zys hi he];apply ybp;intro q;by_cases hq:j=q
      ·subst hq;have hjl:(erH h)[j]? =some (.var (.agg (TD.ers (lk h) ds)) st):=by rw[Yo hd];rfl
       rw[ycr (yr.1 hjl).1,hjl]
      ·rw[yda hq]
     rw[e2];exact W9.refl _
    ·cases k
   ·cases k
  ·cases k
 ·cases k
theorem Zyt{h:List TEnt}{id:Nat}{T:Ty}{w:List Unit}{st:Bool}{e:yb}{l:List T.den}(hr:h[id]? =some (.rowT T w st e l)):(TD.rw id).er (lk h)=(TD.rv id w.length T.size 0 l.length).er (lk h):=by
 refine(Zwq (v:=w) (s:=T.size) (N:=l.length) ?_).1;unfold Ya lk;dsimp only;rw[hr];rfl
theorem ZtQ{t:Tmp}{a:List TD}{h:List TEnt}{K:Kh O}(k:Zsq t a h K=some out):
 ∃a' h',K a' h'=some out∧a'.length=a.length∧W9 (erH h) (erH h')∧∀(σ:Sg)(act:Act),RepT σ (TD.ers (lk h) a) act→RepT σ (TD.ers (lk h') a') act:=by
 unfold Zsq at k;split at k
 ·rename_i id v s n hi;split at k
  ·rename_i T w st' e l hr;obtain⟨c,k2⟩:=Za k;clear k;rw[yj,yj,decide_eq_true_eq,decide_eq_true_eq,decide_eq_true_eq] at c;obtain⟨rfl,rfl,rfl⟩:=c;exact⟨_,_,k2,ybj,W9.refl _,λσ act rr=>by rw[Zys hi (Zyt hr)];exact rr⟩
  ·cases k
 ·cases k
theorem ZtR{t:Tmp}{a:List TD}{h:List TEnt}{K:Kh O}(k:Zsr t a h K=some out):
 ∃a' h',K a' h'=some out∧a'.length=a.length∧W9 (erH h) (erH h')∧∀(σ:Sg)(act:Act),RepT σ (TD.ers (lk h) a) act→RepT σ (TD.ers (lk h') a') act:=by
 unfold Zsr at k;split at k
 ·rename_i j hj;split at k
  ·rename_i id v s n st hd;split at k
   ·rename_i T w st' e l hr;obtain⟨c,k2⟩:=Za k;clear k;rw[yj,yj,decide_eq_true_eq,decide_eq_true_eq,decide_eq_true_eq] at c;obtain⟨rfl,rfl,rfl⟩:=c;have hL:lk (h.set j (.var (.rw id) st))=lk h:=Qo hd rfl rfl;refine⟨_,_,k2,rfl, ?_,λσ act rr=>by rw[hL];exact rr⟩
    have e2:erH (h.set j (.var (.rw id) st))=erH h:=by
     rw[Ws hL];show(erH h).set j (.var ((TD.rw id).er (lk h)) st)=erH h;rw[Zyt hr];apply ybp;intro q;by_cases hq:j=q
     ·subst hq;have hjl:(erH h)[j]? =some (.var ((TD.rv id w.length T.size 0 l.length).er (lk h)) st):=by rw[Yo hd];rfl
      rw[ycr (yr.1 hjl).1,hjl]
     ·rw[yda hq]
    rw[e2];exact W9.refl _
   ·cases k
  ·cases k
 ·cases k
theorem ZBy:∀{l:List Dv}{i:Nat}{d e:Dv},l[i]? =some d→Wk d e→WkL l (l.set i e)
 |[],_,_,_,h,_=>by simp at h
 |x::r,0,d,e,h,k=>by
  simp only[yas,yi] at h;subst h
  exact .cons k (WkL.refl r)
 |x::r,i+1,d,e,h,k=>by
  simp only[yap] at h;exact .cons (Wk.refl x) (ZBy h k)
theorem ZE6{L:Lk}:∀{ds:List TD}{i:Nat}{d e:TD},ds[i]? =some d→(TD.ers L ds)[i]? =some (d.er L)∧TD.ers L (ds.set i e)=(TD.ers L ds).set i (e.er L)
 |[],_,_,_,h=>by simp at h
 |x::r,0,d,e,h=>by
  simp only[yas,yi] at h;subst h
  exact⟨rfl,rfl⟩
 |x::r,i+1,d,e,h=>by
  simp only[yap] at h;obtain⟨h1,h2⟩:=ZE6 (e:=e) h;exact⟨h1,by show x.er L::TD.ers L (r.set i e)=_;rw[h2];rfl⟩
theorem ZAe{t:Tmp}{i:Nat}{T:Ty}{a:List TD}{h:List TEnt}{K:Kh O}(k:ZE3 t i T a h K=some out):
 ∃a' h',K a' h'=some out∧a'.length=a.length∧W9 (erH h) (erH h')∧∀(σ:Sg)(act:Act),RepT σ (TD.ers (lk h) a) act→RepT σ (TD.ers (lk h') a') act:=by
 unfold ZE3 at k;split at k
 ·rename_i j hj;split at k
  ·rename_i ds st hd;split at k
   ·rename_i x hx;obtain⟨y,h1,k⟩:=yf.1 k;have hL:lk (h.set j (.var (.agg (ds.set i (.p (.v T y)))) st))=lk h:=Qo hd rfl rfl;refine⟨_,_,k,rfl, ?_,λσ act rr=>by rw[hL];exact rr⟩;rw[Ws hL];have hjl:(erH h)[j]? =some (.var (.agg (TD.ers (lk h) ds)) st):=by rw[Yo hd];rfl
    obtain⟨e1,e2⟩:=ZE6 (L:=lk h) (e:=.p (.v T y)) hx;refine ZE1 (WkH.set_at hjl (WkE.var ?_));show Wk (.agg (TD.ers (lk h) ds)) (.agg (TD.ers (lk h) (ds.set i (.p (.v T y)))));rw[e2];exact WkL.agg (ZBy e1 (Wk.p (ZxS h1)))
   ·cases k
  ·cases k
 ·cases k
theorem Wk.melt{n s:Nat}{xs:List Pl}:Wk (.p (.arr n s xs)) (.arr n s (xs.map Dv.p)):=⟨rfl,rfl,λσ vs r=>by
 simp only[repD,repC] at r ⊢;exact⟨by rw[yz];exact r.1,λx hx=>by obtain⟨y,hy,rfl⟩:=List.mem_map.1 hx;exact r.2.1 y hy,Zh9.2 r.2.2⟩⟩
theorem Zyu{t:Tmp}{a:List TD}{h:List TEnt}{K:Kh O}(k:ZAd t a h K=some out):
 ∃a' h',K a' h'=some out∧a'.length=a.length∧W9 (erH h) (erH h')∧∀(σ:Sg)(act:Act),RepT σ (TD.ers (lk h) a) act→RepT σ (TD.ers (lk h') a') act:=by
 unfold ZAd at k;split at k
 ·rename_i j hj;split at k
  ·rename_i n s xs st hd;have hL:lk (h.set j (.var (.arr n s (xs.map TD.p)) st))=lk h:=Qo hd rfl rfl;refine⟨_,_,k,rfl, ?_,λσ act rr=>by rw[hL];exact rr⟩;rw[Ws hL];have hjl:(erH h)[j]? =some (.var (.p (.arr n s (TP.pes xs))) st):=by rw[Yo hd];rfl
   refine ZE1 (WkH.set_at hjl (WkE.var ?_));show Wk (.p (.arr n s (TP.pes xs))) (.arr n s (TD.ers (lk h) (xs.map TD.p)))
   have e:TD.ers (lk h) (xs.map TD.p)=(TP.pes xs).map Dv.p:=by
    rw[ZN,ZcJ,ybc,ybc];rfl
   rw[e];exact Wk.melt
  ·exact⟨_,_,k,rfl,W9.refl _,λ_ _ r=>r⟩
 ·exact⟨_,_,k,rfl,W9.refl _,λ_ _ r=>r⟩
theorem ZpX{z:Int}{t:Tmp}{a:List TD}{h:List TEnt}{K:Kh O}(ha:a.getD t .junk=.p (.v (.int .i64) z)):∀{ks:List Nat},Zwv z t a h K ks=some out→K a h=some out
 |[],k=>by cases k
 |n::r,k=>by
  unfold Zwv at k;split at k
  ·rename_i e;have e:z=(n:Int):=by simpa using e
   rw[set_same (by rw[ha,e])] at k;exact k
  ·exact ZpX ha k
theorem Zwx{t:Tmp}{ks:List Nat}{a:List TD}{h:List TEnt}{K:Kh O}(k:Zww t ks a h K=some out):
 ∃a' h',K a' h'=some out∧a'.length=a.length∧W9 (erH h) (erH h')∧∀(σ:Sg)(act:Act),RepT σ (TD.ers (lk h) a) act→RepT σ (TD.ers (lk h') a') act:=by
 unfold Zww at k;split at k
 ·rename_i z hz;exact⟨_,_,ZpX hz k,rfl,W9.refl _,λ_ _ r=>r⟩
 ·cases k
theorem ZE7{g:Option GOp}{a:List TD}{h:List TEnt}{K:Kh O}(k:ghO g a h K=some out):
 ∃a' h',K a' h'=some out∧a'.length=a.length∧W9 (erH h) (erH h')∧∀(σ:Sg)(act:Act),RepT σ (TD.ers (lk h) a) act→RepT σ (TD.ers (lk h') a') act:=by
 unfold ghO at k;split at k
 ·exact⟨_,_,k,rfl,W9.refl _,λ_ _ r=>r⟩
 ·rename_i g
  cases g with
  |done t=>exact ZpW k
  |fresh t i=>exact ZnM k
  |rowt t path T e=>exact Zyr k
  |freshS t=>exact ZtQ k
  |freshV t=>exact ZtR k
  |freshDone t i=>
   obtain⟨a1,h1,k,l1,g1,r1⟩:=ZnM (K:=λa h=>Zsp t a h K) k;obtain⟨a2,h2,k,l2,g2,r2⟩:=ZpW k
   exact⟨a2,h2,k,l2.trans l1,g1.trans g2,λσ act r=>r2 σ act (r1 σ act r)⟩
  |any t i T=>exact ZAe k
  |melt t=>exact Zyu k
  |split t ks=>exact Zwx k
  |nn t=>
   replace k:ZI0 t a h K=some out:=k
   unfold ZI0 at k;split at k
   ·exact⟨_,_,k,rfl,W9.refl _,λ_ _ r=>r⟩
   ·cases k
end
end Go.Ev
end
section
namespace Go.Ev
section
variable{P:yg}
theorem Zyv{x y:Code}{ts ts1 ts2:List Dv}{H H1 H2:List Ent}{ex:Ex}(r1:Ww P x ts H .normal ts1 H1)(r2:Ww P y ts1 H1 ex ts2 H2):Ww P (.seq x y) ts H ex ts2 H2:=by
 intro σ a ok hH hrep;refine wp_seq (wp_mono (r1 σ a ok hH hrep) ?_);rintro e a' w' ⟨rfl,σ1,rfl,e1,to1,ok1,hrep1⟩;refine wp_mono (r2 σ1 a' ok1 e1 hrep1) ?_;rintro e a'' w'' ⟨rfl,σ2,rfl,e2,to2,ok2,hrep2⟩;exact⟨rfl,σ2,rfl,e2,to1.trans to2,ok2,hrep2⟩
theorem ZuS{x y:Code}{ts ts1:List Dv}{H H1:List Ent}{ex:Ex}(hne:ex≠ .normal)(r1:Ww P x ts H ex ts1 H1):Ww P (.seq x y) ts H ex ts1 H1:=by
 intro σ a ok hH hrep;refine wp_seq (wp_mono (r1 σ a ok hH hrep) ?_);rintro e a' w' ⟨rfl,hq⟩
 cases ex with
 |normal=>exact absurd rfl hne
 |exit id=>exact⟨rfl,hq⟩
 |ret=>exact⟨rfl,hq⟩
theorem Zln{c:yo}{x y:Code}{ts ts1:List Dv}{H H1:List Ent}{ex:Ex}{b:Bool}(hc:Zy P ts 0 c=.p (.bool b))(r1:Ww P (if b then x else y) ts H ex ts1 H1):Ww P (.cond c x y) ts H ex ts1 H1:=by
 intro σ a ok hH hrep;have hv:=Zk (P:=P) hrep 0 c;rw[hc] at hv;cases b
 ·exact wp_cond_false (YN hv) (r1 σ a ok hH hrep)
 ·exact wp_cond_true (YN hv) (r1 σ a ok hH hrep)
def Zwy(id:Nat):Ex→Ex
 |.exit i=>if i=id then .normal else .exit i
 |ex=>ex
theorem ZAf{id:Nat}{body:Code}{ts ts1:List Dv}{H H1:List Ent}{ex:Ex}(r1:Ww P body ts H ex ts1 H1):Ww P (.block id body) ts H (Zwy id ex) ts1 H1:=by
 intro σ a ok hH hrep;refine wp_block (wp_mono (r1 σ a ok hH hrep) ?_);rintro e a' w' ⟨rfl,hq⟩
 cases ex with
 |normal=>exact⟨rfl,hq⟩
 |exit id'=>
  simp only[Ex.to,Exit.inBlock,Zwy];split
  ·exact⟨rfl,hq⟩
  ·exact⟨rfl,hq⟩
 |ret=>exact⟨rfl,hq⟩
theorem ZAg{body:Code}{ts ts1:List Dv}{H H1:List Ent}{ex:Ex}(r1:Ww P body ts H ex ts1 H1):Ww P (.scope body) ts H ex ts1 H1:=by
 intro σ a ok hH hrep;refine wp_scope_straight (wp_mono (r1 σ a ok hH hrep) ?_);rintro e a' w' ⟨rfl,hq⟩;cases ex <;> exact⟨rfl,hq⟩
theorem ZC7{ts:List Dv}{H:List Ent}:Ww P .skip ts H .normal ts H:=λσ a ok hH hrep=>wp_skip ⟨rfl,σ,rfl,hH,To.refl σ,ok,hrep⟩
theorem ZAh{n:Nat}{ts:List Dv}{H:List Ent}:Ww P (.label n) ts H .normal ts H:=λσ a ok hH hrep=>wp_label ⟨rfl,σ,rfl,hH,To.refl σ,ok,hrep⟩
theorem ZC8{n:Nat}{ts:List Dv}{H:List Ent}:Ww P (.exit n) ts H (.exit n) ts H:=λσ a ok hH hrep=>wp_exit ⟨rfl,σ,rfl,hH,To.refl σ,ok,hrep⟩
theorem ZE8{ts:List Dv}{H:List Ent}:Ww P .ret ts H .ret ts H:=λσ a ok hH hrep=>wp_ret ⟨rfl,σ,rfl,hH,To.refl σ,ok,hrep⟩
theorem ZC9{c:Code}{ts ts1:List Dv}{H H1:List Ent}{ex:Ex}(keep:List Nat)(r:Ww P c ts H ex ts1 H1):Ww P c ts H ex (ZU keep 0 ts1) H1:=by
 intro σ a ok hH hrep;refine wp_mono (r σ a ok hH hrep) ?_;rintro e a' w' ⟨rfl,σ1,rfl,e1,to1,ok1,hrep1⟩;exact⟨rfl,σ1,rfl,e1,to1,ok1,Za8 keep hrep1⟩
def Zyw(n0:Nat)(sl:Slots)(es:List ESh)(a:List TD)(h:List TEnt):Option (List TV):=
 if once (yw n0++[]) then(Wi h (yw n0++[]) (yw n0++[])).bind λh2=>(TD.rns (toIds (yw n0++[])) (Zjb (sl.map (·.1)) 0 a)).bind λa2=>
  (Sh.mts (lk h2) (shs sl a.length) a2).bind λq=>(ESh.mts (lk h2) es h2).bind λw=>some (q.2++w.2)
 else none
theorem ZAi{n0:Nat}{sl:Slots}{es:List ESh}{a:List TD}{h:List TEnt}{vs:List TV}(k:Zyw n0 sl es a h=some vs):
 ∃a3 h3,VQ a.length sl es vs=some (a3,h3)∧∀{c:Code}{ts:List Dv}{H:List Ent}{ex:Ex},H.length=n0→Ww P c ts H ex (TD.ers (lk h) a) (erH h)→Ww P c ts H ex (TD.ers (lk h3) a3) (erH h3):=by
 unfold Zyw at k;split at k
 ·rename_i ho;obtain⟨h2,h1,k⟩:=yf.1 k;obtain⟨a2,e2,k⟩:=yf.1 k;obtain⟨q,e3,k⟩:=yf.1 k;obtain⟨w,e4,k⟩:=yf.1 k;cases k;obtain⟨g1,g2⟩:=ZhA e4;have hc:∀id t,Ya (lk h2) id t none=Ya (lk w.1) id t none:=λid t=>by rw[g2]
  refine⟨q.1,w.1, ?_,λ{c ts H ex}hl r=> ?_⟩
  ·unfold VQ;rw[mts_fills _ _ _ e3];have:=ZaD e4 [];rw[ybh] at this;rw[ya,this];rfl
  ·have r1:=ZC9 (sl.map (·.1)) r;rw[←ZnK] at r1;have r2:=ZCP [] [] r1 (by rw[hl];exact ho) (by rw[hl];exact Wd (Q6 h1) h1) (by rw[hl];exact rns_er (Q6 h1) _ _ e2);exact ZuB r2 (mts_wk hc _ _ _ e3) (Zll hc e4)
 ·cases k
theorem ZAj{n0:Nat}{sl:Slots}{es:List ESh}{a:List TD}{h:List TEnt}{vs:List TV}(hn:h.length=n0)(k:Zyw n0 sl es a h=some vs):
 ∃a3 h3,VQ a.length sl es vs=some (a3,h3)∧∀(σ:Sg)(act:Act),Ok σ→σ.H=erH h→RepT σ (TD.ers (lk h) a) act→∃σ':Sg,σ'.w=σ.w∧σ'.H=erH h3∧To σ σ'∧Ok σ'∧RepT σ' (TD.ers (lk h3) a3) act:=by
 subst hn;unfold Zyw at k;split at k
 ·rename_i ho;obtain⟨h2,h1,k⟩:=yf.1 k;obtain⟨a2,e2,k⟩:=yf.1 k;obtain⟨q,e3,k⟩:=yf.1 k;obtain⟨w,e4,k⟩:=yf.1 k;cases k;obtain⟨g1,g2⟩:=ZhA e4;have hc:∀id t,Ya (lk h2) id t none=Ya (lk w.1) id t none:=λid t=>by rw[g2]
  refine⟨q.1,w.1, ?_,λσ act ok hH hrep=> ?_⟩
  ·unfold VQ;rw[mts_fills _ _ _ e3];have:=ZaD e4 [];rw[ybh] at this;rw[ya,this];rfl
  ·have r1:=Za8 (sl.map (·.1)) hrep;rw[←ZnK] at r1
   have hin:subEnts σ.H (yw σ.H.length++[]) (yw σ.H.length++[])=some (erH h2):=by
    rw[hH,ZO];exact Wd (Q6 h1) h1
   have ho':once (yw σ.H.length++[])=true:=by rw[hH,ZO];exact ho
   have e2':Dv.rns (toIds (yw σ.H.length++[])) (TD.ers (lk h) (Zjb (sl.map (·.1)) 0 a))=some (TD.ers (lk h2) a2):=by
    rw[hH,ZO];exact rns_er (Q6 h1) _ _ e2
   have r2:=ZxK (Zik hin) e2' r1;have to1:=Zq4 ok (To.refl σ) ho' hin;have ok1:=Zq3 ok ho' hin;obtain⟨to2,ok2⟩:=Znd (σ:=Zl0 σ (yw σ.H.length++[]) (erH h2)) ok1 (H':=erH w.1) (Zll hc e4);exact⟨{ Zl0 σ (yw σ.H.length++[]) (erH h2) with H:=erH w.1},rfl,rfl,to1.trans to2,ok2,(mts_wk hc _ _ _ e3).repT (r2.to to2.leaf)⟩
 ·cases k
def ZI1(L:Lk):ESh→TEnt→Option TEnt
 |.rowN _ _ _ _,.rowM u np v st e pre mid post=>(ZIQ L u mid).map λy=>.rowN u np v st e (pre++[y]) post
 |_,x=>some x
def ZE9(L:Lk):List ESh→List TEnt→Option (List TEnt)
 |[],h=>some h
 |_::_,[]=>some []
 |s::r,x::h=>match ZI1 L s x,ZE9 L r h with
  |some y,some ys=>some (y::ys)
  |_,_=>none
theorem ZHi{L:Lk}{s:ESh}{x y:TEnt}(h:ZI1 L s x=some y):lkE (some y)=lkE (some x)∧WkE (x.er L) (y.er L):=by
 unfold ZI1 at h;split at h
 ·rename_i u np v st e pre mid post;obtain⟨c,h1,rfl⟩:=Zb h;refine⟨?_,ZBo (ZBl h1)⟩;simp only[lkE,yp,yag,ycq];rw[ycg,Nat.add_comm (0+1)]
 ·cases h;exact⟨rfl,.refl _⟩
theorem ZBz{L:Lk}:∀{es:List ESh}{h h':List TEnt},ZE9 L es h=some h'→h'.length=h.length∧(∀j:Nat,lkE (h'[j]?)=lkE (h[j]?))∧WkH (h.map (TEnt.er L)) (h'.map (TEnt.er L))
 |[],h,h',k=>by cases k;exact⟨rfl,λ_=>rfl,WkH.refl _⟩
 |_::_,[],h',k=>by cases k;exact⟨rfl,λ_=>rfl,WkH.refl _⟩
 |s::r,x::h,h',k=>by
  simp only[ZE9] at k;split at k
  ·rename_i y ys h1 h2;cases k;obtain⟨a1,a2⟩:=ZHi h1;obtain⟨b1,b2,b3⟩:=ZBz h2;refine⟨by simp[b1],λj=> ?_,.cons a2 b3⟩
   cases j with
   |zero=>exact a1
   |succ j=>exact b2 j
  ·cases k
theorem ZBA{es:List ESh}{h h':List TEnt}(k:ZE9 (lk h) es h=some h'):h'.length=h.length∧lk h'=lk h∧WkH (erH h) (erH h'):=by
 obtain⟨a,b,c⟩:=ZBz k;have e:lk h'=lk h:=funext b;refine⟨a,e, ?_⟩;unfold erH;rw[e];exact c
def Zwz(n0:Nat)(sl:Slots)(es:List ESh)(a:List TD)(h:List TEnt):Option (List TV):=(ZE9 (lk h) es h).bind λh=>Zyw n0 sl es a h
theorem ZoZ{n0:Nat}{sl:Slots}{es:List ESh}{a:List TD}{h:List TEnt}{vs:List TV}(k:Zwz n0 sl es a h=some vs):
 ∃a3 h3,VQ a.length sl es vs=some (a3,h3)∧∀{c:Code}{ts:List Dv}{H:List Ent}{ex:Ex},H.length=n0→Ww P c ts H ex (TD.ers (lk h) a) (erH h)→Ww P c ts H ex (TD.ers (lk h3) a3) (erH h3):=by
 obtain⟨h1,k1,k2⟩:=yf.1 k;obtain⟨e1,e2,e3⟩:=ZBA k1;obtain⟨a3,h3,g1,g2⟩:=ZAi (P:=P) k2;refine⟨a3,h3,g1,λhl r=>g2 hl ?_⟩;rw[e2];exact ZuB r (WkL.refl _) e3
theorem ZuT{n0:Nat}{sl:Slots}{es:List ESh}{a:List TD}{h:List TEnt}{vs:List TV}(hn:h.length=n0)(k:Zwz n0 sl es a h=some vs):
 ∃a3 h3,VQ a.length sl es vs=some (a3,h3)∧∀(σ:Sg)(act:Act),Ok σ→σ.H=erH h→RepT σ (TD.ers (lk h) a) act→∃σ':Sg,σ'.w=σ.w∧σ'.H=erH h3∧To σ σ'∧Ok σ'∧RepT σ' (TD.ers (lk h3) a3) act:=by
 obtain⟨h1,k1,k2⟩:=yf.1 k;obtain⟨e1,e2,e3⟩:=ZBA k1;obtain⟨a3,h3,g1,g2⟩:=ZAj (by rw[e1];exact hn) k2;refine⟨a3,h3,g1,λσ act ok hH hr=> ?_⟩;obtain⟨to,ok'⟩:=Znd ok (H':=erH h1) (by rw[hH];exact e3);obtain⟨σ2,q1,q2,q3,q4,q5⟩:=g2 { σ with H:=erH h1} act ok' rfl (by rw[e2];exact hr.to to.leaf);exact⟨σ2,q1,q2,to.trans q3,q4,q5⟩
structure Lp where
 sl:Slots
 es:List ESh
 I:List Ty
 xs:List XSh
 L:Ty.dens I→Option (XSh.sum xs)
def Lp.Is(P:yg)(n:Nat)(c:Code)(lp:Lp):Prop:=
 ∀v o,lp.L v=some o→∀s,VQ n lp.sl lp.es (ofD lp.I v)=some s→∀e vs s',Zyh lp.xs o e vs→VQ n e.sl e.es vs=some s'→
  Ww P c (TD.ers (lk s.2) s.1) (erH s.2) e.ex (TD.ers (lk s'.2) s'.1) (erH s'.2)
abbrev Lp.Ok(P:yg)(n:Nat)(body:Code)(lp:Lp):Prop:=lp.Is P n (.loop body)
structure FI where
 hi:HI:={}
 lp:List (Nat×Lp):=[]
 bk:List (Nat×Lp):=[]
 gh:List (Nat×GOp):=[]
 un:Nat:=0
def Code.nl:Code→Nat
 |.seq a b=>Code.nl a+Code.nl b
 |.cond _ a b=>Code.nl a+Code.nl b
 |.block _ a=>Code.nl a
 |.scope a=>Code.nl a
 |.loop a=>Code.nl a+1
 |_=>0
def Code.ns:Code→Nat
 |.seq a b=>Code.ns a+Code.ns b+1
 |.cond _ a b=>Code.ns a+Code.ns b
 |.block _ a=>Code.ns a
 |.scope a=>Code.ns a
 |.loop a=>Code.ns a
 |_=>0
theorem Zbf:∀c:Code,(ZB c).length=Code.nl c
 |.seq a b=>by simp only[ZB,yp,Zbf a,Zbf b,Code.nl]
 |.cond _ a b=>by simp only[ZB,yp,Zbf a,Zbf b,Code.nl]
 |.block _ a=>by simp only[ZB,Zbf a,Code.nl]
 |.scope a=>by simp only[ZB,Zbf a,Code.nl]
 |.loop a=>by simp only[ZB,yag,Zbf a,Code.nl]
 |.skip=>rfl
 |.region _ _ _=>rfl
 |.rangeFunc _ _ _ _=>rfl
 |.exit _=>rfl
 |.ret=>rfl
 |.label _=>rfl
 |.goto _=>rfl
 |.refuse _=>rfl
def Zrd{O:Type}(step:List TD→List TEnt→Kc O→Option O):Nat→List TD→List TEnt→Kc O→Option O
 |0,_,_,_=>none
 |k+1,a,h,K=>step a h λex a' h'=>match ex with
  |.normal=>Zrd step k a' h' K
  |ex=>K ex a' h'
theorem ZpY{O:Type}{body:Code}{N:Nat}{step:List TD→List TEnt→Kc O→Option O}
 (hs:∀(a:List TD)(h:List TEnt)(K:Kc O)(out:O),a.length=N→step a h K=some out→∃ex a' h',K ex a' h'=some out∧a'.length=N∧Ww P body (TD.ers (lk h) a) (erH h) ex (TD.ers (lk h') a') (erH h')):
 ∀(k:Nat)(a:List TD)(h:List TEnt)(K:Kc O)(out:O),a.length=N→Zrd step k a h K=some out→∃ex a' h',K ex a' h'=some out∧a'.length=N∧Zuw P body (TD.ers (lk h) a) (erH h) ex (TD.ers (lk h') a') (erH h')
 |0,_,_,_,_,_,k=>by cases k
 |n+1,a,h,K,out,hN,k=>by
  unfold Zrd at k;obtain⟨ex,a1,h1,k1,k2,k3⟩:=hs _ _ _ _ hN k;split at k1
  ·obtain⟨ex2,a2,h2,k4,k5,k6⟩:=ZpY hs n a1 h1 K out k2 k1;exact⟨ex2,a2,h2,k4,k5,Zuy [] k3 k6⟩
  ·rename_i hne;exact⟨_,a1,h1,k1,k2,Zux hne k3⟩
def Zo0(m:Nat)(a:List TD)(h:List TEnt):List (Nat×Lp)→Option (Σ bk:Lp,Ty.dens bk.I)
 |[]=>none
 |q::r=>if Nat.beq q.1 m=true then match (Zwz h.length q.2.sl q.2.es a h).bind (toD q.2.I) with
   |some v=>some ⟨q.2,v⟩
   |none=>Zo0 m a h r
  else Zo0 m a h r
theorem ZgB{m:Nat}{a:List TD}{h:List TEnt}{b:Σ bk:Lp,Ty.dens bk.I}:∀{l:List (Nat×Lp)},Zo0 m a h l=some b→(m,b.1)∈l∧∃vs,Zwz h.length b.1.sl b.1.es a h=some vs∧toD b.1.I vs=some b.2
 |[],k=>by cases k
 |q::r,k=>by
  unfold Zo0 at k;split at k
  ·rename_i hm;split at k
   ·rename_i v hv;cases k;have e:=Nat.eq_of_beq_eq_true hm;refine⟨?_,yf.1 hv⟩;rw[←e];exact yav ..
   ·obtain⟨h1,h2⟩:=ZgB k;exact⟨yaw _ h1,h2⟩
  ·obtain⟨h1,h2⟩:=ZgB k;exact⟨yaw _ h1,h2⟩
def evT{O:Type}(P:yg)(fi:FI)(specs:Sp P):Code→Nat→Nat→List TD→List TEnt→Kc O→Option O
 |.skip,_,_,a,h,K=>K .normal a h
 |.label _,_,_,a,h,K=>K .normal a h
 |.region _ ops draw,_,_,a,h,K=>if draw=true then ZIY P fi.hi specs ops a h λa' h'=>K .normal a' h' else ZEV P fi.hi specs ops ops.toList a h λa' h' _=>K .normal a' h'
 |.seq x y,n,m,a,h,K=>ghO (fi.gh.lookup m) a h λa h=>match Zo0 m a h fi.bk with
  |none=>evT P fi specs x n (m+1) a h λex a' h'=>match ex with
   |.normal=>evT P fi specs y (n+Code.nl x) (m+1+Code.ns x) a' h' K
   |ex=>K ex a' h'
  |some bk=>(bk.1.L bk.2).bind λo=>xT a.length bk.1.xs o λex a' h'=>match ex with
   |.normal=>evT P fi specs y (n+Code.nl x) (m+1+Code.ns x) a' h' K
   |ex=>K ex a' h'
 |.cond c x y,n,m,a,h,K=>((arT P a 0 c).bind TD.boolT).bind λb=>match c with
  |.tmp t=>if b=true then evT P fi specs x n m (a.set t (ZtP true)) h K else evT P fi specs y (n+Code.nl x) (m+Code.ns x) (a.set t (ZtP false)) h K
  |_=>if b=true then evT P fi specs x n m a h K else evT P fi specs y (n+Code.nl x) (m+Code.ns x) a h K
 |.block id body,n,m,a,h,K=>evT P fi specs body n m a h λex a' h'=>K (Zwy id ex) a' h'
 |.loop body,n,m,a,h,K=>match Zo0 n a h fi.lp with
  |some lp=>(lp.1.L lp.2).bind λo=>xT a.length lp.1.xs o K
  |none=>Zrd (λa h K=>evT P fi specs body (n+1) m a h K) fi.un a h K
 |.scope body,n,m,a,h,K=>evT P fi specs body n m a h K
 |.exit id,_,_,a,h,K=>K (.exit id) a h
 |.ret,_,_,a,h,K=>K .ret a h
 |_,_,_,_,_,_=>none
def Wj:Code→List Code
 |.seq a b=>a::(Wj a++Wj b)
 |.cond _ a b=>Wj a++Wj b
 |.block _ a=>Wj a
 |.scope a=>Wj a
 |.loop a=>Wj a
 |_=>[]
theorem Zbg:∀c:Code,(Wj c).length=Code.ns c
 |.seq a b=>by simp only[Wj,yag,yp,Zbg a,Zbg b,Code.ns]
 |.cond _ a b=>by simp only[Wj,yp,Zbg a,Zbg b,Code.ns]
 |.block _ a=>by simp only[Wj,Zbg a,Code.ns]
 |.scope a=>by simp only[Wj,Zbg a,Code.ns]
 |.loop a=>by simp only[Wj,Zbg a,Code.ns]
 |.skip=>rfl
 |.region _ _ _=>rfl
 |.rangeFunc _ _ _ _=>rfl
 |.exit _=>rfl
 |.ret=>rfl
 |.label _=>rfl
 |.goto _=>rfl
 |.refuse _=>rfl
def Zjc(P:yg)(fi:FI)(N:Nat)(c:Code)(m:Nat):Prop:=∀(k:Nat)(x:Code),(Wj c)[k]? =some x→∀bk,(m+k,bk)∈fi.bk→bk.Is P N x
theorem ZFa{fi:FI}{N:Nat}{x y c:Code}{m:Nat}(e:Wj c=Wj x++Wj y)(h:Zjc P fi N c m):Zjc P fi N x m:=λk b hk=>h k b (by
 rw[e,yan (yr.1 hk).1];exact hk)
theorem ZDa{fi:FI}{N:Nat}{x y c:Code}{m:Nat}(e:Wj c=Wj x++Wj y)(h:Zjc P fi N c m):Zjc P fi N y (m+Code.ns x):=λk b hk lp hl=>h (Code.ns x+k) b (by
 rw[e,yat (by rw[Zbg];omega),Zbg];rw[show Code.ns x+k - Code.ns x=k by omega];exact hk) lp (by rw[←ycg];exact hl)
theorem ZFb{fi:FI}{N:Nat}{x y:Code}{m:Nat}(h:Zjc P fi N (.seq x y) m):Zjc P fi N x (m+1):=λk b hk lp hl=>h (k+1) b (by
 rw[Wj,yap,yan (yr.1 hk).1];exact hk) lp (by rw[show m+(k+1)=m+1+k by omega];exact hl)
theorem Zyx{fi:FI}{N:Nat}{x y:Code}{m:Nat}(h:Zjc P fi N (.seq x y) m):Zjc P fi N y (m+1+Code.ns x):=λk b hk lp hl=>h (Code.ns x+k+1) b (by
 rw[Wj,yap,yat (by rw[Zbg];omega),Zbg];rw[show Code.ns x+k - Code.ns x=k by omega];exact hk) lp (by rw[show m+(Code.ns x+k+1)=m+1+Code.ns x+k by omega];exact hl)
def Zj7(P:yg)(fi:FI)(N:Nat)(c:Code)(n:Nat):Prop:=∀(k:Nat)(b:Code),(ZB c)[k]? =some (.loop b)→∀lp,(n+k,lp)∈fi.lp→lp.Ok P N b
theorem Zyy{fi:FI}{N:Nat}{x y c:Code}{n:Nat}(e:ZB c=ZB x++ZB y)(h:Zj7 P fi N c n):Zj7 P fi N x n:=λk b hk=>h k b (by
 rw[e,yan (yr.1 hk).1];exact hk)
theorem ZuU{fi:FI}{N:Nat}{x y c:Code}{n:Nat}(e:ZB c=ZB x++ZB y)(h:Zj7 P fi N c n):Zj7 P fi N y (n+Code.nl x):=λk b hk lp hl=>h (Code.nl x+k) b (by
 rw[e,yat (by rw[Zbf];omega),Zbf];rw[show Code.nl x+k - Code.nl x=k by omega];exact hk) lp (by rw[←ycg];exact hl)
theorem Wl{O:Type}{fi:FI}{specs:Sp P}{out:O}{N:Nat}(ok:SpOk specs):∀(c:Code)(n m:Nat)(a:List TD)(h:List TEnt)(K:Kc O),a.length=N→Zj7 P fi N c n→Zjc P fi N c m→evT P fi specs c n m a h K=some out→
 ∃ex a' h',K ex a' h'=some out∧a'.length=N∧Ww P c (TD.ers (lk h) a) (erH h) ex (TD.ers (lk h') a') (erH h')
 |.skip,n,m,a,h,K,hN,hl,hb0,k=>⟨_,_,_,k,hN,ZC7⟩
 |.label _,n,m,a,h,K,hN,hl,hb0,k=>⟨_,_,_,k,hN,ZAh⟩
 |.exit _,n,m,a,h,K,hN,hl,hb0,k=>⟨_,_,_,k,hN,ZC8⟩
 |.ret,n,m,a,h,K,hN,hl,hb0,k=>⟨_,_,_,k,hN,ZE8⟩
 |.region id ops draw,n,m,a,h,K,hN,hl,hb0,k=>by
  unfold evT at k
  cases draw with
  |true=>
   rw[if_pos rfl] at k;obtain⟨a',h',k1,k2,k3⟩:=ZC3 ok k
   exact⟨_,_,_,k1,by rw[k2,hN],k3 id⟩
  |false=>
   rw[if_neg (by decide)] at k;obtain⟨a',h',hs,k1,k2,k3⟩:=ZC4 ok k
   exact⟨_,_,_,k1,by rw[k2,hN],k3 id⟩
 |.seq x y,n,m,a,h,K,hN,hl,hb0,k=>by
  have hx:=Zyy (x:=x) (y:=y) rfl hl;have hy:=ZuU (x:=x) (y:=y) rfl hl;unfold evT at k;obtain⟨a0,h0,k,hN0,gst⟩:=ZE7 k;rw[hN] at hN0
  suffices key:∃ex a' h',K ex a' h'=some out∧a'.length=N∧Ww P (.seq x y) (TD.ers (lk h0) a0) (erH h0) ex (TD.ers (lk h') a') (erH h') by
   obtain⟨ex,a',h',g1,g2,g3⟩:=key;exact⟨ex,a',h',g1,g2,ZHd gst g3⟩
  clear gst;have hN:=hN0;clear hN0;split at k
  ·obtain⟨ex,a1,h1,k1,k2,k3⟩:=Wl ok x _ _ _ _ _ hN hx (ZFb hb0) k;split at k1
   ·obtain⟨ex2,a2,h2,k4,k5,k6⟩:=Wl ok y _ _ _ _ _ k2 hy (Zyx hb0) k1;exact⟨_,_,_,k4,k5,Zyv k3 k6⟩
   ·rename_i hne;exact⟨_,_,_,k1,k2,ZuS hne k3⟩
  ·rename_i bkv hbk;obtain⟨bk,v⟩:=bkv;obtain⟨hbk,vs,j1,j2⟩:=ZgB hbk;dsimp only at hbk j1 j2 k;obtain⟨o,j3,k⟩:=yf.1 k;obtain⟨e,vs',s,g1,g2,g3⟩:=Zra k;obtain⟨a3,h3,j4,j5⟩:=ZuT rfl j1;have hok:=hb0 0 x rfl bk (by rw[Nat.add_zero];exact hbk);rw[hN] at g2 j4;have e1:=ZcK _ _ _ j2;have r:=hok v o j3 (a3,h3) (by rw[e1];exact j4) e vs' s g1 g2
   have k3:Ww P x (TD.ers (lk h0) a0) (erH h0) e.ex (TD.ers (lk s.2) s.1) (erH s.2):=by
    intro σ act okσ hH hrep;obtain⟨σ1,p1,p2,p3,p4,p5⟩:=j5 σ act okσ hH hrep;rw[←p1];refine wp_mono (r σ1 act p4 p2 p5) ?_;rintro e' a' w' ⟨rfl,σ2,q1,q2,q3,q4,q5⟩;exact⟨rfl,σ2,q1,q2,p3.trans q3,q4,q5⟩
   split at g3
   ·rename_i he;rw[he] at k3;obtain⟨ex2,a2,h2,k4,k5,k6⟩:=Wl ok y _ _ _ _ _ (ZhB g2) hy (Zyx hb0) g3;exact⟨_,_,_,k4,k5,Zyv k3 k6⟩
   ·rename_i hne
    exact⟨_,_,_,g3,ZhB g2,ZuS hne k3⟩
 |.cond c x y,n,m,a,h,K,hN,hl,hb0,k=>by
  have hx:=Zyy (x:=x) (y:=y) rfl hl;have hy:=ZuU (x:=x) (y:=y) rfl hl;have bx:=ZFa (x:=x) (y:=y) rfl hb0;have bY:=ZDa (x:=x) (y:=y) rfl hb0;unfold evT at k;obtain⟨b,k0,k⟩:=yf.1 k;obtain⟨d,k00,k01⟩:=yf.1 k0;have hc:=Zw (L:=lk h) k00;rw[Zhx k01] at hc;split at k
  ·rename_i t;cases k00;have e:=Zyn k01;split at k
   ·rename_i hb;subst hb;rw[set_same e] at k;obtain⟨ex,a1,h1,k1,k2,k3⟩:=Wl ok x _ _ _ _ _ hN hx bx k;exact⟨_,_,_,k1,k2,Zln hc k3⟩
   ·rename_i hb;have hb:b=false:=by simpa using hb
    subst hb;rw[set_same e] at k;obtain⟨ex,a1,h1,k1,k2,k3⟩:=Wl ok y _ _ _ _ _ hN hy bY k;exact⟨_,_,_,k1,k2,Zln hc k3⟩
  ·split at k
   ·rename_i hb;subst hb;obtain⟨ex,a1,h1,k1,k2,k3⟩:=Wl ok x _ _ _ _ _ hN hx bx k;exact⟨_,_,_,k1,k2,Zln hc k3⟩
   ·rename_i hb;have hb:b=false:=by simpa using hb
    subst hb;obtain⟨ex,a1,h1,k1,k2,k3⟩:=Wl ok y _ _ _ _ _ hN hy bY k
    exact⟨_,_,_,k1,k2,Zln hc k3⟩
 |.block id body,n,m,a,h,K,hN,hl,hb0,k=>by
  unfold evT at k;obtain⟨ex,a1,h1,k1,k2,k3⟩:=Wl ok body _ _ _ _ _ hN hl hb0 k
  exact⟨_,_,_,k1,k2,ZAf k3⟩
 |.scope body,n,m,a,h,K,hN,hl,hb0,k=>by
  unfold evT at k;obtain⟨ex,a1,h1,k1,k2,k3⟩:=Wl ok body _ _ _ _ _ hN hl hb0 k
  exact⟨_,_,_,k1,k2,ZAg k3⟩
 |.loop body,n,m,a,h,K,hN,hl,hb0,k=>by
  unfold evT at k;split at k
  ·rename_i lpv hlp;obtain⟨lp,v⟩:=lpv;obtain⟨hlp,vs,j1,j2⟩:=ZgB hlp;dsimp only at hlp j1 j2 k;obtain⟨o,j3,k⟩:=yf.1 k;obtain⟨e,vs',s,g1,g2,g3⟩:=Zra k;obtain⟨a3,h3,j4,j5⟩:=ZuT rfl j1;have hok:=hl 0 body rfl lp (by rw[Nat.add_zero];exact hlp);rw[hN] at g2 j4;have e1:=ZcK _ _ _ j2;have r:=hok v o j3 (a3,h3) (by rw[e1];exact j4) e vs' s g1 g2;refine⟨_,_,_,g3,ZhB g2, ?_⟩;intro σ act okσ hH hrep;obtain⟨σ1,p1,p2,p3,p4,p5⟩:=j5 σ act okσ hH hrep;rw[←p1];refine wp_mono (r σ1 act p4 p2 p5) ?_;rintro e' a' w' ⟨rfl,σ2,q1,q2,q3,q4,q5⟩;exact⟨rfl,σ2,q1,q2,p3.trans q3,q4,q5⟩
  ·have hl1:Zj7 P fi N body (n+1):=λk b hk lp hl2=>hl (k+1) b (by rw[ZB,yap];exact hk) lp (by rw[show n+(k+1)=n+1+k by omega];exact hl2);obtain⟨ex,a1,h1,k1,k2,k3⟩:=ZpY (λa h K out hN k=>Wl ok body _ _ _ _ K hN hl1 hb0 k) _ _ _ _ _ hN k
   exact⟨ex,a1,h1,k1,k2,Zuz k3⟩
 |.rangeFunc _ _ _ _,_,_,_,_,_,_,_,_,k=>by cases k
 |.goto _,_,_,_,_,_,_,_,_,k=>by cases k
 |.refuse _,_,_,_,_,_,_,_,_,k=>by cases k
end
end Go.Ev
end
