/- Parts of the proof, in one file. -/
import Derived.Test.YtmkgbalfkhaflaaGreatKc
open Array renaming getD_eq_getD_getElem? → ycy
open Bool renaming and_eq_true → yi, false_eq_true → ybq, or_eq_true → yce
open Go renaming TypeId → yc, Program → yg, Operand → ym, FuncId → yu, World → yy
open List renaming getElem?_eq_some_iff → yp, length_append → yr, range → yv, nil_append → yw, replicate → yx, length_map → yz, cons_append → yaa, getElem?_eq_getElem → yac, length_cons → yad, map_cons → yaf, getElem?_map → yah, append_assoc → yak, getElem?_eq_none → yao, map_append → yar, map_map → yax, length_set → yaz, all_eq_true → yba, map_set → ybf, append_nil → ybh, getElem?_cons_zero → ybk, ext_getElem? → ybl, take_length → ybt, map_take → yca, getElem?_take → ycd, map_congr_left → ycg, length_replicate → ycm, length_nil → ycn, getElem?_set_self → yco, getD_eq_getElem?_getD → yct
open Nat renaming le_refl → yn
open Option renaming bind_some → yb, bind_eq_some_iff → yf, map_eq_some_iff → yo, map_some → yab
open Option.some renaming injEq → yj
set_option linter.unusedVariables false
set_option linter.unusedSimpArgs false
section
namespace Go.Ev
section
variable{P:yg}{o:Oper}{ts all:List TD}{H:List TEnt}{O:Type}{K:Kn O}{out:O}
theorem ZaJ{id:Nat}{e x:TEnt}(hx:H[id]? =some x)(h1:x.isLog=false)(h2:e.isLog=false):TD.ers (lk (H.set id e)) all=TD.ers (lk H) all:=by rw[Ve hx h1 h2]
def ZxX(P:yg)(t:yc)(all:List TD)(H:List TEnt)(K:Kn O)(kd vd:yc→Option TD):TD→Option O
 |.mp id=>match P.underlying t with
  |some (.map kt et)=>(Ztv H id).bind λm=>(kd kt).bind λx=>(ZAi x m.k).bind λkey=>((vd et).bind (TD.flat (lk H))).bind λz=>(TP.to Zkb z m.v).bind λy=>
   if ZmD P kt m.k=true then K all .junk (H.set id (.map m.tid m.k m.v (@Zz1 m.k.den m.v.den (Ty.deq m.k) m.l key y))) [.kvs (kvl m.k.enc m.v.enc (@Zz1 m.k.den m.v.den (Ty.deq m.k) m.l key y))] 2 else none
  |_=>none
 |_=>none
theorem ZxY{t:yc}{x k v:ym}{xd:TD}(ho:o.op=.mapUpdate t x k v)(hx:arT P ts t x=some xd)(h:ZxX P t all H K (λkt=>arT P ts kt k) (λet=>arT P ts et v) xd=some out):
 ∃a d H' hs c,K a d H' hs c=some out∧Good P o ts all H a d H' hs c:=by
 have hv:=Zr (L:=lk H) hx;unfold ZxX at h;split at h
 ·rename_i id;split at h
  ·rename_i kt et hu;obtain⟨m,h1,h⟩:=yf.1 h;obtain⟨kd,h2,h⟩:=yf.1 h;obtain⟨key,h3,h⟩:=yf.1 h;obtain⟨z,h4,h⟩:=yf.1 h;obtain⟨zd,h40,h41⟩:=yf.1 h4;obtain⟨y,h6,h⟩:=yf.1 h;obtain⟨h5,h⟩:=Za h;obtain⟨e1,e2⟩:=ZeO h1;have hk:=Zr (L:=lk H) h2;rw[Zow h3] at hk;have hz:=Zr (L:=lk H) h40
   letI:=Ty.deq m.k
   refine⟨_,_,_,_,_,h,ZaJ e1 rfl rfl,rfl,or3 (⟨rfl,λrest=> ?_,λrest=> ?_,[fitP P 20 kt (m.k.enc key),ZfO P kt (kvl m.k.enc m.v.enc m.l),ZjV (kvl m.k.enc m.v.enc m.l) (m.k.enc key) z.pe.soft (kvl m.k.enc m.v.enc (Zz1 m.l key y))],
    ⟨Zd2 h5 key,ZlB (Zd2 h5) _,by rw[ZfZ z m.v y h6];exact Ztj (Zsv h5) _ _ _,trivial⟩,λrest=> ?_⟩)⟩
   ·unfold evN;rw[ho]
   ·unfold evR;rw[ho]
   ·unfold evE;rw[ho];dsimp only;rw[hu,hv];dsimp only[TD.er];rw[hk,hz,Ztr h41,e2]
    try dsimp only
    rw[yaa,yw]
    try dsimp only
    rw[if_pos (Ztw h5),Xj (Ve e1 rfl rfl)];rfl
  ·cases h
 ·cases h
def ZxZ(P:yg)(t:yc)(all:List TD)(H:List TEnt)(K:Kn O)(kd:Option TD):TD→Option O
 |.mp id=>match P.underlying t with
  |some (.map kt et)=>(Ztv H id).bind λm=>kd.bind λx=>(ZAi x m.k).bind λkey=>
   if ZmD P kt m.k=true then K all (.tup []) (H.set id (.map m.tid m.k m.v (@ZFb m.k.den m.v.den (Ty.deq m.k) m.l key))) [.kvs (kvl m.k.enc m.v.enc (@ZFb m.k.den m.v.den (Ty.deq m.k) m.l key))] 2 else none
  |_=>none
 |_=>none
theorem Zx0{t u:yc}{x k:ym}{c:Call}{xd:TD}(ho:o.op=.call c)(hc:c.callee=.builtin .delete)(ha:c.args.toList=[x,k])(ht:c.argTypes.toList=[t,u])(hx:arT P ts t x=some xd)
 (h:ZxZ P t all H K (arT P ts u k) xd=some out):∃a d H' hs c,K a d H' hs c=some out∧Good P o ts all H a d H' hs c:=by
 have hv:=Zr (L:=lk H) hx;unfold ZxZ at h;split at h
 ·rename_i id;split at h
  ·rename_i kt et hu;obtain⟨m,h1,h⟩:=yf.1 h;obtain⟨kd,h2,h⟩:=yf.1 h;obtain⟨key,h3,h⟩:=yf.1 h;obtain⟨h5,h⟩:=Za h;obtain⟨e1,e2⟩:=ZeO h1;have hk:=Zr (L:=lk H) h2;rw[Zow h3] at hk
   letI:=Ty.deq m.k
   refine⟨_,_,_,_,_,h,ZaJ e1 rfl rfl,rfl,or3 (⟨rfl,λrest=> ?_,λrest=> ?_,[fitP P 20 kt (m.k.enc key),ZfO P kt (kvl m.k.enc m.v.enc m.l),Zmz (kvl m.k.enc m.v.enc m.l) (m.k.enc key) (kvl m.k.enc m.v.enc (ZFb m.l key))],
    ⟨Zd2 h5 key,ZlB (Zd2 h5) _,Ztk (Zsv h5) _ _,trivial⟩,λrest=> ?_⟩)⟩
   ·unfold evN;rw[ho];dsimp only;rw[hc]
   ·unfold evR;rw[ho];dsimp only;rw[hc]
   ·unfold evE;rw[ho];dsimp only;rw[hc];dsimp only;rw[ha,ht];dsimp only;rw[hu,hv];dsimp only[TD.er];rw[hk,e2]
    try dsimp only
    rw[yaa,yw]
    try dsimp only
    rw[if_pos (Ztw h5),Xj (Ve e1 rfl rfl)];rfl
  ·cases h
 ·cases h
def TP.nilT(x:TP)(T:Ty):Bool:=
 match x with
 |.sl (some false) t []=>decide (t.size=T.size)
 |_=>false
theorem Zx1{x:TP}{T:Ty}(h:x.nilT T=true):x.pe=.sl (some false) T.size []:=by
 unfold TP.nilT at h;split at h
 ·rename_i t;show Pl.sl (some false) t.size []=_;rw[of_decide_eq_true h]
 ·cases h
def ZeP(T:Ty)(new:TD):List Nat→TD→Option TD
 |[],.p x=>if x.nilT T then some new else none
 |i::r,.p x=>x.parts.bind λl=>(l[i]?).bind λz=>(ZeP T new r (.p z)).map λy=>.agg ((l.map .p).set i y)
 |i::r,.agg ds=>(ds[i]?).bind λz=>(ZeP T new r z).map λy=>.agg (ds.set i y)
 |_,_=>none
theorem Zex{L:Lk}{T:Ty}{new:TD}:∀(path:List Nat)(d d':TD),ZeP T new path d=some d'→Y6 (d.er L) path T.size (new.er L)=some (d'.er L)
 |[],d,d',h=>by
  cases d with
  |p x=>
   simp only[ZeP] at h;split at h
   ·rename_i hn;cases h;rw[TD.er,Zx1 hn];simp[Y6]
   ·cases h
  |_=>cases h
 |i::r,d,d',h=>by
  cases d with
  |p x=>
   simp only[ZeP] at h;obtain⟨l,h1,h⟩:=yf.1 h;obtain⟨z,h2,h⟩:=yf.1 h;obtain⟨y,h3,rfl⟩:=Zb h;have:=Zex (L:=L) r (.p z) y h3;rw[TD.er,Zz6 h1];unfold Y6;rw[show(TP.pes l)[i]? =some z.pe by rw[VG,yah,h2];rfl];dsimp only;rw[TD.er] at this
   rw[this,yab,TD.er,ZI,ybf, ←ZI,ZGN]
  |agg ds=>
   simp only[ZeP] at h;obtain⟨z,h2,h⟩:=yf.1 h;obtain⟨y,h3,rfl⟩:=Zb h;have:=Zex (L:=L) r z y h3;rw[TD.er];unfold Y6;rw[ZfY h2];dsimp only
   rw[this,yab,TD.er,ZI,ZI,ybf]
  |_=>cases h
def Zox(d:TD)(n:Nat):List (List Nat×Ty×yc)→Option (TD×List (Ty×yc))
 |[]=>some (d,[])
 |q::r=>(ZeP q.2.1 (.own n none q.2.1 none) q.1 d).bind λd'=>(Zox d' (n+1) r).map λz=>(z.1,(q.2.1,q.2.2)::z.2)
def ghH(l:List (List Nat×Ty×yc)):List Hint:=l.map λq=>.ghost q.1 q.2.1.size q.2.2
def ZAl(l:List (Ty×yc)):List TEnt:=l.map λq=>.log q.1 q.2 []
def ZGU(L:Lk)(n:Nat):Prop:=∀id t,n≤id→ZX L id t none=[]
theorem Zns{L:Lk}:∀(l:List (List Nat×Ty×yc))(d:TD)(n:Nat)(z:TD×List (Ty×yc)),ZGU L n→Zox d n l=some z→∀rest,
 Ye (d.er L) n (ghH l++.raw::rest)=(z.1.er L,z.2.map (λq=>Ent.log q.1.size q.2 []),.raw::rest)
 |[],d,n,z,hN,h,rest=>by cases h;rfl
 |q::r,d,n,z,hN,h,rest=>by
  simp only[Zox] at h;obtain⟨d',h1,h⟩:=yf.1 h;obtain⟨w,h2,rfl⟩:=Zb h;have e:=Zex (L:=L) q.1 d d' h1;rw[TD.er,hN n q.2.1 (yn _)] at e;have ih:=Zns r d' (n+1) w (λid t h=>hN id t (by omega)) h2 rest;show Ye (d.er L) n (.ghost q.1 q.2.1.size q.2.2::(ghH r++.raw::rest))=_;unfold Ye;rw[show Y6 (d.er L) q.1 q.2.1.size (Dv.own n none q.2.1.size [])=some (d'.er L) from e]
  dsimp only;rw[ih];rfl
theorem ZGV(H:List TEnt):ZGU (lk H) H.length:=λid t h=>by
 unfold ZX lk;rw[yao h];rfl
theorem Zp3:∀(l:List (Ty×yc))(H:List TEnt),(∀id t,ZX (lk H) id t none=ZX (lk (H++ZAl l)) id t none)∧erH (H++ZAl l)=erH H++l.map (λq=>Ent.log q.1.size q.2 [])
 |[],H=>by simp[ZAl]
 |q::l,H=>by
  have e:H++ZAl (q::l)=(H++[.log q.1 q.2 []])++ZAl l:=by simp[ZAl]
  obtain⟨h1,h2⟩:=Zp3 l (H++[.log q.1 q.2 []]);rw[e];refine⟨λid t=>(Zov id t).trans (h1 id t), ?_⟩;rw[h2,ZxS];simp
def newVar(hi:HI)(dst:Option Tmp)(d:TD)(all:List TD)(H:List TEnt)(K:Kn O):Option O:=
 match dst with
 |some t=>match hi.ghost.lookup t with
  |some l=>(Zox d (H.length+1) l).bind λz=>K all (.ref H.length []) (H++[.var z.1 true]++ZAl z.2) (ghH l++[.raw]) 2
  |none=>K all (.ref H.length []) (H++[.var d true]) [.raw] 2
 |none=>none
theorem Zq7{hi:HI}{dst:Option Tmp}{d:TD}(h:newVar hi dst d all H K=some out):
 ∃H' hs gd gl,K all (.ref H.length []) H' hs 2=some out∧TD.ers (lk H') all=TD.ers (lk H) all∧erH H'=erH H++Ent.var gd true::gl∧∀rest,Ye (d.er (lk H)) ((erH H).length+1) (hs++rest)=(gd,gl,.raw::rest):=by
 unfold newVar at h;split at h
 ·rename_i t;split at h
  ·rename_i l hl;obtain⟨z,h1,h⟩:=yf.1 h;obtain⟨c1,c2⟩:=Zp3 z.2 (H++[.var z.1 true]);have hL:lk (H++[.var z.1 true])=lk H:=Zd1 rfl;refine⟨_,_,z.1.er (lk H),z.2.map (λq=>Ent.log q.1.size q.2 []),h, ?_, ?_,λrest=> ?_⟩
   ·rw[←ers_cont c1 all,hL]
   ·rw[c2,Zct hL];simp[TEnt.er]
   ·rw[ZM,yak];exact Zns l d _ z (λid t hh=>ZGV H id t (by omega)) h1 rest
  ·refine⟨_,_,d.er (lk H),[],h,ZbK rfl, ?_,λrest=> ?_⟩
   ·rw[Zct (Zd1 rfl)];rfl
   ·rfl
 ·cases h
def ZCi(P:yg)(hi:HI)(dst:Option Tmp)(t:yc)(all:List TD)(H:List TEnt)(K:Kn O):Option O:=
 (P.info? t).bind λi=>(Ztx P t).bind λz=>if(zOk i&&okT P t (Xh P t)&&(Xh P t).solid)=true then newVar hi dst (.p z) all H K else none
theorem ZAm{hi:HI}{t:yc}(ho:o.op=.alloc t)(h:ZCi P hi o.dst t all H K=some out):∃a d H' hs c,K a d H' hs c=some out∧Good P o ts all H a d H' hs c:=by
 unfold ZCi at h;obtain⟨i,h1,h⟩:=yf.1 h;obtain⟨z,h2,h⟩:=yf.1 h;obtain⟨h3,h⟩:=Za h;obtain⟨H',hs,gd,gl,k1,k2,k3,k4⟩:=Zq7 h;refine⟨_,_,_,_,_,k1,k2,rfl,or3 (⟨rfl,λrest=> ?_,λrest=> ?_,[],trivial,λrest=> ?_⟩)⟩
 ·unfold evN;rw[ho]
 ·unfold evR;rw[ho]
 ·have k5:=k4 rest;rw[TD.er, ←Zke h2] at k5;unfold evE;rw[ho];dsimp only;rw[h1];dsimp only;rw[k5];dsimp only;rw[if_pos h3,k3,ZM];rfl
def ZJj(L:Lk)(d:TD):TD:=
 match d.plain L with
 |some y=>.p y
 |none=>d
theorem ZJk{L:Lk}(d:TD):(ZJj L d).er L=ZBK (d.er L):=by
 unfold ZJj ZBK
 cases h:d.plain L with
 |none=>rw[Ztu h]
 |some y=>rw[ZwF h];rfl
def ZKW(hi:HI)(dst:Option Tmp)(all:List TD)(H:List TEnt)(K:Kn O)(d:TD):Option O:=
 if((ZJj (lk H) d).er (lk H)).solid=true then newVar hi dst (ZJj (lk H) d) all H K else none
theorem ZFg{hi:HI}{t:yc}{x:ym}{xd:TD}(ho:o.op=.box t x)(hx:arT P ts t x=some xd)(h:ZKW hi o.dst all H K xd=some out):∃a d H' hs c,K a d H' hs c=some out∧Good P o ts all H a d H' hs c:=by
 have hv:=Zr (L:=lk H) hx;unfold ZKW at h;obtain⟨h3,h⟩:=Za h;obtain⟨H',hs,gd,gl,k1,k2,k3,k4⟩:=Zq7 h;refine⟨_,_,_,_,_,k1,k2,rfl,or3 (⟨rfl,λrest=> ?_,λrest=> ?_,[],trivial,λrest=> ?_⟩)⟩
 ·unfold evN;rw[ho]
 ·unfold evR;rw[ho]
 ·have k5:=k4 rest;rw[ZJk] at k5 h3;unfold evE;rw[ho];dsimp only;rw[hv,k5];dsimp only;rw[if_pos h3,k3,ZM];rfl
def TD.meltP(L:Lk)(v:TD):TD:=
 match v.flat L with
 |some x=>.p x
 |none=>v
theorem Ztz{L:Lk}(v:TD):(v.meltP L).er L=(v.er L).meltP:=by
 unfold TD.meltP Dv.meltP;rw[Zsu];cases v.flat L <;> rfl
def Zx2(L:Lk)(path:List Stp)(d v:TD):Option TD:=
 match d,path with
 |.p _,_=>some (v.meltP L)
 |_,[]=>some (v.meltP L)
 |_,_=>some v
theorem Zp4{L:Lk}{path:List Stp}{d v new:TD}(h:Zx2 L path d v=some new):Zc7 (path.map Stp.i) (d.er L) (v.er L)=some (new.er L):=by
 unfold Zx2 at h;split at h
 ·cases h;unfold Zc7;rw[TD.er];dsimp only;rw[Ztz]
 ·cases h;unfold Zc7;split
  ·rw[Ztz]
  ·simp only[List.map_nil];rw[Ztz]
 ·rename_i h1 h2;cases h;unfold Zc7;split
  ·rename_i z hz;cases d <;> first|cases hz|skip
   rename_i q;exact absurd rfl (h1 q)
  ·cases path with
   |nil=>exact absurd rfl h2
   |cons _ _=>rfl
def Zf4(P:yg)(t:yc)(new sub:Dv):Bool:=new.solid&&new.size==sub.size&&P.cellsOf t==new.size&&(P.info? t).isSome&&new.isAgg==sub.isAgg
def ZL5(hi:HI):ym→List (List Nat×Ty×yc)
 |.tmp t=>(hi.gst.lookup t).getD []
 |_=>[]
def ZCj(P:yg)(gs:List (List Nat×Ty×yc))(t:yc)(all:List TD)(H:List TEnt)(K:Kn O)(v:TD):TD→Option O
 |.ref id path=>match H[id]? with
  |some (.var d true)=>gpT (lk H) path d λsub hs put=>(Zx2 (lk H) path d v).bind λnew=>(put new).bind λd'=>(Zox d' H.length gs).bind λz=>
   if Zf4 P t (new.er (lk H)) (sub.er (lk H))=true then K all .junk (H.set id (.var z.1 true)++ZAl z.2) (hs++(ghH gs++[.raw])) 2 else none
  |_=>none
 |.rref id v' path=>match H[id]? with
  |some (.row w s true e d)=>gpT (lk H) path d λsub hs put=>(Zx2 (lk H) path d v).bind λnew=>(put new).bind λd'=>
   if(Zf4 P t (new.er (lk H)) (sub.er (lk H))&&w==v'&&rowN (d'.er (lk H)) s==rowN (d.er (lk H)) s)=true then K all .junk (H.set id (.row v' s true e d')) hs 2 else none
  |_=>none
 |_=>none
theorem ZAn{gs:List (List Nat×Ty×yc)}{t:yc}{x y:ym}{xd yd:TD}(ho:o.op=.store t x y)(hx:arT P ts 0 x=some xd)(hy:arT P ts t y=some yd)(h:ZCj P gs t all H K yd xd=some out):
 ∃a d H' hs c,K a d H' hs c=some out∧Good P o ts all H a d H' hs c:=by
 have hv:=Zr (L:=lk H) hx;have hw:=Zr (L:=lk H) hy;unfold ZCj at h;split at h
 ·rename_i id path;split at h
  ·rename_i d hd;obtain⟨sub,hs,put,C,k1,k2,k3,k4⟩:=XA _ _ _ _ h;obtain⟨new,h1,h2⟩:=yf.1 k1;obtain⟨d',h3,h2⟩:=yf.1 h2;obtain⟨z,h5,h2⟩:=yf.1 h2;obtain⟨h4,h2⟩:=Za h2;unfold Zf4 at h4;obtain⟨g1,g2⟩:=Zp3 z.2 (H.set id (.var z.1 true));have hL:lk (H.set id (.var z.1 true))=lk H:=Ve hd rfl rfl;refine⟨_,_,_,_,_,h2, ?_,rfl,or3 (⟨rfl,λrest=> ?_,λrest=> ?_,C++[Zau path=X5 path],Zk.2 ⟨k2,(XH _).symm,trivial⟩,λrest=> ?_⟩)⟩
   ·rw[←ers_cont g1 all,hL]
   ·unfold evN;rw[ho]
   ·unfold evR;rw[ho]
   ·have k5:=Zns gs d' H.length z (ZGV H) h5 rest;unfold evE;rw[ho];dsimp only;rw[hv,hw];dsimp only[TD.er];rw[ZV hd];dsimp only[TEnt.er];rw[yak,k3 (ghH gs++[Hint.raw]++rest)];dsimp only;rw[Zp4 h1];dsimp only;rw[k4 new d' h3 _];dsimp only;rw[if_pos h4,ZM,yak];rw[show([Hint.raw]++rest)=.raw::rest from rfl,k5]
    dsimp only;rw[g2,Xj hL];rfl
  ·cases h
 ·rename_i id v' path;split at h
  ·rename_i w s e d hd;obtain⟨sub,hs,put,C,k1,k2,k3,k4⟩:=XA _ _ _ _ h;obtain⟨new,h1,h2⟩:=yf.1 k1;obtain⟨d',h3,h2⟩:=yf.1 h2;obtain⟨h4,h2⟩:=Za h2;rw[yi,yi] at h4;obtain⟨⟨h4,h5⟩,h6⟩:=h4;have h4':=h4;unfold Zf4 at h4';have hL:lk (H.set id (.row v' s true e d'))=lk H:=Ve hd rfl rfl;refine⟨_,_,_,_,_,h2,ZaJ hd rfl rfl,rfl,or3 (⟨rfl,λrest=> ?_,λrest=> ?_,C++[Zau path=X5 path],Zk.2 ⟨k2,(XH _).symm,trivial⟩,λrest=> ?_⟩)⟩
   ·unfold evN;rw[ho]
   ·unfold evR;rw[ho]
   ·unfold evE;rw[ho];dsimp only;rw[hv,hw];dsimp only[TD.er];rw[ZV hd];dsimp only[TEnt.er];rw[k3 rest];dsimp only;rw[Zp4 h1];dsimp only;rw[k4 new d' h3 _];dsimp only;rw[if_pos (by simp only[yi] at h4' ⊢;exact⟨⟨h4',h5⟩,h6⟩),Xj hL];rfl
  ·cases h
 ·cases h
def Zx3(P:yg)(ts:List TD)(t:yc)(len:Nat)(parts:List (Nat×ym))(all:List TD)(H:List TEnt)(K:Kn O):Option O:=
 ZCb (lk H) P ts t len parts λT l e=>K all (.rv H.length 0 T.size 0 len) (H++[.row 0 T.size true e (.p (.v (.arr len T) l))]) [.arr] 2
theorem Zx4{t:yc}{len:Nat}{parts:Array (Nat×ym)}(ho:o.op=.buildSlice t len parts)(h:Zx3 P ts t len parts.toList all H K=some out):
 ∃a d H' hs c,K a d H' hs c=some out∧Good P o ts all H a d H' hs c:=by
 unfold Zx3 at h;obtain⟨e,T,l,i,xs,h1,hu,hi,hl,hz,hs,hx⟩:=Zhb h;refine⟨_,_,_,_,_,h1,ZbK rfl,rfl,or3 (⟨rfl,λrest=> ?_,λrest=> ?_,[],trivial,λrest=> ?_⟩)⟩
 ·unfold evN;rw[ho];rfl
 ·unfold evR;rw[ho]
 ·unfold evE;rw[ho];dsimp only;rw[yaa,yw];dsimp only;rw[hu];dsimp only;rw[hi,hl];dsimp only;rw[if_pos (by simpa using hz),hx,Zct (Zd1 rfl),ZM,hs];rfl
def ZGW(P:yg)(ts:List TD)(e:yc):List (Nat×ym)→Option (List TD)
 |[]=>some []
 |q::r=>match arT P ts e q.2,ZGW P ts e r with
  |some d,some ds=>some (d::ds)
  |_,_=>none
theorem ZDH{L:Lk}{e:yc}:∀{parts:List (Nat×ym)}{ds:List TD},ZGW P ts e parts=some ds→(parts.map λq=>Zv P (TD.ers L ts) e q.2)=TD.ers L ds
 |[],ds,h=>by cases h;rfl
 |q::r,ds,h=>by
  simp only[ZGW] at h;split at h
  ·rename_i d l h1 h2;cases h;rw[yaf,Zr h1,ZDH h2,TD.ers]
  ·cases h
def ZL6(P:yg)(ts:List TD)(t:yc)(L:Lk)(parts:List (Nat×ym)):Bool:=
 match P.underlying t with
 |some (.slice e)=>match ZGW P ts e parts with
  |some ds=>ds.all λd=>(d.flat L).isSome
  |none=>true
 |_=>true
def ZtA(P:yg)(ts:List TD)(t:yc)(len:Nat)(parts:List (Nat×ym))(all:List TD)(H:List TEnt)(K:Kn O):Option O:=
 match P.underlying t with
 |some (.slice e)=>(P.info? e).bind λi=>(ZGW P ts e parts).bind λds=>
  if((parts.map (·.1)==yv len)&&((TD.ers (lk H) ds).all λd=>d.solid&&d.size==P.cellsOf e)&&(zOk i&&i.size !=0&&decide (len*i.size≤16777216)))=true then
   K all (.rv H.length 0 i.size 0 len) (H++[.row 0 i.size true e (.arr len i.size ds)]) [.raw] 2 else none
 |_=>none
theorem Zvy{t:yc}{len:Nat}{parts:Array (Nat×ym)}(ho:o.op=.buildSlice t len parts)(h:ZtA P ts t len parts.toList all H K=some out):
 ∃a d H' hs c,K a d H' hs c=some out∧Good P o ts all H a d H' hs c:=by
 unfold ZtA at h;split at h
 ·rename_i e hu;obtain⟨i,hi,h⟩:=yf.1 h;obtain⟨ds,hd,h⟩:=yf.1 h;obtain⟨hk,h1⟩:=Za h;rw[yi,yi] at hk;refine⟨_,_,_,_,_,h1,ZbK rfl,rfl,or3 (⟨rfl,λrest=> ?_,λrest=> ?_,[],trivial,λrest=> ?_⟩)⟩
  ·unfold evN;rw[ho];rfl
  ·unfold evR;rw[ho]
  ·unfold evE;rw[ho];dsimp only;rw[yaa,yw];dsimp only;rw[hu];dsimp only
   have hl:Zeq P (TD.ers (lk H) ts) e (P.cellsOf e) len parts.toList=some (TD.ers (lk H) ds):=by
    unfold Zeq;rw[if_pos hk.1.1,ZDH hd,if_pos hk.1.2]
   rw[hi,hl];dsimp only;rw[if_pos (by simpa using hk.2),Zct (Zd1 rfl),ZM];rfl
 ·cases h
def Zx5(P:yg)(ts:List TD)(t:yc)(len:Nat)(parts:List (Nat×ym))(all:List TD)(H:List TEnt)(K:Kn O):Option O:=
 ZCb (lk H) P ts t len parts λT l e=>if(TD.frees H.length all&&H.all (TEnt.free H.length))=true then K all (.own H.length (some true) T none) (H++[.log T e l]) [.own] 2 else none
theorem Zx6{t:yc}{len:Nat}{parts:Array (Nat×ym)}(ho:o.op=.buildSlice t len parts)(h:Zx5 P ts t len parts.toList all H K=some out):
 ∃a d H' hs c,K a d H' hs c=some out∧Good P o ts all H a d H' hs c:=by
 unfold Zx5 at h;obtain⟨e,T,l,i,xs,h1,hu,hi,hl,hz,hs,hx⟩:=Zhb h;obtain⟨h2,h1⟩:=Za h1;rw[yi] at h2;refine⟨_,_,_,_,_,h1,Zhe h2.1,rfl,or3 (⟨rfl,λrest=> ?_,λrest=> ?_,[],trivial,λrest=> ?_⟩)⟩
 ·unfold evN;rw[ho];rfl
 ·unfold evR;rw[ho]
 ·unfold evE;rw[ho];dsimp only;rw[yaa,yw];dsimp only;rw[hu];dsimp only;rw[hi,hl];dsimp only;rw[if_pos (by simpa using hz),hx,ZDG h2.2,ZM,TD.er,Zew,hs]
def ZAo(P:yg)(T:Ty)(u:yc)(H:List TEnt)(K:List T.den→List Hint→Option O)(x:TD):Option O:=
 match x with
 |.view id path s lo n=>match P.underlying u with
  |some (.slice _)=>(Zq5 H id).bind λd=>gpT (lk H) path d λsub hs _=>sub.inner.bind λy=>y.arow.bind λr=>(Ty.castL r.t T r.l).bind λl=>
   if(decide (s=T.size))=true then if(decide (lo+n≤r.n))=true then K ((l.drop lo).take n) hs else none else none
  |_=>none
 |.rv id v s lo n=>match P.underlying u,H[id]? with
  |some (.slice _),some (.row w s' _ _ d)=>d.inner.bind λy=>y.arow.bind λr=>(Ty.castL r.t T r.l).bind λl=>
   if(decide (s=T.size)&&decide (s'=T.size)&&w==v)=true then if(decide (lo+n≤r.n))=true then K ((l.drop lo).take n) [] else none else none
  |_,_=>none
 |.rw id=>match P.underlying u,H[id]? with
  |some (.slice _),some (.rowT T' v st e l')=>(Ty.castL T' T l').bind λl=>K l []
  |_,_=>none
 |x=>(ZxM (lk H) P T u x).bind λl=>K l []
theorem Znt{T:Ty}{u:yc}{x:TD}{K:List T.den→List Hint→Option O}(h:ZAo P T u H K x=some out):
 ∃l hs C,K l hs=some out∧AllP C∧∀rest,ZrP P T.size u (erH H) (hs++rest) (x.er (lk H))=some (C,l.map T.enc,rest):=by
 unfold ZAo at h;split at h
 ·rename_i id path s lo n;split at h
  ·rename_i e hu;obtain⟨d,h1,h⟩:=yf.1 h;obtain⟨st,h2,h3⟩:=ZeN h1;obtain⟨sub,hs,put,C,k1,k2,k3,_⟩:=XA _ _ _ _ h;obtain⟨y,p1,k1⟩:=yf.1 k1;obtain⟨r,p2,k1⟩:=yf.1 k1;obtain⟨l,p3,k1⟩:=yf.1 k1;obtain⟨p4,k1⟩:=Za k1;obtain⟨p5,k1⟩:=Za k1;have p4:=of_decide_eq_true p4;have p5:=of_decide_eq_true p5
   have esub:sub.er (lk H)=.p (.arr r.n T.size (l.map T.enc)):=by
    rw[YJ p1,TD.er,VI p2];obtain⟨e,p3⟩:=ZE p3;obtain⟨n0,t0,l0⟩:=r;dsimp only at e p3 ⊢;subst e;subst p3;rfl
   refine⟨_,_,C++[Zau path=X5 path,lo+n≤r.n],k1,Zk.2 ⟨k2,(XH _).symm,p5,trivial⟩,λrest=> ?_⟩;unfold ZrP;rw[TD.er];dsimp only;rw[hu,h3];dsimp only;rw[k3 rest,esub];dsimp only;rw[if_pos (by simp[p4]),yca,List.map_drop]
  ·cases h
 ·rename_i id v s lo n;split at h
  ·rename_i e w s' st e' d hu hd;obtain⟨y,p1,k1⟩:=yf.1 h;obtain⟨r,p2,k1⟩:=yf.1 k1;obtain⟨l,p3,k1⟩:=yf.1 k1;obtain⟨p4,k1⟩:=Za k1;obtain⟨p5,k1⟩:=Za k1;simp only[yi,decide_eq_true_eq] at p4;have p5:=of_decide_eq_true p5
   have esub:d.er (lk H)=.p (.arr r.n T.size (l.map T.enc)):=by
    rw[YJ p1,TD.er,VI p2];obtain⟨e,p3⟩:=ZE p3;obtain⟨n0,t0,l0⟩:=r;dsimp only at e p3 ⊢;subst e;subst p3;rfl
   refine⟨_,_,[lo+n≤r.n],k1,⟨p5,trivial⟩,λrest=> ?_⟩;unfold ZrP;rw[TD.er];dsimp only;rw[hu,ZV hd,TEnt.er,esub];dsimp only;rw[if_pos (by simp[p4]),yca,List.map_drop];rfl
  ·cases h
 ·rename_i id;split at h
  ·rename_i e T' v st e' l' hu hd;obtain⟨l,p3,k1⟩:=yf.1 h;obtain⟨eT,p3⟩:=ZE p3;subst eT;subst p3;refine⟨l,[],[0+l.length≤l.length],k1,⟨by omega,trivial⟩,λrest=> ?_⟩;unfold ZrP;rw[(Zbg hd).1];dsimp only;rw[hu,ZV hd,TEnt.er];dsimp only;rw[if_pos (by simp),List.drop_zero, ←yz (f:=T'.enc),ybt];simp
  ·cases h
 ·rename_i hx hx2 hx3;obtain⟨l,h1,h⟩:=yf.1 h;refine⟨l,[],[],h,trivial,λrest=> ?_⟩;rw[yw];unfold ZrP;split
  ·rename_i e;cases x <;> first|cases e|skip
   exact absurd rfl (hx _ _ _ _ _)
  ·rename_i e;cases x <;> first|cases e|skip
   ·exact absurd rfl (hx2 _ _ _ _ _)
   ·exact absurd rfl (hx3 _)
  ·rw[Zh7 h1];rfl
structure LogE where
 t:Ty
 e:yc
 l:List t.den
def ZGX(H:List TEnt)(id:Nat):Option LogE:=
 match H[id]? with
 |some (.log t e l)=>some ⟨t,e,l⟩
 |_=>none
theorem ZCk{id:Nat}{m:LogE}(h:ZGX H id=some m):H[id]? =some (.log m.t m.e m.l):=by
 unfold ZGX at h;split at h
 ·rename_i hd;cases h;exact hd
 ·cases h
def apB(n m b:Nat):Bool:=decide ((n+m)*b≤Zs)&&decide (n+m≤maxLen)
def Zx7(P:yg)(own row:Bool)(t u:yc)(all:List TD)(H:List TEnt)(K:Kn O)(y:TD):TD→Option O
 |.own id nn T none=>match P.underlying t with
  |some (.slice e)=>(P.info? e).bind λi=>(ZGX H id).bind λm=>(Ty.castL m.t T m.l).bind λzs=>ZAo P T u H (λys hs=>
   if(zOk i&&decide (i.size=T.size)&&decide (m.e=e)&&decide (T.size≠0))=true then if apB zs.length ys.length i.bytes=true then
    K (TD.stales (lk H) id all) (.own id none T none) ((H.map (TEnt.stale (lk H) id)).set id (.log T e (zs++ys))) hs 2 else none else none) y
  |_=>none
 |.rv id v s lo n=>match P.underlying t with
  |some (.slice e)=>(P.info? e).bind λi=>(Zjq P tyD e).bind λT=>ZAo P T u H (λys hs=>if ys.isEmpty=true then
    if(zOk i&&decide (P.cellsOf e=T.size))=true then K all (.rv id v s lo n) H (.bare::hs) 2 else none
   else match H[id]? with
    |some (.row w s' true e' d)=>d.inner.bind λy0=>y0.arow.bind λr=>(Ty.castL r.t T r.l).bind λxs=>
     if(zOk i&&decide (i.size=T.size)&&decide (s'=T.size)&&decide (e'=e)&&decide (T.size≠0)&&w==v&&decide (lo=0)&&decide (s=T.size))=true then if(decide (n≤r.n)&&apB n ys.length i.bytes)=true then
      K all (.rv id (v+1) s 0 (n+ys.length)) (H.set id (.row (v+1) s true e (.p (.v (.arr (n+ys.length) T) (xs.take n++ys))))) (.raw::hs) 2 else none else none
    |_=>none) y
  |_=>none
 |.p (.sl (some false) _ [])=>if row then match P.underlying t with
  |some (.slice e)=>(P.info? e).bind λi=>(Zjq P tyD e).bind λT=>(ZxM (lk H) P T u y).bind λys=>
   if(zOk i&&i.size !=0&&decide (i.size=T.size)&&decide (P.cellsOf e=T.size))=true then if Zz9 ys.length i.bytes=true then
    K all (.rv H.length 0 i.size 0 ys.length) (H++[.row 0 i.size true e (.p (.v (.arr ys.length T) ys))]) [.arr] 2 else none else none
  |_=>none else if own then match P.underlying t with
  |some (.slice e)=>(P.info? e).bind λi=>(Zjq P tyD e).bind λT=>(ZxM (lk H) P T u y).bind λys=>
   if(zOk i&&i.size !=0&&decide (i.size=T.size)&&decide (P.cellsOf e=T.size)&&TD.frees H.length all&&H.all (TEnt.free H.length))=true then if Zz9 ys.length i.bytes=true then
    K all (.own H.length none T none) (H++[.log T e ys]) [.own] 2 else none else none
  |_=>none else none
 |_=>none
theorem ZGY{id:Nat}{T:Ty}{e:yc}{l:List T.den}(H:List TEnt)(h:id < H.length):ZX (lk (H.set id (.log T e l))) id T none=l:=by
 unfold ZX lk;dsimp only;rw[yco h];show(Ty.castL T T l).getD []=l;unfold Ty.castL;split
 ·rfl
 ·rename_i h _;exact absurd rfl h
theorem ZbL{L:Lk}{n:Nat}:∀(l:List TD),(TD.stales L n l).length=l.length
 |[]=>rfl
 |_::r=>by rw[TD.stales,yad,yad,ZbL r]
def ZCl(H:List TEnt):TD→TD
 |.own id nn T (some zs)=>match H[id]? with
  |some (.log t e l)=>match Ty.castL t T l with
   |some l'=>if@decide (l'=zs) (@instDecidableEqList T.den (Ty.deq T) l' zs)=true then .own id nn T none else .own id nn T (some zs)
   |none=>.own id nn T (some zs)
  |_=>.own id nn T (some zs)
 |d=>d
theorem ZFh(d:TD):(ZCl H d).er (lk H)=d.er (lk H):=by
 unfold ZCl;split
 ·rename_i id nn T zs;split
  ·rename_i t e l hd;split
   ·rename_i l' hc;split
    ·rename_i he;have he:=@of_decide_eq_true _ (@instDecidableEqList T.den (Ty.deq T) l' zs) he;rw[TD.er,TD.er]
     have:ZX (lk H) id T none=zs:=by
      unfold ZX lk;dsimp only;rw[hd];show(Ty.castL t T l).getD []=zs;rw[hc, ←he];rfl
     rw[this];rfl
    ·rfl
   ·rfl
  ·rfl
 ·rfl
theorem Zx8{own row:Bool}{t u:yc}{x y:ym}{c:Call}{xd yd:TD}(ho:o.op=.call c)(hc:c.callee=.builtin .append)(ha:c.args.toList=[x,y])(ht:c.argTypes.toList=[t,u])
 (hv:Zv P (TD.ers (lk H) ts) t x=xd.er (lk H)) (hy:arT P ts u y=some yd) (h:Zx7 P own row t u all H K yd xd=some out):∃a d H' hs c,K a d H' hs c=some out∧Good P o ts all H a d H' hs c:=by
 have hw:=Zr (L:=lk H) hy;unfold Zx7 at h;split at h
 ·rename_i id nn T;split at h
  ·rename_i e hu;obtain⟨i,h1,h⟩:=yf.1 h;obtain⟨m,h2,h⟩:=yf.1 h;obtain⟨zs,h3,h⟩:=yf.1 h;obtain⟨ys,hs,C,k1,k2,k3⟩:=Znt h;obtain⟨k4,k6⟩:=Za k1;obtain⟨k5,kk⟩:=Za k6;clear k1 k6;simp only[yi,decide_eq_true_eq] at k4;obtain⟨⟨⟨g1,g2⟩,g3⟩,g4⟩:=k4;simp only[apB,yi,decide_eq_true_eq] at k5;have hl:=ZCk h2;obtain⟨mt,me,ml⟩:=m;dsimp only at h3 g3 hl;obtain⟨eT,h3⟩:=ZE h3;subst eT;subst h3;subst g3;have hlt:id < H.length:=(yp.1 hl).1
   have ec:ZX (lk H) id mt none=zs:=by
    unfold ZX lk;dsimp only;rw[hl];show(Ty.castL mt mt zs).getD []=zs;unfold Ty.castL;split
    ·rfl
    ·rename_i h _;exact absurd rfl h
   refine⟨_,_,_,_,_,kk,ers_stale (λid' t hn=>Vy (lk H) id' t hn) all,ZbL all,or3 (⟨rfl,λrest=> ?_,λrest=> ?_,
    C++[zs.map mt.enc=zs.map mt.enc,((zs.map mt.enc).length+(ys.map mt.enc).length)*i.bytes≤Zs,(zs.map mt.enc).length+(ys.map mt.enc).length≤maxLen],Zk.2 ⟨k2,rfl,by simpa using k5.1,by simpa using k5.2,trivial⟩,λrest=> ?_⟩)⟩
   ·unfold evN;rw[ho];dsimp only;rw[hc];dsimp only;rw[ha,ht];split
    ·rename_i e1 e2 e3;simp only[List.cons.injEq,and_true] at e1 e2;obtain⟨rfl,rfl⟩:=e1;obtain⟨rfl,rfl⟩:=e2;rw[hu,hv];rfl
    ·rfl
   ·unfold evR;rw[ho];dsimp only;rw[hc]
   ·unfold evE;rw[ho];dsimp only;rw[hc];dsimp only;rw[ha,ht];dsimp only;rw[hu,hv,hw];dsimp only[TD.er];rw[ec,h1,k3 rest,ZV hl];dsimp only[TEnt.er];rw[if_pos (by simp[g1,g2,g4]),ZGR,ZGY _ (by rw[yz];exact hlt),yar]
  ·cases h
 ·rename_i id v s lo n;split at h
  ·rename_i e hu;obtain⟨i,h1,h⟩:=yf.1 h;obtain⟨T,h2,h⟩:=yf.1 h;obtain⟨ys,hs,C,k1,k2,k3⟩:=Znt h
   have nN:∀hs,evN P o (TD.ers (lk H) ts) hs=none:=λhs=>by
    unfold evN;rw[ho];dsimp only;rw[hc];dsimp only;rw[ha,ht]
    cases hs with
    |nil=>rfl
    |cons h0 hr=>cases h0 <;> first|rfl|(dsimp only;rw[hu,hv];rfl)
   have nR:∀hs,evR P o (TD.ers (lk H) ts) (erH H) hs=none:=λhs=>by
    unfold evR;rw[ho];dsimp only;rw[hc]
   split at k1
   ·rename_i hemp;obtain⟨k4,k5⟩:=Za k1;simp only[yi,decide_eq_true_eq] at k4;have hys:ys=[]:=by simpa using hemp
    refine⟨_,_,_,_,_,k5,rfl,rfl,or3 (⟨rfl,λrest=>nN _,λrest=>nR _,C++[ys.map T.enc=[]],Zk.2 ⟨k2,by rw[hys];rfl,trivial⟩,λrest=> ?_⟩)⟩;unfold evE;rw[ho];dsimp only;rw[hc];dsimp only;rw[ha,ht];dsimp only;rw[hu,hv,hw];dsimp only[TD.er];rw[yaa];dsimp only;rw[h1,k4.2,k3 rest];dsimp only;rw[if_pos k4.1]
   ·split at k1
    ·rename_i w s' e' d hd;obtain⟨y0,p1,q1⟩:=yf.1 k1;obtain⟨r,p2,q2⟩:=yf.1 q1;obtain⟨xs,p3,q3⟩:=yf.1 q2;obtain⟨p4,q4⟩:=Za q3;obtain⟨p5,q5⟩:=Za q4;simp only[yi,decide_eq_true_eq,beq_iff_eq] at p4;obtain⟨⟨⟨⟨⟨⟨⟨g1,g2⟩,g3⟩,g4⟩,g5⟩,g6⟩,g7⟩,g8⟩:=p4;simp only[apB,yi,decide_eq_true_eq] at p5
     have esub:d.er (lk H)=.p (.arr r.n T.size (xs.map T.enc)):=by
      rw[YJ p1,TD.er,VI p2];obtain⟨e,p3⟩:=ZE p3;obtain⟨n0,t0,l0⟩:=r;dsimp only at e p3 ⊢;subst e;subst p3;rfl
     refine⟨_,_,_,_,_,q5,ZaJ hd rfl rfl,rfl,or3 (⟨rfl,λrest=>nN _,λrest=>nR _,C++[n≤r.n,(n+(ys.map T.enc).length)*i.bytes≤Zs,n+(ys.map T.enc).length≤maxLen,true=true∨n=r.n],
      Zk.2 ⟨k2,p5.1,by simpa using p5.2.1,by simpa using p5.2.2,.inl rfl,trivial⟩,λrest=> ?_⟩)⟩
     unfold evE;rw[ho];dsimp only;rw[hc];dsimp only;rw[ha,ht];dsimp only;rw[hu,hv,hw];dsimp only[TD.er];rw[yaa];dsimp only;rw[h1,g8,k3 rest,ZV hd,TEnt.er,esub];dsimp only;rw[if_pos (by simp[g1,g2,g3,g4,g5,g6,g7]),Xj (Ve hd rfl rfl)];simp only[TEnt.er,TD.er,TP.pe,ZxG,yz,yar,yca]
    ·cases k1
  ·cases h
 ·rename_i T0;split at h
  ·split at h
   ·rename_i e hu;obtain⟨i,h1,h⟩:=yf.1 h;obtain⟨T,h2,h⟩:=yf.1 h;obtain⟨ys,h3,h⟩:=yf.1 h;obtain⟨k4,h⟩:=Za h;obtain⟨k5,h⟩:=Za h;simp only[yi,decide_eq_true_eq] at k4;obtain⟨⟨⟨g1,g2⟩,g3⟩,g4⟩:=k4;obtain⟨g7,g8⟩:=ZaG k5;refine⟨_,_,_,_,_,h,ZbK rfl,rfl,or3 (⟨rfl,λrest=> ?_,λrest=> ?_,[(ys.map T.enc).length*i.bytes≤Zs,(ys.map T.enc).length≤maxLen],⟨by rw[yz];exact g7,by rw[yz];exact g8,trivial⟩,λrest=> ?_⟩)⟩
    ·unfold evN;rw[ho];dsimp only;rw[hc];dsimp only;rw[ha,ht];rfl
    ·unfold evR;rw[ho];dsimp only;rw[hc]
    ·unfold evE;rw[ho];dsimp only;rw[hc];dsimp only;rw[ha,ht];dsimp only;rw[hu,hv,hw,show(TD.p (TP.sl (some false) T0 [])).er (lk H)=Dv.p (.sl (some false) T0.size []) from rfl]
     dsimp only;rw[h1,g4,Zh7 h3,yaa,yw];dsimp only;rw[if_pos (by simp only[yi];exact⟨g1,g2⟩),Zct (Zd1 rfl),ZM];simp only[TEnt.er,TD.er,TP.pe,ZxG,yz,g3]
   ·cases h
  split at h
  ·split at h
   ·rename_i e hu;obtain⟨i,h1,h⟩:=yf.1 h;obtain⟨T,h2,h⟩:=yf.1 h;obtain⟨ys,h3,h⟩:=yf.1 h;obtain⟨k4,h⟩:=Za h;obtain⟨k5,h⟩:=Za h;simp only[yi,decide_eq_true_eq] at k4;obtain⟨⟨⟨⟨⟨g1,g2⟩,g3⟩,g4⟩,g5⟩,g6⟩:=k4;obtain⟨g7,g8⟩:=ZaG k5;refine⟨_,_,_,_,_,h,Zhe g5,rfl,or3 (⟨rfl,λrest=> ?_,λrest=> ?_,[(ys.map T.enc).length*i.bytes≤Zs,(ys.map T.enc).length≤maxLen],⟨by rw[yz];exact g7,by rw[yz];exact g8,trivial⟩,λrest=> ?_⟩)⟩
    ·unfold evN;rw[ho];dsimp only;rw[hc];dsimp only;rw[ha,ht];rfl
    ·unfold evR;rw[ho];dsimp only;rw[hc]
    ·unfold evE;rw[ho];dsimp only;rw[hc];dsimp only;rw[ha,ht];dsimp only;rw[hu,hv,hw,show(TD.p (TP.sl (some false) T0 [])).er (lk H)=Dv.p (.sl (some false) T0.size []) from rfl]
     dsimp only;rw[h1,g4,Zh7 h3,yaa,yw];dsimp only;rw[if_pos (by simp only[yi];exact⟨g1,g2⟩),ZDG g6,ZM,TD.er,Zew,g3]
   ·cases h
  ·cases h
 ·cases h
def ZCm(P:yg)(t:yc)(all:List TD)(H:List TEnt)(K:Kn O):TD→Option O
 |.rv id v s lo n=>match P.underlying t,H[id]? with
  |some (.slice e),some (.row w s' true e' d)=>(P.info? e).bind λi=>(Ztx P e).bind λz=>d.inner.bind λy=>y.arow.bind λr=>(TP.to Zkb z r.t).bind λz'=>
   if(zOk i&&decide (i.size=s)&&decide (s'=s)&&decide (r.t.size=s)&&w==v&&s !=0&&z.pe.size==s&&decide (n=1))=true then if decide (lo+1≤r.n)=true then
    K all (.tup []) (H.set id (.row v s true e' (.p (.v (.arr r.n r.t) (r.l.set lo z'))))) [] 2 else none else none
  |_,_=>none
 |_=>none
theorem ZAp{t:yc}{x:ym}{c:Call}{xd:TD}(ho:o.op=.call c)(hc:c.callee=.builtin .clear)(ha:c.args.toList=[x])(ht:c.argTypes.toList=[t])
 (hx:arT P ts t x=some xd) (h:ZCm P t all H K xd=some out):∃a d H' hs c,K a d H' hs c=some out∧Good P o ts all H a d H' hs c:=by
 have hv:=Zr (L:=lk H) hx;unfold ZCm at h;split at h
 ·rename_i id v s lo n;split at h
  ·rename_i e w s' e' d hu hd;obtain⟨i,h1,h⟩:=yf.1 h;obtain⟨z,h2,h⟩:=yf.1 h;obtain⟨y,p1,q1⟩:=yf.1 h;obtain⟨r,p2,q2⟩:=yf.1 q1;obtain⟨z',p3,q3⟩:=yf.1 q2;obtain⟨p4,q4⟩:=Za q3;obtain⟨p5,k1⟩:=Za q4;clear q1 q2 q3 q4 h;simp only[yi,decide_eq_true_eq] at p4;obtain⟨⟨⟨⟨⟨⟨⟨g1,g2⟩,g3⟩,g4⟩,g5⟩,g6⟩,g7⟩,g8⟩:=p4;have g8':=g8;subst g8;have p5:=of_decide_eq_true p5;have esub:d.er (lk H)=.p (.arr r.n r.t.size (r.l.map r.t.enc)):=by rw[YJ p1,TD.er,VI p2]
   refine⟨_,_,_,_,_,k1,ZaJ hd rfl rfl,rfl,or3 (⟨rfl,λrest=> ?_,λrest=> ?_,[lo+1≤r.n],⟨p5,trivial⟩,λrest=> ?_⟩)⟩
   ·unfold evN;rw[ho];dsimp only;rw[hc]
   ·unfold evR;rw[ho];dsimp only;rw[hc]
   ·unfold evE;rw[ho];dsimp only;rw[hc];dsimp only;rw[ha,ht];dsimp only;rw[hu,hv];dsimp only[TD.er];rw[h1,Zke h2,ZV hd,TEnt.er,esub];dsimp only;rw[if_pos (by simp only[yi,decide_eq_true_eq];exact⟨⟨⟨⟨⟨⟨⟨g1,g2⟩,g3⟩,g4⟩,g5⟩,g6⟩,g7⟩,trivial⟩),Xj (Ve hd rfl rfl),ZfZ z r.t z' p3];have eset:(r.l.set lo z').map r.t.enc=(r.l.map r.t.enc).set lo (r.t.enc z'):=ybf ..;show some ([lo+1≤r.n],Dv.tup [],(erH H).set id (Ent.row v s true e' (.p (.arr r.n s ((r.l.map r.t.enc).set lo (r.t.enc z'))))),rest)=some ([lo+1≤r.n],Dv.tup [],(erH H).set id (Ent.row v s true e' (.p (.arr r.n r.t.size ((r.l.set lo z').map r.t.enc)))),rest);rw[eset,g4]
  ·cases h
 ·cases h
def ZGZ(P:yg)(t u:yc)(all:List TD)(H:List TEnt)(K:Kn O)(y:TD):TD→Option O
 |.view id path s lo n=>match P.underlying t,H[id]? with
  |some (.slice e),some (.var d true)=>gpT (lk H) path d λsub hs put=>sub.inner.bind λy0=>y0.arow.bind λr=>(ZxM (lk H) P r.t u y).bind λys=>
   (put (.p (.v (.arr r.n r.t) (r.l.take lo++(ys++r.l.drop (lo+ys.length)))))).bind λd'=>
     if(decide (r.t.size=s)&&decide (P.cellsOf e=s)&&(P.info? e).isSome&&decide (ys.length≤n)&&decide (lo+n≤r.n))=true then K all (.p (.v (.int .i64) (ys.length:Int))) (H.set id (.var d' true)) hs 2 else none
  |_,_=>none
 |_=>none
theorem ZCn{t u:yc}{x y:ym}{c:Call}{xd yd:TD}(ho:o.op=.call c)(hc:c.callee=.builtin .copy)(ha:c.args.toList=[x,y])(ht:c.argTypes.toList=[t,u])
 (hx:arT P ts t x=some xd) (hy:arT P ts u y=some yd) (h:ZGZ P t u all H K yd xd=some out):∃a d H' hs c,K a d H' hs c=some out∧Good P o ts all H a d H' hs c:=by
 have hv:=Zr (L:=lk H) hx;have hw:=Zr (L:=lk H) hy;unfold ZGZ at h;split at h
 ·rename_i id path s lo n;split at h
  ·rename_i e d hu hd;obtain⟨sub,hs,put,C,k1,k2,k3,k4⟩:=XA _ _ _ _ h;obtain⟨y0,p1,k1⟩:=yf.1 k1;obtain⟨r,p2,k1⟩:=yf.1 k1;obtain⟨ys,p3,k1⟩:=yf.1 k1;obtain⟨d',p4,k1⟩:=yf.1 k1;obtain⟨p5,k1⟩:=Za k1;simp only[yi,decide_eq_true_eq] at p5;obtain⟨⟨⟨⟨g1,g2⟩,g3⟩,g4⟩,g5⟩:=p5;have esub:sub.er (lk H)=.p (.arr r.n r.t.size (r.l.map r.t.enc)):=by rw[YJ p1,TD.er,VI p2]
   refine⟨_,_,_,_,_,k1,ZaJ hd rfl rfl,rfl,or3 (⟨rfl,λrest=> ?_,λrest=> ?_,C++[Zau path=X5 path,(ys.map r.t.enc).length≤n,lo+n≤r.n],Zk.2 ⟨k2,(XH _).symm,by rw[yz];exact g4,g5,trivial⟩,λrest=> ?_⟩)⟩
   ·unfold evN;rw[ho];dsimp only;rw[hc]
   ·unfold evR;rw[ho];dsimp only;rw[hc]
   ·unfold evE;rw[ho];dsimp only;rw[hc];dsimp only;rw[ha,ht];dsimp only;rw[hu,hv,hw];dsimp only[TD.er];rw[←g1,Zh7 p3,ZV hd];dsimp only[TEnt.er];rw[k3 rest,esub];dsimp only;have:=k4 _ _ p4 rest
    have e1:(TD.p (.v (.arr r.n r.t) (r.l.take lo++(ys++r.l.drop (lo+ys.length))))).er (lk H)=.p (.arr r.n r.t.size (ZpK (r.l.map r.t.enc) (ys.map r.t.enc) lo)):=by
     show Dv.p (Pl.arr r.n r.t.size ((r.l.take lo++(ys++r.l.drop (lo+ys.length))).map r.t.enc))=_;unfold ZpK;rw[yar,yar,yca,List.map_drop,yz]
    rw[e1] at this;rw[this];dsimp only;rw[if_pos (by simp only[yi,decide_eq_true_eq];exact⟨⟨trivial,by rw[g1];exact g2⟩,g3⟩),Xj (Ve hd rfl rfl),yz];rfl
  ·cases h
 ·cases h
def ZCo(H:List TEnt)(id:Nat):Bool:=
 match H[id]? with
 |some (.var _ false)=>true
 |_=>false
def ZKX(P:yg)(t:yc)(lo hi:Option Int)(all:List TD)(H:List TEnt)(K:Kn O):TD→Option O
 |.ref id path=>match P.underlying t with
  |some (.array n e)=>(Zq5 H id).bind λd=>gpT (lk H) path d λsub hs _=>sub.inner.bind λy=>y.arow.bind λr=>
   if(decide (n=r.n)&&okB P e r.t.size&&decide (n≤maxLen))=true then if Zat n lo hi=true then(if ZCo H id=true then K all (.p (.sl (some true) r.t (W9 r.l lo hi))) H (.frz::hs) 1 else
    K all (.p (.sl (some true) r.t (W9 r.l lo hi))) (H.set id (.var d false)) (.frz::hs) 2) else none else none
  |_=>none
 |_=>none
theorem ZFi{t:yc}{x:ym}{lo hi:Option ym}{l h':Option Int}{xd:TD}(ho:o.op=.slice t x lo hi none)(hx:arT P ts t x=some xd)(hl:ZfH P ts lo=some l)(hh:ZfH P ts hi=some h')
 (h:ZKX P t l h' all H K xd=some out):∃a d H' hs c,K a d H' hs c=some out∧Good P o ts all H a d H' hs c:=by
 have hv:=Zr (L:=lk H) hx;have hl:=ZaH (L:=lk H) hl;have hh:=ZaH (L:=lk H) hh;unfold ZKX at h;split at h
 ·rename_i id path;split at h
  ·rename_i n e hu;obtain⟨d,h1,h⟩:=yf.1 h;obtain⟨st,h2,h3⟩:=ZeN h1;obtain⟨sub,hs,put,C,k1,k2,k3,_⟩:=XA _ _ _ _ h;obtain⟨y,p1,k1⟩:=yf.1 k1;obtain⟨r,p2,k1⟩:=yf.1 k1;obtain⟨p4,k1⟩:=Za k1;obtain⟨p5,k1⟩:=Za k1;have esub:sub.er (lk H)=.p (.arr r.n r.t.size (r.l.map r.t.enc)):=by rw[YJ p1,TD.er,VI p2]
   have nN:∀rest,evN P o (TD.ers (lk H) ts) (.frz::hs++rest)=none:=λrest=>by
    unfold evN;rw[ho];dsimp only;rw[hu,hv,hl,hh];rfl
   split at k1
   ·rename_i hst
    have hst':st=false:=by
     unfold ZCo at hst;rw[h2] at hst
     cases st with
     |false=>rfl
     |true=>cases hst
    subst hst';refine⟨_,_,_,_,_,k1,rfl,rfl,.inr (.inl ⟨rfl,rfl,nN,C++[Zau path=X5 path]++YN n l h',Zk.2 ⟨Zk.2 ⟨k2,(XH _).symm,trivial⟩,ZeM p5⟩,λrest=> ?_⟩)⟩;unfold evR;rw[ho];dsimp only;rw[hu,hv,hl,hh];dsimp only[TD.er];rw[yaa];dsimp only;rw[h3];dsimp only;rw[k3 rest,esub];dsimp only;rw[if_pos (by simpa[okB,and_assoc] using p4),TP.pe,Zf0]
   rename_i hst
   have hst':st=true:=by
    unfold ZCo at hst;rw[h2] at hst
    cases st with
    |true=>rfl
    |false=>exact absurd rfl hst
   subst hst';refine⟨_,_,_,_,_,k1,ZaJ h2 rfl rfl,rfl,or3 (⟨rfl,nN,λrest=> ?_,C++[Zau path=X5 path]++YN n l h',Zk.2 ⟨Zk.2 ⟨k2,(XH _).symm,trivial⟩,ZeM p5⟩,λrest=> ?_⟩)⟩
   ·unfold evR;rw[ho];dsimp only;rw[hu,hv,hl,hh];dsimp only[TD.er];rw[yaa];dsimp only;rw[h3]
   ·unfold evE;rw[ho];dsimp only;rw[hu,hv,hl,hh];dsimp only[TD.er];rw[yaa];dsimp only;rw[h3];dsimp only;rw[k3 rest,esub];dsimp only;rw[if_pos (by simpa[okB,and_assoc] using p4),Xj (Ve h2 rfl rfl),TP.pe,Zf0];rfl
  ·cases h
 ·cases h
def Zx9(dst:Tmp)(all:List TD)(H:List TEnt)(K:Kn O):TD→Option O
 |.view id path s lo n=>(Zq5 H id).bind λd=>gpT (lk H) path d λsub hs _=>sub.inner.bind λy=>y.arow.bind λr=>
  if(decide (r.t.size=s))=true then if(decide (lo+n≤r.n))=true then K all (.p (.sl (some true) r.t ((r.l.drop lo).take n))) (H.set id (.var d false)) (.still dst::hs) 2 else none else none
 |.rv id v s lo n=>match H[id]? with
  |some (.row w s' _ e d)=>d.inner.bind λy=>y.arow.bind λr=>
   if(decide (r.t.size=s)&&decide (s'=s)&&w==v)=true then if(decide (lo+n≤r.n))=true then K all (.p (.sl none r.t ((r.l.drop lo).take n))) (H.set id (.row v s false e d)) [.still dst] 2 else none else none
  |_=>none
 |_=>none
theorem ZAq{dst:Tmp}{xd:TD}(h:Zx9 dst all H K xd=some out):∃a d H' hs,K a d H' (.still dst::hs) 2=some out∧TD.ers (lk H') a=TD.ers (lk H) all∧a.length=all.length∧
 ∃C,AllP C∧∀rest,ZeC (xd.er (lk H)) (erH H) (hs++rest)=some (C,d.er (lk H'),erH H',rest):=by
 unfold Zx9 at h;split at h
 ·rename_i id path s lo n;obtain⟨d,h1,h⟩:=yf.1 h;obtain⟨st,h2,h3⟩:=ZeN h1;obtain⟨sub,hs,put,C,k1,k2,k3,_⟩:=XA _ _ _ _ h;obtain⟨y,p1,k1⟩:=yf.1 k1;obtain⟨r,p2,k1⟩:=yf.1 k1;obtain⟨p4,k1⟩:=Za k1;obtain⟨p5,k1⟩:=Za k1;have p4:=of_decide_eq_true p4;have p5:=of_decide_eq_true p5;have esub:sub.er (lk H)=.p (.arr r.n r.t.size (r.l.map r.t.enc)):=by rw[YJ p1,TD.er,VI p2]
  refine⟨_,_,_,_,k1,ZaJ h2 rfl rfl,rfl,C++[Zau path=X5 path,lo+n≤r.n],Zk.2 ⟨k2,(XH _).symm,p5,trivial⟩,λrest=> ?_⟩;unfold ZeC;rw[show(TD.view id path s lo n).er (lk H)=Dv.view id (X5 path) (path.map Stp.i) s lo n from rfl]
  try dsimp only
  rw[h3]
  try dsimp only
  rw[k3 rest,esub]
  try dsimp only
  rw[if_pos p4,Xj (Ve h2 rfl rfl),TD.er,TP.pe,yca,List.map_drop,p4]
  try rfl
 ·rename_i id v s lo n;split at h
  ·rename_i w s' st e d hd;obtain⟨y,p1,k1⟩:=yf.1 h;obtain⟨r,p2,k1⟩:=yf.1 k1;obtain⟨p4,k1⟩:=Za k1;obtain⟨p5,k1⟩:=Za k1;simp only[yi,decide_eq_true_eq] at p4;have p5:=of_decide_eq_true p5;have esub:d.er (lk H)=.p (.arr r.n r.t.size (r.l.map r.t.enc)):=by rw[YJ p1,TD.er,VI p2]
   refine⟨_,_,_,[],k1,ZaJ hd rfl rfl,rfl,[lo+n≤r.n],⟨p5,trivial⟩,λrest=> ?_⟩;rw[yw];unfold ZeC;rw[show(TD.rv id v s lo n).er (lk H)=Dv.rv id v s lo n from rfl]
   dsimp only;rw[ZV hd,TEnt.er,esub];dsimp only;rw[if_pos (by simp[p4]),Xj (Ve hd rfl rfl),TEnt.er,esub,TD.er,TP.pe,yca,List.map_drop,p4.1.1]
  ·cases h
 ·cases h
theorem ZAr{x:ym}{dst:Tmp}{xd:TD}(ho:o.op=.assign x∨o.op=.move x)(hd:o.dst=some dst)(hx:arT P ts o.type x=some xd)(h:Zx9 dst all H K xd=some out):
 ∃a d H' hs c,K a d H' hs c=some out∧Good P o ts all H a d H' hs c:=by
 have hv:=Zr (L:=lk H) hx;obtain⟨a,d,H',hs,k1,k2,k3,C,k4,k5⟩:=ZAq h;refine⟨_,_,_,_,_,k1,k2,k3,or3 (⟨rfl,λrest=> ?_,λrest=> ?_,C,k4,λrest=> ?_⟩)⟩
 ·rcases ho with ho|ho <;> (unfold evN;rw[ho];rfl)
 ·rcases ho with ho|ho <;> (unfold evR;rw[ho])
 ·rcases ho with ho|ho
  ·unfold evE;rw[ho];dsimp only;rw[yaa];dsimp only;rw[if_pos hd,hv];exact k5 rest
  ·unfold evE;rw[ho];dsimp only;rw[yaa];dsimp only;rw[if_pos hd,hv];exact k5 rest
def TD.isRw:TD→Bool
 |.rw _=>true
 |_=>false
def TD.isRp:TD→Bool
 |.rp _ _=>true
 |_=>false
theorem ZDI{id:Nat}{T:Ty}{v:List Unit}{st st':Bool}{e e':yc}{l l':List T.den}(hd:H[id]? =some (.rowT T v st e l))(hl:l'.length=l.length):lk (H.set id (.rowT T v st' e' l'))=lk H:=by
 funext j;unfold lk;by_cases hj:id=j
 ·subst hj;rw[getElem?_set_eq' hd,hd];show some _=some _;rw[hl]
 ·rw[getElem?_set_ne' hj]
def Zya(P:yg)(t:yc)(i:Int)(all:List TD)(H:List TEnt)(K:Kn O):TD→Option O
 |.rw id=>match P.underlying t,H[id]? with
  |some (.slice e),some (.rowT T v st e' l)=>if okB P e T.size=true then if inB i l.length=true then K all (.rp id [.ix i.toNat T.size]) H [] 0 else none else none
  |_,_=>none
 |_=>none
theorem Zyb{t:yc}{x ix:ym}{xd:TD}{q:IntKind×Int}{ip:TP}(ho:o.op=.indexAddr t x ix)(hx:arT P ts t x=some xd)(hi:arT P ts 0 ix=some (.p ip))(hq:Ztp ip=some q)(h:Zya P t q.2 all H K xd=some out):
 ∃a d H' hs c,K a d H' hs c=some out∧Good P o ts all H a d H' hs c:=by
 have hv:=Zr (L:=lk H) hx;have hw:=Zr (L:=lk H) hi;rw[TD.er,(Zol hq).1] at hw;unfold Zya at h;split at h
 ·rename_i id;split at h
  ·rename_i e T v st e' l hu hd;obtain⟨h3,h⟩:=Za h;obtain⟨h4,h⟩:=Za h;refine⟨_,_,_,_,_,h,rfl,rfl,.inl ⟨rfl,rfl,[0≤q.2,q.2 < (l.length:Int)],⟨(VH h4).1,(VH h4).2,trivial⟩,λrest=> ?_⟩⟩;simp only[yw];unfold evN;rw[ho];dsimp only;rw[hu,hv,hw,(Zbg hd).1,(Zbg hd).2];dsimp only;rw[if_pos (by simpa[okB] using h3)];simp[X5,Stp.o,Stp.i]
  ·cases h
 ·cases h
def ZG0(P:yg)(t:yc)(all:List TD)(H:List TEnt)(K:Kn O):TD→Option O
 |.rw id=>match P.underlying t,H[id]? with
  |some (.slice _),some (.rowT T v st e' l)=>K all (.p (.v (.int .i64) (l.length:Int))) H [] 0
  |_,_=>none
 |_=>none
theorem ZCp{t:yc}{x:ym}{c:Call}{xd:TD}(ho:o.op=.call c)(hc:c.callee=.builtin .len)(ha:c.args.toList=[x])(ht:c.argTypes.toList=[t])(hx:arT P ts t x=some xd)(h:ZG0 P t all H K xd=some out):
 ∃a d H' hs c,K a d H' hs c=some out∧Good P o ts all H a d H' hs c:=by
 have hv:=Zr (L:=lk H) hx;unfold ZG0 at h;split at h
 ·rename_i id;split at h
  ·rename_i e T v st e' l hu hd;refine⟨_,_,_,_,_,h,rfl,rfl,.inl ⟨rfl,rfl,[],trivial,λrest=> ?_⟩⟩;simp only[yw];unfold evN;rw[ho];dsimp only;rw[hc];dsimp only;rw[ha,ht];dsimp only;rw[hu,hv,(Zbg hd).1];rfl
  ·cases h
 ·cases h
def ZCq(P:yg)(t:yc)(all:List TD)(H:List TEnt)(K:Kn O):TD→Option O
 |.rp id path=>match H[id]? with
  |some (.rowT T v st e l)=>gpT (lk H) path (.p (.v (.arr l.length T) l)) λsub hs _=>if okT P t (sub.er (lk H))=true then K all sub H hs 1 else none
  |_=>none
 |_=>none
theorem ZAs{t:yc}{x:ym}{xd:TD}(ho:o.op=.load t x)(hx:arT P ts 0 x=some xd)(h:ZCq P t all H K xd=some out):∃a d H' hs c,K a d H' hs c=some out∧Good P o ts all H a d H' hs c:=by
 have hv:=Zr (L:=lk H) hx;unfold ZCq at h;split at h
 ·rename_i id path;split at h
  ·rename_i T v st e l hd;obtain⟨sub,hs,put,C,k1,k2,k3,_⟩:=XA _ _ _ _ h;obtain⟨k4,k5⟩:=Za k1;refine⟨_,_,_,_,_,k5,rfl,rfl,.inr (.inl ⟨rfl,rfl,λrest=> ?_,C++[Zau path=X5 path],Zk.2 ⟨k2,(XH _).symm,trivial⟩,λrest=> ?_⟩)⟩
   ·unfold evN;rw[ho];dsimp only;rw[hv];rfl
   ·unfold evR;rw[ho];dsimp only;rw[hv,(Zbg hd).2];dsimp only;rw[ZV hd];dsimp only[TEnt.er];have k6:Z7 (.p (.arr l.length T.size (l.map T.enc))) (path.map Stp.i) (hs++rest)=some (C,Zau path,sub.er (lk H),rest):=k3 rest;rw[k6];dsimp only;rw[if_pos (by rw[yi];exact⟨k4,by simp⟩)]
  ·cases h
 ·cases h
def Zyc(P:yg)(t:yc)(all:List TD)(H:List TEnt)(K:Kn O)(v:TD):TD→Option O
 |.rp id (.ix i s::r)=>match H[id]? with
  |some (.rowT T u true e l)=>if s=T.size then(l[i]?).bind λy=>gpT (lk H) r (.p (.v T y)) λsub hs put=>(put (v.meltP (lk H))).bind λd1=>d1.inner.bind λz=>(TP.to Zkb z T).bind λy'=>
   if Zf4 P t ((v.meltP (lk H)).er (lk H)) (sub.er (lk H))=true then K all .junk (H.set id (.rowT T u true e (l.set i y'))) (.el (T.enc y)::hs) 2 else none else none
  |_=>none
 |_=>none
theorem Zyd{t:yc}{x y:ym}{xd yd:TD}(ho:o.op=.store t x y)(hx:arT P ts 0 x=some xd)(hy:arT P ts t y=some yd)(h:Zyc P t all H K yd xd=some out):
 ∃a d H' hs c,K a d H' hs c=some out∧Good P o ts all H a d H' hs c:=by
 have hv:=Zr (L:=lk H) hx;have hw:=Zr (L:=lk H) hy;unfold Zyc at h;split at h
 ·rename_i id i s r;split at h
  ·rename_i T u e l hd;split at h
   ·rename_i hs0;obtain⟨y0,h2,h⟩:=yf.1 h;obtain⟨sub,hs,put,C,k1,k2,k3,k4⟩:=XA r (.p (.v T y0)) _ out h;obtain⟨d1,p1,k1⟩:=yf.1 k1;obtain⟨z,p2,k1⟩:=yf.1 k1;obtain⟨y',p3,k1⟩:=yf.1 k1;obtain⟨h4,k1⟩:=Za k1;have h4':=h4;unfold Zf4 at h4';have hL:lk (H.set id (.rowT T u true e (l.set i y')))=lk H:=ZDI hd (by rw[yaz])
    have hg:∀rest,Z7 (.p (.arr l.length T.size (l.map T.enc))) (i::r.map Stp.i) (.el (T.enc y0)::(hs++rest))=some (((l.map T.enc)[i]? =some (T.enc y0))::C,i*T.size+Zau r,sub.er (lk H),rest):=by
     intro rest;unfold Z7;dsimp only;have:=k3 rest;rw[TD.er,TP.pe] at this;rw[this,yab]
    have hp:∀rest,Wv ((yd.meltP (lk H)).er (lk H)) (.p (.arr l.length T.size (l.map T.enc))) (i::r.map Stp.i) (.el (T.enc y0)::(hs++rest))=some (.p (.arr l.length T.size ((l.set i y').map T.enc))):=by
     intro rest;have:=k4 _ d1 p1 rest;rw[TD.er,TP.pe] at this;unfold Wv;dsimp only;rw[this,YJ p2,TD.er];dsimp only;rw[ZfZ z T y' p3, ←ybf]
    refine⟨_,_,_,_,_,k1,by rw[hL],rfl,or3 (⟨rfl,λrest=> ?_,λrest=> ?_,(((l.map T.enc)[i]? =some (T.enc y0))::C)++[i*T.size+Zau r=X5 (.ix i s::r)],
     Zk.2 ⟨⟨Zoo h2,k2⟩,by rw[XH,Zau,Stp.o,hs0],trivial⟩,λrest=> ?_⟩)⟩
    ·unfold evN;rw[ho]
    ·unfold evR;rw[ho]
    ·unfold evE;rw[ho];dsimp only;rw[hv,hw,(Zbg hd).2];dsimp only;rw[ZV hd];dsimp only[TEnt.er];rw[yaf,show(Stp.ix i s).i=i from rfl,yaa,hg rest]
     dsimp only;have hst:Zc7 (i::r.map Stp.i) (.p (.arr l.length T.size (l.map T.enc))) (yd.er (lk H))=some ((yd.meltP (lk H)).er (lk H)):=Zp4 (path:=.ix i s::r) (d:=.p (.v (.arr l.length T) l)) (v:=yd) (new:=yd.meltP (lk H)) (L:=lk H) rfl;rw[hst];dsimp only;rw[hp rest];dsimp only;rw[if_pos (by simp only[yi] at h4' ⊢;exact⟨⟨h4',by simp⟩,by simp[rowN]⟩),Xj hL];simp only[TEnt.er,yaz];rfl
   ·cases h
  ·cases h
 ·cases h
def Zye(dst:Tmp)(all:List TD)(H:List TEnt)(K:Kn O):TD→Option O
 |.rw id=>match H[id]? with
  |some (.rowT T v st e l)=>K all (.p (.sl none T l)) (H.set id (.rowT T v false e l)) [.still dst] 2
  |_=>none
 |_=>none
theorem Zyf{x:ym}{dst:Tmp}{xd:TD}(ho:o.op=.assign x∨o.op=.move x)(hd:o.dst=some dst)(hx:arT P ts o.type x=some xd)(h:Zye dst all H K xd=some out):
 ∃a d H' hs c,K a d H' hs c=some out∧Good P o ts all H a d H' hs c:=by
 have hv:=Zr (L:=lk H) hx;unfold Zye at h;split at h
 ·rename_i id;split at h
  ·rename_i T v st e l hr;have hL:lk (H.set id (.rowT T v false e l))=lk H:=ZDI hr rfl
   have k5:∀rest,ZeC ((TD.rw id).er (lk H)) (erH H) rest=some ([0+l.length≤l.length],.p (.sl none T.size (l.map T.enc)),erH (H.set id (.rowT T v false e l)),rest):=by
    intro rest;unfold ZeC;rw[(Zbg hr).1];dsimp only;rw[ZV hr,TEnt.er];dsimp only;rw[if_pos (by simp),Xj hL,TEnt.er,List.drop_zero, ←yz (f:=T.enc),ybt]
   refine⟨_,_,_,_,_,h,by rw[hL],rfl,or3 (⟨rfl,λrest=> ?_,λrest=> ?_,[0+l.length≤l.length],⟨by omega,trivial⟩,λrest=> ?_⟩)⟩
   ·rcases ho with ho|ho <;> (unfold evN;rw[ho];rfl)
   ·rcases ho with ho|ho <;> (unfold evR;rw[ho])
   ·rcases ho with ho|ho
    ·unfold evE;rw[ho];dsimp only;rw[yaa];dsimp only;rw[if_pos hd,hv];exact k5 rest
    ·unfold evE;rw[ho];dsimp only;rw[yaa];dsimp only;rw[if_pos hd,hv];exact k5 rest
  ·cases h
 ·cases h
theorem ZAt{L M:Lk}{n:Nat}(h:∀id t,id≠n→ZX L id t none=ZX M id t none)(x:TEnt)(hf:x.free n=true):x.er L=x.er M:=by
 cases x with
 |var d st=>rw[TEnt.er,TEnt.er,Zb9 h d hf]
 |row v s st e d=>rw[TEnt.er,TEnt.er,Zb9 h d hf]
 |rowM t np v st e pre d post=>rw[TEnt.er,TEnt.er,Zb9 h d hf]
 |_=>rfl
theorem Zoy{T:Ty}{v:List Unit}{st:Bool}{e:yc}{l:List T.den}(h:H.all (TEnt.free H.length)=true):erH (H++[.rowT T v st e l])=erH H++[.row v.length T.size st e (.p (.arr l.length T.size (l.map T.enc)))]:=by
 unfold erH;rw[yar];congr 1;refine ycg λx hx=> ?_;have hf:=yba.1 h x hx;exact(ZAt (λid t hn=>ZaI id t hn) x hf).symm
theorem Zsw{T:Ty}{v:List Unit}{st:Bool}{e:yc}{l:List T.den}:(TD.rw H.length).er (lk (H++[.rowT T v st e l]))=.rv H.length v.length T.size 0 l.length:=
 (Zbg (H:=H++[.rowT T v st e l]) (List.getElem?_concat_length ..)).1
def ZtB(P:yg)(row:Bool)(t u:yc)(all:List TD)(H:List TEnt)(K:Kn O)(y:TD):TD→Option O
 |.rw id=>match P.underlying t,H[id]? with
  |some (.slice e),some (.rowT T v st e' l)=>(P.info? e).bind λi=>ZAo P T u H (λys hs=>
   if(zOk i&&decide (i.size=T.size)&&decide (P.cellsOf e=T.size)&&decide (e'=e)&&decide (T.size≠0))=true then if apB l.length ys.length i.bytes=true then
    K (TD.stales (lk H) id all) (.rw id) ((H.map (TEnt.stale (lk H) id)).set id (.rowT T (()::v) st e (l++ys))) (.raw::hs) 2 else none else none) y
  |_,_=>none
 |.p (.sl (some false) _ [])=>match P.underlying t with
  |some (.slice e)=>(P.info? e).bind λi=>(Zjq P tyD e).bind λT=>(ZxM (lk H) P T u y).bind λys=>
   if(zOk i&&i.size !=0&&decide (i.size=T.size)&&decide (P.cellsOf e=T.size)&&TD.frees H.length all&&H.all (TEnt.free H.length))=true then if Zz9 ys.length i.bytes=true then
    K all (.rw H.length) (H++[.rowT T [] true e ys]) [.arr] 2 else none else none
  |_=>none
 |_=>none
theorem Zvz{row:Bool}{t u:yc}{x y:ym}{c:Call}{xd yd:TD}(ho:o.op=.call c)(hc:c.callee=.builtin .append)(ha:c.args.toList=[x,y])(ht:c.argTypes.toList=[t,u])
 (hv:Zv P (TD.ers (lk H) ts) t x=xd.er (lk H)) (hy:arT P ts u y=some yd) (h:ZtB P row t u all H K yd xd=some out):∃a d H' hs c,K a d H' hs c=some out∧Good P o ts all H a d H' hs c:=by
 have hw:=Zr (L:=lk H) hy;unfold ZtB at h;split at h
 ·rename_i id;split at h
  ·rename_i e T v st e' l hu hd;obtain⟨i,h1,h⟩:=yf.1 h;obtain⟨ys,hs,C,k1,k2,k3⟩:=Znt h;obtain⟨k4,k6⟩:=Za k1;obtain⟨k5,kk⟩:=Za k6;clear k1 k6;simp only[yi,decide_eq_true_eq] at k4;obtain⟨⟨⟨⟨g1,g2⟩,g3⟩,g4⟩,g5⟩:=k4;subst g4;simp only[apB,yi,decide_eq_true_eq] at k5;have hlt:id < H.length:=(yp.1 hd).1
   refine⟨_,_,_,_,_,kk,ers_stale (λid' t hn=>Vy (lk H) id' t hn) all,ZbL all,or3 (⟨rfl,λrest=> ?_,λrest=> ?_,
    C++[l.length≤l.length,(l.length+(ys.map T.enc).length)*i.bytes≤Zs,l.length+(ys.map T.enc).length≤maxLen,st=true∨l.length=l.length],Zk.2 ⟨k2,yn _,by simpa using k5.1,by simpa using k5.2,.inr rfl,trivial⟩,λrest=> ?_⟩)⟩
   ·unfold evN;rw[ho];dsimp only;rw[hc];dsimp only;rw[ha,ht,yaa]
   ·unfold evR;rw[ho];dsimp only;rw[hc]
   ·unfold evE;rw[ho];dsimp only;rw[hc];dsimp only;rw[ha,ht];dsimp only;rw[hu,hv,hw,(Zbg hd).1];rw[yaa];dsimp only;rw[h1,k3 rest,ZV hd];dsimp only[TEnt.er]
    have hnew:((H.map (TEnt.stale (lk H) id)).set id (.rowT T (()::v) st e' (l++ys)))[id]? =some (.rowT T (()::v) st e' (l++ys)):=by
     rw[yco (by rw[yz];exact hlt)]
    have hH:erH ((H.map (TEnt.stale (lk H) id)).set id (.rowT T (()::v) st e' (l++ys)))=(erH H).set id (.row (v.length+1) T.size st e' (.p (.arr (l.length+ys.length) T.size (l.map T.enc++ys.map T.enc)))):=by
     unfold erH;rw[ybf,yax]
     have:(TEnt.rowT T (()::v) st e' (l++ys)).er (lk ((H.map (TEnt.stale (lk H) id)).set id (.rowT T (()::v) st e' (l++ys))))=.row (v.length+1) T.size st e' (.p (.arr (l.length+ys.length) T.size (l.map T.enc++ys.map T.enc))):=by
      simp only[TEnt.er,yad,yr,yar]
     rw[this];congr 1;refine ycg λx hx=> ?_;exact Zhd (λid t hn=>Vy (lk H) id t hn) x
    rw[if_pos (by simp[g1,g2,g5]),hH,(Zbg hnew).1];simp only[yz,yad,yr];rw[show(l.map T.enc).take l.length=l.map T.enc by rw[←yz (f:=T.enc),ybt]]
  ·cases h
 ·rename_i T0;split at h
  ·rename_i e hu;obtain⟨i,h1,h⟩:=yf.1 h;obtain⟨T,h2,h⟩:=yf.1 h;obtain⟨ys,h3,h⟩:=yf.1 h;obtain⟨k4,h⟩:=Za h;obtain⟨k5,h⟩:=Za h;simp only[yi,decide_eq_true_eq] at k4;obtain⟨⟨⟨⟨⟨g1,g2⟩,g3⟩,g4⟩,g5⟩,g6⟩:=k4;obtain⟨g7,g8⟩:=ZaG k5;refine⟨_,_,_,_,_,h,Zhe g5,rfl,or3 (⟨rfl,λrest=> ?_,λrest=> ?_,[(ys.map T.enc).length*i.bytes≤Zs,(ys.map T.enc).length≤maxLen],⟨by rw[yz];exact g7,by rw[yz];exact g8,trivial⟩,λrest=> ?_⟩)⟩
   ·unfold evN;rw[ho];dsimp only;rw[hc];dsimp only;rw[ha,ht];rfl
   ·unfold evR;rw[ho];dsimp only;rw[hc]
   ·unfold evE;rw[ho];dsimp only;rw[hc];dsimp only;rw[ha,ht];dsimp only;rw[hu,hv,hw,show(TD.p (TP.sl (some false) T0 [])).er (lk H)=Dv.p (.sl (some false) T0.size []) from rfl]
    dsimp only;rw[h1,g4,Zh7 h3,yaa,yw];dsimp only;rw[if_pos (by simp only[yi];exact⟨g1,g2⟩),Zoy g6,ZM,Zsw,g3];simp only[yz,ycn]
  ·cases h
 ·cases h
def ZG1(P:yg)(ts:List TD)(t:yc)(len:Nat)(parts:List (Nat×ym))(all:List TD)(H:List TEnt)(K:Kn O):Option O:=
 ZCb (lk H) P ts t len parts λT l e=>if(decide (l.length=len)&&TD.frees H.length all&&H.all (TEnt.free H.length))=true then K all (.rw H.length) (H++[.rowT T [] true e l]) [.arr] 2 else none
theorem ZCr{t:yc}{len:Nat}{parts:Array (Nat×ym)}(ho:o.op=.buildSlice t len parts)(h:ZG1 P ts t len parts.toList all H K=some out):
 ∃a d H' hs c,K a d H' hs c=some out∧Good P o ts all H a d H' hs c:=by
 unfold ZG1 at h;obtain⟨e,T,l,i,xs,h1,hu,hi,hl,hz,hs,hx⟩:=Zhb h;obtain⟨h2,h1⟩:=Za h1;simp only[yi,decide_eq_true_eq] at h2;obtain⟨⟨h2,g5⟩,g6⟩:=h2;refine⟨_,_,_,_,_,h1,Zhe g5,rfl,or3 (⟨rfl,λrest=> ?_,λrest=> ?_,[],trivial,λrest=> ?_⟩)⟩
 ·unfold evN;rw[ho];rfl
 ·unfold evR;rw[ho]
 ·unfold evE;rw[ho];dsimp only;rw[yaa,yw];dsimp only;rw[hu];dsimp only;rw[hi,hl];dsimp only;rw[if_pos (by simpa using hz),hx,Zoy g6,Zsw,ZM,hs,h2];rfl
def ZCs(P:yg)(ts:List TD)(t:yc)(len:Nat)(parts:List (Nat×ym))(id:Nat)(all:List TD)(H:List TEnt)(K:Kn O):Option O:=
 ZCb (lk H) P ts t len parts λT l e=>match H[id]? with
  |some (.rowT T' v _ e' _)=>if(decide (l.length=len)&&decide (e'=e)&&decide (T'.size=T.size))=true then K (TD.stales (lk H) id all) (.rw id) ((H.map (TEnt.stale (lk H) id)).set id (.rowT T (()::v) true e l)) [.fresh id] 2 else none
  |_=>none
theorem ZAu{t:yc}{len id:Nat}{parts:Array (Nat×ym)}(ho:o.op=.buildSlice t len parts)(h:ZCs P ts t len parts.toList id all H K=some out):
 ∃a d H' hs c,K a d H' hs c=some out∧Good P o ts all H a d H' hs c:=by
 unfold ZCs at h;obtain⟨e,T,l,i,xs,h1,hu,hi,hl,hz,hs,hx⟩:=Zhb h;split at h1
 case h_2=>cases h1
 rename_i T0 v st e' l0 hd;obtain⟨h2,h1⟩:=Za h1;simp only[yi,decide_eq_true_eq] at h2;obtain⟨⟨h2,rfl⟩,h3⟩:=h2;have hlt:id < H.length:=(yp.1 hd).1
 have hnew:((H.map (TEnt.stale (lk H) id)).set id (.rowT T (()::v) true e' l))[id]? =some (.rowT T (()::v) true e' l):=by
  rw[yco (by rw[yz];exact hlt)]
 have hH:erH ((H.map (TEnt.stale (lk H) id)).set id (.rowT T (()::v) true e' l))=(erH H).set id (.row (v.length+1) T.size true e' (.p (.arr l.length T.size (l.map T.enc)))):=by
  unfold erH;rw[ybf,yax]
  have:(TEnt.rowT T (()::v) true e' l).er (lk ((H.map (TEnt.stale (lk H) id)).set id (.rowT T (()::v) true e' l)))=.row (v.length+1) T.size true e' (.p (.arr l.length T.size (l.map T.enc))):=by
   simp only[TEnt.er,yad]
  rw[this];congr 1;refine ycg λx hx=> ?_;exact Zhd (λid t hn=>Vy (lk H) id t hn) x
 refine⟨_,_,_,_,_,h1,ers_stale (λid' t hn=>Vy (lk H) id' t hn) all,ZbL all,or3 (⟨rfl,λrest=> ?_,λrest=> ?_,[],trivial,λrest=> ?_⟩)⟩
 ·unfold evN;rw[ho];rfl
 ·unfold evR;rw[ho]
 ·unfold evE;rw[ho];dsimp only;rw[yaa,yw];dsimp only;rw[hu,ZV hd];dsimp only[TEnt.er];rw[hi,hl];dsimp only;rw[if_pos (by rw[yi,yi,beq_iff_eq,beq_iff_eq];exact⟨⟨hz,rfl⟩,h3.trans hs.symm⟩),hx,hH,(Zbg hnew).1,hs, ←h2];simp only[yad]
def ZCt(P:yg)(t:yc)(n n':Int)(all:List TD)(H:List TEnt)(K:Kn O):Option O:=
 match P.underlying t with
 |some (.slice e)=>(P.info? e).bind λi=>(Zjq P tyD e).bind λT=>
  if(zOk i&&i.size !=0&&decide (i.size=T.size)&&TD.frees H.length all&&H.all (TEnt.free H.length))=true then if(decide (n=0)&&Zq6 n' i.bytes)=true then K all (.rw H.length) (H++[.rowT T [] true e []]) [.arr] 2 else none else none
 |_=>none
theorem ZAv{t:yc}{l c:ym}{n n':Num}(ho:o.op=.makeSlice t l c)(hl:(arT P ts 0 l).bind TD.num=some n)(hc:(arT P ts 0 c).bind TD.num=some n')(hk:n.k=.i64)(hk':n'.k=.i64)
 (h:ZCt P t n.n n'.n all H K=some out):∃a d H' hs c,K a d H' hs c=some out∧Good P o ts all H a d H' hs c:=by
 obtain⟨ld,l1,l2⟩:=yf.1 hl;obtain⟨cd,c1,c2⟩:=yf.1 hc;have hv:=Zr (L:=lk H) l1;have hw:=Zr (L:=lk H) c1;rw[Zd0 l2,hk] at hv;rw[Zd0 c2,hk'] at hw;unfold ZCt at h;have nN:∀hs,evN P o (TD.ers (lk H) ts) hs=none:=λhs=>by unfold evN;rw[ho]
 have nR:∀hs,evR P o (TD.ers (lk H) ts) (erH H) hs=none:=λhs=>by unfold evR;rw[ho]
 split at h
 ·rename_i e hu;obtain⟨i,h1,h⟩:=yf.1 h;obtain⟨T,h2,h⟩:=yf.1 h;obtain⟨h3,h⟩:=Za h;obtain⟨h4,h⟩:=Za h;simp only[yi,decide_eq_true_eq] at h3;obtain⟨⟨⟨g0,h3⟩,g5⟩,g6⟩:=h3;simp only[Zq6,yi,decide_eq_true_eq] at h4;obtain⟨g1,g2⟩:=ZaG h4.2.2;refine⟨_,_,_,_,_,h,Zhe g5,rfl,or3 (⟨rfl,λrest=>nN _,λrest=>nR _,[n.n=0,0≤n'.n,n'.n.toNat*i.bytes≤Zs,n'.n.toNat≤maxLen],⟨h4.1,h4.2.1,g1,g2,trivial⟩,λrest=> ?_⟩)⟩;unfold evE;rw[ho];dsimp only;rw[hu,hv,hw];dsimp only;rw[h1,yaa,yw];dsimp only;rw[if_pos (by simpa using g0),Zoy g6,Zsw,ZM,h3];rfl
 ·cases h
def Zyg(P:yg)(t:yc)(dst:Tmp)(all:List TD)(H:List TEnt)(K:Kn O):TD→Option O
 |.p (.sl (some false) T [])=>match P.underlying t with
  |some (.slice e)=>(P.info? e).bind λi=>if(zOk i&&i.size !=0&&decide (i.size=T.size)&&TD.frees H.length all&&H.all (TEnt.free H.length))=true then K all (.rw H.length) (H++[.rowT T [] true e []]) [.freshR dst] 2 else none
  |_=>none
 |_=>none
theorem Zyh{x:ym}{dst:Tmp}{xd:TD}(ho:o.op=.assign x)(hd:o.dst=some dst)(hx:arT P ts o.type x=some xd)(h:Zyg P o.type dst all H K xd=some out):
 ∃a d H' hs c,K a d H' hs c=some out∧Good P o ts all H a d H' hs c:=by
 have hv:=Zr (L:=lk H) hx;unfold Zyg at h;split at h
 ·rename_i T;split at h
  ·rename_i e hu;obtain⟨i,h1,h⟩:=yf.1 h;obtain⟨h2,h⟩:=Za h;simp only[yi,decide_eq_true_eq] at h2;obtain⟨⟨⟨g0,g3⟩,g5⟩,g6⟩:=h2;refine⟨_,_,_,_,_,h,Zhe g5,rfl,or3 (⟨rfl,λrest=> ?_,λrest=> ?_,[],trivial,λrest=> ?_⟩)⟩
   ·unfold evN;rw[ho];rfl
   ·unfold evR;rw[ho]
   ·unfold evE;rw[ho];dsimp only;rw[yaa,yw];dsimp only;rw[if_pos hd,hu,hv,show(TD.p (TP.sl (some false) T [])).er (lk H)=Dv.p (.sl (some false) T.size []) from rfl]
    dsimp only;rw[h1];dsimp only;rw[if_pos (by simpa using g0),Zoy g6,Zsw,ZM,g3];rfl
  ·cases h
 ·cases h
def ZtC(P:yg)(t:yc)(lo hi:Option Int)(all:List TD)(H:List TEnt)(K:Kn O):TD→Option O
 |.rw id=>match P.underlying t,H[id]?,lo,hi with
  |some (.slice e),some (.rowT T v true e' l),none,some h=>if(okB P e T.size&&decide (T.size≠0))=true then if(decide (0≤h)&&decide (h.toNat≤l.length))=true then
    K (TD.stales (lk H) id all) (.rw id) ((H.map (TEnt.stale (lk H) id)).set id (.rowT T v true e' (l.take h.toNat))) [.arr] 2 else none else none
  |_,_,_,_=>none
 |_=>none
theorem ZvA{t:yc}{x:ym}{lo hi:Option ym}{l h':Option Int}{xd:TD}(ho:o.op=.slice t x lo hi none)(hx:arT P ts t x=some xd)(hl:ZfH P ts lo=some l)(hh:ZfH P ts hi=some h')(h:ZtC P t l h' all H K xd=some out):
 ∃a d H' hs c,K a d H' hs c=some out∧Good P o ts all H a d H' hs c:=by
 have hv:=Zr (L:=lk H) hx;have hl2:=ZaH (L:=lk H) hl;have hh2:=ZaH (L:=lk H) hh;unfold ZtC at h;split at h
 ·rename_i id;split at h
  ·rename_i e T v e' xs h2 hu hd;obtain⟨h3,h⟩:=Za h;obtain⟨h4,h⟩:=Za h;simp only[yi,decide_eq_true_eq] at h3 h4;obtain⟨h3a,h3b⟩:=ZI5 h3.1;have hlt:id < H.length:=(yp.1 hd).1
   have hnew:((H.map (TEnt.stale (lk H) id)).set id (.rowT T v true e' (xs.take h2.toNat)))[id]? =some (.rowT T v true e' (xs.take h2.toNat)):=by
    rw[yco (by rw[yz];exact hlt)]
   have hlen:(xs.take h2.toNat).length=h2.toNat:=by rw[List.length_take];omega
   have hH:erH ((H.map (TEnt.stale (lk H) id)).set id (.rowT T v true e' (xs.take h2.toNat)))=(erH H).set id (.row v.length T.size true e' (.p (.arr h2.toNat T.size ((xs.map T.enc).take h2.toNat)))):=by
    unfold erH;rw[ybf,yax]
    have:(TEnt.rowT T v true e' (xs.take h2.toNat)).er (lk ((H.map (TEnt.stale (lk H) id)).set id (.rowT T v true e' (xs.take h2.toNat))))=.row v.length T.size true e' (.p (.arr h2.toNat T.size ((xs.map T.enc).take h2.toNat))):=by
     simp only[TEnt.er,hlen,yca]
    rw[this];congr 1;refine ycg λx hx=> ?_;exact Zhd (λid t hn=>Vy (lk H) id t hn) x
   refine⟨_,_,_,_,_,h,ers_stale (λid' t hn=>Vy (lk H) id' t hn) all,ZbL all,or3 (⟨rfl,λrest=> ?_,λrest=> ?_,[0≤h2,h2.toNat≤xs.length],⟨h4.1,h4.2,trivial⟩,λrest=> ?_⟩)⟩
   ·unfold evN;rw[ho];dsimp only;rw[hu,hv,(Zbg hd).1,hl2,hh2];rfl
   ·unfold evR;rw[ho];dsimp only;rw[hu,hv,(Zbg hd).1,hl2,hh2];rfl
   ·unfold evE;rw[ho];dsimp only;rw[hu,hv,(Zbg hd).1,hl2,hh2];dsimp only;rw[yaa,yw];dsimp only;rw[ZV hd,TEnt.er];dsimp only;rw[if_pos (by simp[h3a,h3b,h3.2]),hH,(Zbg hnew).1,hlen]
  ·cases h
 ·cases h
def TEnt.rowQ:TEnt→Option (Nat×Nat×Nat)
 |.rowN t _ v _ _ pre post=>some (v.length,t.size,pre.length+post.length)
 |.rowM t _ v _ _ pre _ post=>some (v.length,t.size,pre.length+(post.length+1))
 |_=>none
theorem Zyi{L:Lk}{id:Nat}{v:List Unit}{s N:Nat}(h:ZX L id (.sl (.st [])) none=([v,yx s (),yx N ()]:List (List Unit))):
 (TD.rw id).er L=.rv id v.length s 0 N∧∀path,(TD.rp id path).er L=.rref id v.length (X5 path) (path.map Stp.i):=by
 refine⟨?_,λpath=> ?_⟩
 ·rw[TD.er];unfold Zbe;rw[h];show Dv.rv id v.length (yx s ()).length 0 (yx N ()).length=_;rw[ycm,ycm]
 ·rw[TD.er];unfold Zbe;rw[h];rfl
theorem Zd3{id:Nat}{x:TEnt}{q:Nat×Nat×Nat}(hd:H[id]? =some x)(h:x.rowQ=some q):(TD.rw id).er (lk H)=.rv id q.1 q.2.1 0 q.2.2∧∀path,(TD.rp id path).er (lk H)=.rref id q.1 (X5 path) (path.map Stp.i):=by
 cases x <;> first|cases h|skip
 all_goals
  refine Zyi ?_;unfold ZX lk;dsimp only;rw[hd];rfl
def Zyj(P:yg)(t:yc)(i:Int)(all:List TD)(H:List TEnt)(K:Kn O):TD→Option O
 |.rw id=>match P.underlying t,(H[id]?).bind TEnt.rowQ with
  |some (.slice e),some q=>if okB P e q.2.1=true then if inB i q.2.2=true then K all (.rp id [.ix i.toNat q.2.1]) H [] 0 else none else none
  |_,_=>none
 |_=>none
theorem Zyk{t:yc}{x ix:ym}{xd:TD}{q:IntKind×Int}{ip:TP}(ho:o.op=.indexAddr t x ix)(hx:arT P ts t x=some xd)(hi:arT P ts 0 ix=some (.p ip))(hq:Ztp ip=some q)(h:Zyj P t q.2 all H K xd=some out):
 ∃a d H' hs c,K a d H' hs c=some out∧Good P o ts all H a d H' hs c:=by
 have hv:=Zr (L:=lk H) hx;have hw:=Zr (L:=lk H) hi;rw[TD.er,(Zol hq).1] at hw;unfold Zyj at h;split at h
 ·rename_i id;split at h
  ·rename_i e w hu hd;obtain⟨x0,hd,hq0⟩:=yf.1 hd;obtain⟨h3,h⟩:=Za h;obtain⟨h4,h⟩:=Za h;refine⟨_,_,_,_,_,h,rfl,rfl,.inl ⟨rfl,rfl,[0≤q.2,q.2 < (w.2.2:Int)],⟨(VH h4).1,(VH h4).2,trivial⟩,λrest=> ?_⟩⟩;simp only[yw];unfold evN;rw[ho];dsimp only;rw[hu,hv,hw,(Zd3 hd hq0).1,(Zd3 hd hq0).2];dsimp only;rw[if_pos (by simpa[okB] using h3)];simp[X5,Stp.o,Stp.i]
  ·cases h
 ·cases h
def ZG2(P:yg)(t:yc)(all:List TD)(H:List TEnt)(K:Kn O):TD→Option O
 |.rw id=>match P.underlying t,(H[id]?).bind TEnt.rowQ with
  |some (.slice _),some q=>K all (.p (.v (.int .i64) (q.2.2:Int))) H [] 0
  |_,_=>none
 |_=>none
theorem ZCu{t:yc}{x:ym}{c:Call}{xd:TD}(ho:o.op=.call c)(hc:c.callee=.builtin .len)(ha:c.args.toList=[x])(ht:c.argTypes.toList=[t])(hx:arT P ts t x=some xd)(h:ZG2 P t all H K xd=some out):
 ∃a d H' hs c,K a d H' hs c=some out∧Good P o ts all H a d H' hs c:=by
 have hv:=Zr (L:=lk H) hx;unfold ZG2 at h;split at h
 ·rename_i id;split at h
  ·rename_i e w hu hd;obtain⟨x0,hd,hq0⟩:=yf.1 hd;refine⟨_,_,_,_,_,h,rfl,rfl,.inl ⟨rfl,rfl,[],trivial,λrest=> ?_⟩⟩;simp only[yw];unfold evN;rw[ho];dsimp only;rw[hc];dsimp only;rw[ha,ht];dsimp only;rw[hu,hv,(Zd3 hd hq0).1];rfl
  ·cases h
 ·cases h
theorem getElem?_set_v{xs:List TP}{i:Nat}{z:TP}(h:i < xs.length):(xs.set i z)[i]? =some z:=by rw[yco h]
def ZAw:List Nat→TP→(T:Ty)→Option T.den
 |[],x,T=>match T with
  |.sl u=>if x.nilT u=true then some [] else none
  |_=>none
 |i::r,x,T=>match x,T with
  |.agg xs,.st fs=>(xs[i]?).bind λz=>(fs[i]?).bind λU=>(ZAw r z U).bind λy=>TP.tos Zha (xs.set i (.v U y)) fs
  |_,_=>none
theorem ZAx:∀(xs:List TP)(fs:List Ty)(y:Ty.dens fs)(i:Nat)(U:Ty)(z:U.den),TP.tos Zha xs fs=some y→xs[i]? =some (.v U z)→(Ty.flds fs y)[i]? =some (.v U z)
 |[],fs,y,i,U,z,h,k=>by simp at k
 |x::r,fs,y,i,U,z,h,k=>by
  have h':Ztm (TP.to Zha x) r.isEmpty (TP.tos Zha r) fs=some y:=h
  match fs,y,h' with
  |[],_,h'=>cases h'
  |[t],y,h'=>
   have h2:(if r.isEmpty then TP.to Zha x t else none)=some y:=h'
   split at h2
   ·rename_i hr
    cases r with
    |nil=>
     cases i with
     |zero=>
      cases k;obtain⟨e,rfl⟩:=Vx (show Ty.cast U t z=some y from h2)
      subst e
      rfl
     |succ i=>simp at k
    |cons _ _=>cases hr
   ·cases h2
  |t::u::q,y,h'=>
   obtain⟨h1,h2⟩:=Qa (α:=t.den) (β:=Ty.dens (u::q)) h'
   cases i with
   |zero=>
    cases k;obtain⟨e,e2⟩:=Vx (show Ty.cast U t z=some y.1 from h1)
    subst e;show some (TP.v U y.1)=_
    rw[e2]
   |succ i=>
    rw[List.getElem?_cons_succ] at k;exact ZAx r (u::q) y.2 i U z h2 k
theorem ZAy:∀(np:List Nat)(x:TP)(T:Ty)(y:T.den),ZAw np x T=some y→x.pe=(Xx np (.v T y)).pe
 |[],x,T,y,h=>by
  cases T with
  |sl u=>
   simp only[ZAw] at h;split at h
   ·rename_i hn;cases h;exact Zx1 hn
   ·cases h
  |_=>cases h
 |i::r,x,T,y,h=>by
  simp only[ZAw] at h;split at h
  ·rename_i xs fs;obtain⟨z,h1,h⟩:=yf.1 h;obtain⟨U,h2,h⟩:=yf.1 h;obtain⟨w,h3,h⟩:=yf.1 h;have hlt:i < xs.length:=(yp.1 h1).1;have e1:=ZAy r z U w h3;have e2:=ZAx _ fs y i U w h (getElem?_set_v hlt);have e3:=tos_exact _ _ _ h;have e5:(TP.v (.st fs) y).parts=some (Ty.flds fs y):=rfl
   have key:Xx (i::r) (.v (.st fs) y)=.agg ((Ty.flds fs y).set i (Xx r (.v U w))):=by
    rw[Xx,e5];dsimp only;rw[e2]
   have e6:∀(l:List TP)(q:TP),TP.pes (l.set i q)=(TP.pes l).set i q.pe:=λl q=>by rw[VG,ybf, ←VG]
   have e7:TP.pes (Ty.flds fs y)=(TP.pes xs).set i (TP.v U w).pe:=((Zst fs y).trans e3.symm).trans (e6 _ _)
   have e8:TP.pes ((Ty.flds fs y).set i (Xx r (.v U w)))=TP.pes xs:=by
    rw[e6,e7,List.set_set, ←e1];refine ybl λj=> ?_;rw[List.getElem?_set];split
    ·rename_i hj;subst hj;rw[if_pos (by rw[VG,yz];exact hlt),VG,yah,h1];rfl
    ·rfl
   rw[key];exact congrArg Pl.agg e8.symm
  ·cases h
def Zyl(np:List Nat)(T:Ty):List TP→Option (List T.den)
 |[]=>some []
 |x::r=>match ZAw np x T,Zyl np T r with
  |some y,some ys=>some (y::ys)
  |_,_=>none
theorem ZwJ{np:List Nat}{T:Ty}:∀{xs:List TP}{ys:List T.den},Zyl np T xs=some ys→TP.pes xs=ys.map λy=>(Xx np (.v T y)).pe
 |[],ys,h=>by cases h;rfl
 |x::r,ys,h=>by
  simp only[Zyl] at h;split at h
  ·rename_i y ys' h1 h2;cases h;rw[TP.pes,yaf,ZAy np x T y h1,ZwJ h2]
  ·cases h
def ZDJ(L:Lk)(P:yg)(ts:List TD)(e:yc):List (Nat×ym)→Option (List TP)
 |[]=>some []
 |q::r=>match (arT P ts e q.2).bind (TD.flat L),ZDJ L P ts e r with
  |some x,some l=>if x.pe.size=P.cellsOf e then some (x::l) else none
  |_,_=>none
theorem ZAz{L:Lk}{e:yc}:∀{parts:List (Nat×ym)}{l:List TP},ZDJ L P ts e parts=some l→
 Dv.flats (parts.map λq=>Zv P (TD.ers L ts) e q.2)=some (TP.pes l)∧(TP.pes l).all (λx=>x.size==P.cellsOf e)=true
 |[],l,h=>by cases h;exact⟨rfl,rfl⟩
 |q::r,l,h=>by
  simp only[ZDJ] at h;split at h
  ·rename_i x l' hx h2;obtain⟨d,h1,h3⟩:=yf.1 hx;split at h
   ·rename_i hs;cases h;obtain⟨e1,e2⟩:=ZAz h2;refine⟨?_, ?_⟩
    ·simp only[yaf,Dv.flats];rw[Zr h1,Ztr h3,e1];rfl
    ·simp only[TP.pes,List.all_cons,yi,beq_iff_eq];exact⟨hs,e2⟩
   ·cases h
  ·cases h
def ZKY(P:yg)(ts:List TD)(t:yc)(len:Nat)(parts:List (Nat×ym))(all:List TD)(H:List TEnt)(K:Kn O):Option O:=
 match P.underlying t with
 |some (.slice e)=>(P.info? e).bind λi=>(ZDJ (lk H) P ts e parts).bind λl=>
  if(parts.map (·.1)==yv len)&&(zOk i&&i.size !=0&&decide (len*i.size≤16777216)) then K all (.p (.sll (some true) i.size l)) H [.bare] 0 else none
 |_=>none
theorem ZFj{t:yc}{len:Nat}{parts:Array (Nat×ym)}(ho:o.op=.buildSlice t len parts)(h:ZKY P ts t len parts.toList all H K=some out):
 ∃a d H' hs c,K a d H' hs c=some out∧Good P o ts all H a d H' hs c:=by
 unfold ZKY at h;split at h
 ·rename_i e hu;obtain⟨i,h1,h⟩:=yf.1 h;obtain⟨l,h2,h⟩:=yf.1 h;obtain⟨h3,h⟩:=Za h;simp only[yi] at h3;obtain⟨e1,e2⟩:=ZAz h2
  have hl:XN P (TD.ers (lk H) ts) e (P.cellsOf e) len parts.toList=some (TP.pes l):=by
   unfold XN;rw[if_pos h3.1,e1];dsimp only;rw[if_pos e2]
  refine⟨_,_,_,_,_,h,rfl,rfl,.inl ⟨rfl,rfl,[],trivial,λrest=> ?_⟩⟩;unfold evN;rw[ho];dsimp only;rw[yaa,yw];dsimp only;rw[hu];dsimp only;rw[h1,hl];dsimp only;rw[if_pos (by simpa only[yi] using h3.2)];rfl
 ·cases h
theorem ZDK{id:Nat}{e e':TEnt}(hd:H[id]? =some e)(h:lkE (some e')=lkE (some e)):lk (H.set id e')=lk H:=by
 funext j;unfold lk;by_cases hj:id=j
 ·subst hj;rw[getElem?_set_eq' hd,hd,h]
 ·rw[getElem?_set_ne' hj]
def ZtD(P:yg)(t u:yc)(all:List TD)(H:List TEnt)(K:Kn O)(y:TD):TD→Option O
 |.rw id=>match P.underlying t,P.underlying u,H[id]?,y with
  |some (.slice e),some (.slice _),some (.rowN T np v st e' pre post),.p (.sll _ s xs)=>(P.info? e).bind λi=>(Zyl np T xs).bind λys=>
   if(zOk i&&decide (i.size=T.size)&&decide (P.cellsOf e=T.size)&&decide (e'=e)&&decide (T.size≠0)&&decide (s=T.size))=true then if apB (pre.length+post.length) ys.length i.bytes=true then
    K (TD.stales (lk H) id all) (.rw id) ((H.map (TEnt.stale (lk H) id)).set id (.rowN T np (()::v) st e pre (post++ys))) [.raw] 2 else none else none
  |_,_,_,_=>none
 |_=>none
theorem ZvB{t u:yc}{x y:ym}{c:Call}{xd yd:TD}(ho:o.op=.call c)(hc:c.callee=.builtin .append)(ha:c.args.toList=[x,y])(ht:c.argTypes.toList=[t,u])
 (hv:Zv P (TD.ers (lk H) ts) t x=xd.er (lk H)) (hy:arT P ts u y=some yd) (h:ZtD P t u all H K yd xd=some out):∃a d H' hs c,K a d H' hs c=some out∧Good P o ts all H a d H' hs c:=by
 have hw:=Zr (L:=lk H) hy;unfold ZtD at h;split at h
 ·rename_i id;split at h
  ·rename_i e e2 T np v st e' pre post nn s xs hu hu2 hd;obtain⟨i,h1,h⟩:=yf.1 h;obtain⟨ys,h2,h⟩:=yf.1 h;obtain⟨k4,k6⟩:=Za h;obtain⟨k5,kk⟩:=Za k6;simp only[yi,decide_eq_true_eq] at k4;obtain⟨⟨⟨⟨⟨g1,g2⟩,g3⟩,g4⟩,g5⟩,g6⟩:=k4;subst g4;subst g6;simp only[apB,yi,decide_eq_true_eq] at k5;have hlt:id < H.length:=(yp.1 hd).1;have hys:=ZwJ h2;have hyl:(TP.pes xs).length=ys.length:=by rw[hys,yz]
   have hq:=Zd3 (q:=(v.length,T.size,pre.length+post.length)) hd rfl
   refine⟨_,_,_,_,_,kk,ers_stale (λid' t hn=>Vy (lk H) id' t hn) all,ZbL all,or3 (⟨rfl,λrest=> ?_,λrest=> ?_,
    [pre.length+post.length≤pre.length+post.length,(pre.length+post.length+(TP.pes xs).length)*i.bytes≤Zs,pre.length+post.length+(TP.pes xs).length≤maxLen,st=true∨pre.length+post.length=pre.length+post.length],
    ⟨yn _,by rw[hyl];exact k5.1,by rw[hyl];exact k5.2,.inr rfl,trivial⟩,λrest=> ?_⟩)⟩
   ·unfold evN;rw[ho];dsimp only;rw[hc];dsimp only;rw[ha,ht,yaa]
   ·unfold evR;rw[ho];dsimp only;rw[hc]
   ·have hsrc:ZrP P T.size u (erH H) rest (Zv P (TD.ers (lk H) ts) u y)=some ([],TP.pes xs,rest):=by
     rw[hw,TD.er,TP.pe];unfold ZrP ZfQ;dsimp only;rw[hu2];dsimp only;rw[if_pos (.inl rfl)];rfl
    unfold evE;rw[ho];dsimp only;rw[hc];dsimp only;rw[ha,ht];dsimp only;rw[hu,hv,hq.1];rw[yaa,yw];dsimp only;rw[h1,hsrc,ZV hd];dsimp only[TEnt.er]
    have hnew:((H.map (TEnt.stale (lk H) id)).set id (.rowN T np (()::v) st e' pre (post++ys)))[id]? =some (.rowN T np (()::v) st e' pre (post++ys)):=by
     rw[yco (by rw[yz];exact hlt)]
    have hN:pre.length+(post++ys).length=pre.length+post.length+ys.length:=by rw[yr];omega
    have hH:erH ((H.map (TEnt.stale (lk H) id)).set id (.rowN T np (()::v) st e' pre (post++ys)))=(erH H).set id (.row (v.length+1) T.size st e' (.p (.arr (pre.length+post.length+ys.length) T.size ((pre.map T.enc++post.map λx=>(Xx np (.v T x)).pe)++TP.pes xs)))):=by
     unfold erH;rw[ybf,yax]
     have:(TEnt.rowN T np (()::v) st e' pre (post++ys)).er (lk ((H.map (TEnt.stale (lk H) id)).set id (.rowN T np (()::v) st e' pre (post++ys))))=.row (v.length+1) T.size st e' (.p (.arr (pre.length+post.length+ys.length) T.size ((pre.map T.enc++post.map λx=>(Xx np (.v T x)).pe)++TP.pes xs))):=by
      rw[TEnt.er,hN,hys,yar,yak];rfl
     rw[this];congr 1;refine ycg λx hx=> ?_;exact Zhd (λid t hn=>Vy (lk H) id t hn) x
    have hq2:=Zd3 (q:=(v.length+1,T.size,pre.length+(post++ys).length)) hnew rfl;rw[if_pos (by simp[g1,g2,g5]),hH,hq2.1,hyl,hN]
    have ht:(pre.map T.enc++post.map λx=>(Xx np (.v T x)).pe).take (pre.length+post.length)=pre.map T.enc++post.map λx=>(Xx np (.v T x)).pe:=by
     rw[List.take_of_length_le (by rw[yr,yz,yz];exact yn _)]
    rw[ht];rfl
  ·cases h
 ·cases h
theorem Zym{α:Type}(a b:List α)(x:α):(a++x::b)[a.length]? =some x:=by rw[List.getElem?_append_right (yn _),Nat.sub_self];rfl
theorem ZDL{α:Type}(a b:List α)(x y:α):(a++x::b).set a.length y=a++y::b:=by
 rw[List.set_append,if_neg (by omega),Nat.sub_self];rfl
def ZCv(P:yg)(t:yc)(all:List TD)(H:List TEnt)(K:Kn O):TD→Option O
 |.rp id (.ix i s::r)=>match H[id]? with
  |some (.rowM T np v st e pre mid post)=>if decide (s=T.size)=true then if decide (i=pre.length)=true then gpT (lk H) r mid λsub hs _=>if okT P t (sub.er (lk H))=true then K all sub H hs 1 else none else none else none
  |_=>none
 |_=>none
theorem ZAA{t:yc}{x:ym}{xd:TD}(ho:o.op=.load t x)(hx:arT P ts 0 x=some xd)(h:ZCv P t all H K xd=some out):∃a d H' hs c,K a d H' hs c=some out∧Good P o ts all H a d H' hs c:=by
 have hv:=Zr (L:=lk H) hx;unfold ZCv at h;split at h
 ·rename_i id i s r;split at h
  ·rename_i T np v st e pre mid post hd;obtain⟨h0,hh⟩:=Za h;obtain⟨h00,h9⟩:=Za hh;clear hh h;have h0:=of_decide_eq_true h0;have h00:=of_decide_eq_true h00;subst h0;subst h00;obtain⟨sub,hs,put,C,k1,k2,k3,_⟩:=XA _ _ _ _ h9;obtain⟨k4,k5⟩:=Za k1;have hq:=Zd3 (q:=(v.length,T.size,pre.length+(post.length+1))) hd rfl;refine⟨_,_,_,_,_,k5,rfl,rfl,.inr (.inl ⟨rfl,rfl,λrest=> ?_,C++[pre.length*T.size+Zau r=X5 (.ix pre.length T.size::r)],Zk.2 ⟨k2,by rw[XH,Zau,Stp.o],trivial⟩,λrest=> ?_⟩)⟩
   ·unfold evN;rw[ho];dsimp only;rw[hv];rfl
   ·unfold evR;rw[ho];dsimp only;rw[hv,hq.2];dsimp only;rw[ZV hd];dsimp only[TEnt.er]
    have k6:Z7 (.arr (pre.length+(post.length+1)) T.size ((pre.map λx=>.p (T.enc x))++mid.er (lk H)::post.map λx=>.p (Xx np (.v T x)).pe)) (pre.length::r.map Stp.i) (hs++rest)=some (C,pre.length*T.size+Zau r,sub.er (lk H),rest):=by
     unfold Z7;have:=Zym (pre.map λx=>Dv.p (T.enc x)) (post.map λx=>.p (Xx np (.v T x)).pe) (mid.er (lk H));rw[yz] at this;rw[this];dsimp only;rw[k3 rest];rfl
    rw[yaf,show(Stp.ix pre.length T.size).i=pre.length from rfl,k6]
    dsimp only;rw[if_pos (by rw[yi];exact⟨k4,by simp⟩)]
  ·cases h
 ·cases h
def Zyn(P:yg)(t:yc)(all:List TD)(H:List TEnt)(K:Kn O)(v:TD):TD→Option O
 |.rp id (.ix i s::r)=>match H[id]? with
  |some (.rowM T np u true e pre mid post)=>if decide (s=T.size)=true then if decide (i=pre.length)=true then gpT (lk H) r mid λsub hs put=>(put v).bind λd1=>
   if Zf4 P t (v.er (lk H)) (sub.er (lk H))=true then K all .junk (H.set id (.rowM T np u true e pre d1 post)) hs 2 else none else none else none
  |_=>none
 |_=>none
theorem Zyo{t:yc}{x y:ym}{xd yd:TD}(ho:o.op=.store t x y)(hx:arT P ts 0 x=some xd)(hy:arT P ts t y=some yd)(h:Zyn P t all H K yd xd=some out):
 ∃a d H' hs c,K a d H' hs c=some out∧Good P o ts all H a d H' hs c:=by
 have hv:=Zr (L:=lk H) hx;have hw:=Zr (L:=lk H) hy;unfold Zyn at h;split at h
 ·rename_i id i s r;split at h
  ·rename_i T np u e pre mid post hd;obtain⟨h0,hh⟩:=Za h;obtain⟨h00,h9⟩:=Za hh;clear hh h;have h0:=of_decide_eq_true h0;have h00:=of_decide_eq_true h00;subst h0;subst h00;obtain⟨sub,hs,put,C,k1,k2,k3,k4⟩:=XA r mid _ out h9;obtain⟨d1,p1,k1⟩:=yf.1 k1;obtain⟨h4,k1⟩:=Za k1;have h4':=h4;unfold Zf4 at h4';have hq:=Zd3 (q:=(u.length,T.size,pre.length+(post.length+1))) hd rfl;have hL:lk (H.set id (.rowM T np u true e pre d1 post))=lk H:=ZDK hd rfl;have hm:=Zym (pre.map λx=>Dv.p (T.enc x)) (post.map λx=>.p (Xx np (.v T x)).pe) (mid.er (lk H));have hm2:=ZDL (pre.map λx=>Dv.p (T.enc x)) (post.map λx=>.p (Xx np (.v T x)).pe) (mid.er (lk H)) (d1.er (lk H));rw[yz] at hm hm2
   have hg:∀rest,Z7 (.arr (pre.length+(post.length+1)) T.size ((pre.map λx=>.p (T.enc x))++mid.er (lk H)::post.map λx=>.p (Xx np (.v T x)).pe)) (pre.length::r.map Stp.i) (hs++rest)=some (C,pre.length*T.size+Zau r,sub.er (lk H),rest):=by
    intro rest;unfold Z7;rw[hm];dsimp only;rw[k3 rest];rfl
   have hp:∀rest,Wv (yd.er (lk H)) (.arr (pre.length+(post.length+1)) T.size ((pre.map λx=>.p (T.enc x))++mid.er (lk H)::post.map λx=>.p (Xx np (.v T x)).pe)) (pre.length::r.map Stp.i) (hs++rest)=some (.arr (pre.length+(post.length+1)) T.size ((pre.map λx=>.p (T.enc x))++d1.er (lk H)::post.map λx=>.p (Xx np (.v T x)).pe)):=by
    intro rest;have:=k4 _ d1 p1 rest;unfold Wv;rw[hm];dsimp only;rw[this,yab,hm2]
   refine⟨_,_,_,_,_,k1,by rw[hL],rfl,or3 (⟨rfl,λrest=> ?_,λrest=> ?_,C++[pre.length*T.size+Zau r=X5 (.ix pre.length T.size::r)],
    Zk.2 ⟨k2,by rw[XH,Zau,Stp.o],trivial⟩,λrest=> ?_⟩)⟩
   ·unfold evN;rw[ho]
   ·unfold evR;rw[ho]
   ·unfold evE;rw[ho];dsimp only;rw[hv,hw,hq.2];dsimp only;rw[ZV hd];dsimp only[TEnt.er];rw[yaf,show(Stp.ix pre.length T.size).i=pre.length from rfl,hg rest]
    dsimp only;rw[show Zc7 (pre.length::r.map Stp.i) (.arr (pre.length+(post.length+1)) T.size ((pre.map λx=>.p (T.enc x))++mid.er (lk H)::post.map λx=>.p (Xx np (.v T x)).pe)) (yd.er (lk H))=some (yd.er (lk H)) from rfl]
    dsimp only;rw[hp rest];dsimp only;rw[if_pos (by simp only[yi] at h4' ⊢;exact⟨⟨h4',by simp⟩,by simp[rowN]⟩),Xj hL];rfl
  ·cases h
 ·cases h
def ZG3(H:List TEnt):TD→Bool
 |.rw id=>((H[id]?).bind TEnt.rowQ).isSome
 |.rp id _=>((H[id]?).bind TEnt.rowQ).isSome
 |_=>false
def rnT(P:yg)(hi:HI)(o:Oper)(ts:List TD)(H:List TEnt):Bool:=
 match o.op with
 |.load t x=>match arT P ts 0 x with
  |some d=>ZG3 H d
  |none=>false
 |.store t x y=>match arT P ts 0 x with
  |some d=>ZG3 H d
  |none=>false
 |.indexAddr t x ix=>match arT P ts t x with
  |some d=>ZG3 H d
  |none=>false
 |.buildSlice t len parts=>match o.dst with
  |some d=>hi.lits.contains d
  |none=>false
 |.call c=>match c.callee with
  |.builtin .len=>match c.args.toList,c.argTypes.toList with
   |[x],[t]=>match arT P ts t x with
    |some d=>ZG3 H d
    |none=>false
   |_,_=>false
  |.builtin .append=>match c.args.toList,c.argTypes.toList with
   |[x,y],[t,u]=>match arT P ts t x with
    |some d=>ZG3 H d
    |none=>false
   |_,_=>false
  |_=>false
 |_=>false
def ZKZ(P:yg)(hi:HI)(o:Oper)(ts all:List TD)(H:List TEnt)(K:Kn O):Option O:=
 match o.op with
 |.load t x=>(arT P ts 0 x).bind λd=>ZCv P t all H K d
 |.store t x y=>(arT P ts 0 x).bind λa=>(arT P ts t y).bind λv=>Zyn P t all H K v a
 |.indexAddr t x ix=>(arT P ts t x).bind λa=>(arT P ts 0 ix).bind λb=>b.inner.bind λip=>(Ztp ip).bind λq=>Zyj P t q.2 all H K a
 |.buildSlice t len parts=>ZKY P ts t len parts.toList all H K
 |.call c=>match c.callee with
  |.builtin .len=>match c.args.toList,c.argTypes.toList with
   |[x],[t]=>(arT P ts t x).bind λd=>ZG2 P t all H K d
   |_,_=>none
  |.builtin .append=>match c.args.toList,c.argTypes.toList with
   |[x,y],[t,u]=>(arT P ts t x).bind λa=>(arT P ts u y).bind λb=>ZtD P t u all H K b a
   |_,_=>none
  |_=>none
 |_=>none
theorem ZFk{hi:HI}(h:ZKZ P hi o ts all H K=some out):∃a d H' hs c,K a d H' hs c=some out∧Good P o ts all H a d H' hs c:=by
 unfold ZKZ at h;split at h
 ·rename_i t x ho;obtain⟨d,h1,h⟩:=yf.1 h;exact ZAA ho h1 h
 ·rename_i t x y ho;obtain⟨a,h1,h⟩:=yf.1 h;obtain⟨v,h2,h⟩:=yf.1 h;exact Zyo ho h1 h2 h
 ·rename_i t x ix ho;obtain⟨a,h1,h⟩:=yf.1 h;obtain⟨b,h2,h⟩:=yf.1 h;obtain⟨ip,h3,h⟩:=yf.1 h;obtain⟨q,h4,h⟩:=yf.1 h;rw[YJ h3] at h2;exact Zyk ho h1 h2 h4 h
 ·rename_i t len parts ho;exact ZFj ho h
 ·rename_i c ho;split at h
  ·rename_i hc;split at h
   ·rename_i x t ha ht;obtain⟨d,h1,h⟩:=yf.1 h;exact ZCu ho hc ha ht h1 h
   ·cases h
  ·rename_i hc;split at h
   ·rename_i x y t u ha ht;obtain⟨a,h1,h⟩:=yf.1 h;obtain⟨b,h2,h⟩:=yf.1 h;exact ZvB ho hc ha ht (Zr h1) h2 h
   ·cases h
  ·cases h
 ·cases h
end
end Go.Ev
end
section
namespace Go.Ev
abbrev TV:=Σ t:Ty,t.den
inductive Sh where
 |v (t:Ty)
 |elem (t:Ty)
 |nil (t:Ty)
 |sl (nn:Bool) (t:Ty)
 |own (j:Nat) (t:Ty)
 |ref (j:Nat) (path:List Stp)
 |mp (j:Nat)
 |rw(j:Nat)
 |rp (j s:Nat) (path:List Stp)
 |view (j:Nat) (path:List Stp) (s lo n:Nat)
 |fn (g:yu) (l:List Sh)
 |agg (l:List Sh)
 |arr (n s:Nat) (l:List Sh)
 |tup (l:List Sh)
 |iface (t:yc) (x:Sh)
 |ptr0|fn0|if0|map0
 |junk
instance:Inhabited Sh:=⟨.junk⟩
def Stp.beq:Stp→Stp→Bool
 |.fld i o,.fld j p=>decide (i=j)&&decide (o=p)
 |.ix i o,.ix j p=>decide (i=j)&&decide (o=p)
 |_,_=>false
def ZlF:List Stp→List Stp→Bool
 |[],[]=>true
 |q::r,p::s=>q.beq p&&ZlF r s
 |_,_=>false
theorem ZeQ:∀{l m:List Stp},ZlF l m=true→l=m
 |[],[],_=>rfl
 |[],_::_,h=>by cases h
 |_::_,[],h=>by cases h
 |q::r,p::s,h=>by
  simp only[ZlF,yi] at h;rw[ZeQ h.2];congr 1;cases q <;> cases p <;> simp[Stp.beq] at h <;> simp[h.1]
def TD.toT(L:Lk)(t:Ty):TD→Option t.den
 |.p x=>TP.to Zkb x t
 |.own id _ u c=>match t with
  |.sl w=>Ty.castL u w (ZX L id u c)
  |_=>none
 |_=>none
theorem ZK0{L:Lk}{t:Ty}{d:TD}{y:t.den}(h:d.toT L t=some y):Wk (d.er L) (.p (t.enc y)):=by
 cases d with
 |p x=>exact Wk.p (Zz7 (show TP.to Zkb x t=some y from h))
 |own id nn u c=>
  cases t with
  |sl w=>
   obtain⟨e,h2⟩:=ZE (show Ty.castL u w (ZX L id u c)=some y from h)
   subst e;subst h2
   exact Wk.own_sl (PlsWk.refl _)
  |_=>cases h
 |_=>cases h
def ZL7(t:Ty):TD→Option t.den
 |.elem x=>TP.to Zkb x t
 |_=>none
theorem Wk.elem{x y:Pl}(h:PlWk x y):Wk (.elem x) (.elem y):=⟨rfl,rfl,λσ vs r=>by
 simp only[repD] at r ⊢;obtain⟨b,o,us,e,r1,r2⟩:=r;exact⟨b,o,us,e,h.rep _ _ _ r1,r2⟩⟩
theorem WkL.fn{f:yu}{ds es:List Dv}(h:WkL ds es):Wk (.fn f ds) (.fn f es):=⟨rfl,rfl,λσ vs r=>by
 simp only[repD] at r ⊢;obtain⟨fs,cs,e,e0,r⟩:=r;exact⟨fs,cs,e,e0,h.vs r⟩⟩
theorem WkL.sizes{ds es:List Dv}(h:WkL ds es)(s:Nat):(∀x,x∈ds→x.size=s)→∀x,x∈es→x.size=s:=by
 induction h with
 |nil=>intro _ x hx;cases hx
 |cons h k ih=>
  intro hh x hx;rcases List.mem_cons.1 hx with rfl|hx
  ·rw[←h.size];exact hh _ (List.mem_cons_self ..)
  ·exact ih (λy hy=>hh y (List.mem_cons_of_mem _ hy)) x hx
theorem WkL.arr{n s:Nat}{ds es:List Dv}(h:WkL ds es):Wk (.arr n s ds) (.arr n s es):=⟨rfl,rfl,λσ vs r=>by
 simp only[repD] at r ⊢;obtain⟨r1,r2,r3⟩:=r;have:=(WkL.agg h).rep σ vs (by simp only[repD];exact r3);simp only[repD] at this;exact⟨by rw[←h.len];exact r1,h.sizes s r2,this⟩⟩
theorem Wk.iface{t:yc}{x y:Dv}(h:Wk x y):Wk (.iface t x) (.iface t y):=⟨rfl,rfl,λσ vs r=>by
 simp only[repD] at r ⊢;obtain⟨v,e,r1,r2⟩:=r;refine⟨v,e,λha=> ?_,λha=>h.rep _ _ (r2 (by rw[h.agg];exact ha))⟩;obtain⟨cs,e1,e2⟩:=r1 (by rw[h.agg];exact ha);exact⟨cs,e1,h.rep _ _ e2⟩⟩
mutual
def Sh.mt(L:Lk):Sh→TD→Option (TD×List TV)
 |.v t,d=>(d.toT L t).map λy=>(.p (.v t y),[⟨t,y⟩])
 |.elem t,d=>(ZL7 t d).map λy=>(.elem (.v t y),[⟨t,y⟩])
 |.nil t,d=>match d with
  |.p x=>if x.nilT t=true then some (.p (.sl (some false) t []),[]) else none
  |_=>none
 |.sl nn t,d=>match d with
  |.p (.sl (some b) u xs)=>if b=nn then(Ty.castL u t xs).map λy=>(.p (.sl (some nn) t y),[⟨.sl t,y⟩]) else none
  |_=>none
 |.own j t,d=>match d with
  |.own id _ u none=>if id=j∧u=t then some (.own j none t none,[]) else none
  |_=>none
 |.ref j p,d=>match d with
  |.ref id q=>if id=j∧ZlF p q=true then some (.ref j p,[]) else none
  |_=>none
 |.mp j,d=>match d with
  |.mp id=>if id=j then some (.mp j,[]) else none
  |_=>none
 |.rw j,d=>match d with
  |.rw id=>if id=j then some (.rw j,[]) else none
  |_=>none
 |.rp j s p,d=>match d with
  |.rp id (.ix i s'::q)=>if id=j∧s'=s∧ZlF p q=true then some (.rp j (.ix i s::p),[⟨.int .i64,(i:Int)⟩]) else none
  |_=>none
 |.view j p s lo n,d=>match d with
  |.view id q s' lo' n'=>if id=j∧ZlF p q=true∧s=s'∧lo=lo'∧n=n' then some (.view j p s lo n,[]) else none
  |_=>none
 |.fn g l,d=>match d with
  |.fn f ds=>if f=g then(Sh.mts L l ds).map λq=>(.fn g q.1,q.2) else none
  |_=>none
 |.agg l,d=>match d with
  |.agg ds=>(Sh.mts L l ds).map λq=>(.agg q.1,q.2)
  |_=>none
 |.arr n s l,d=>match d with
  |.arr m s' ds=>if m=n∧s'=s then(Sh.mts L l ds).map λq=>(.arr n s q.1,q.2) else none
  |_=>none
 |.tup l,d=>match d with
  |.tup ds=>(Sh.mts L l ds).map λq=>(.tup q.1,q.2)
  |_=>none
 |.iface t x,d=>match d with
  |.iface u y=>if u=t then(Sh.mt L x y).map λq=>(.iface t q.1,q.2) else none
  |_=>none
 |.ptr0,d=>match d with
  |.p .ptr0=>some (.p .ptr0,[])
  |_=>none
 |.fn0,d=>match d with
  |.p .fn0=>some (.p .fn0,[])
  |_=>none
 |.if0,d=>match d with
  |.p .if0=>some (.p .if0,[])
  |_=>none
 |.map0,d=>match d with
  |.p .map0=>some (.p .map0,[])
  |_=>none
 |.junk,d=>if(d.er L).size=1∧(d.er L).isAgg=false then some (.junk,[]) else none
def Sh.mts(L:Lk):List Sh→List TD→Option (List TD×List TV)
 |[],ds=>match ds with
  |[]=>some ([],[])
  |_=>none
 |s::r,ds=>match ds with
  |d::q=>match Sh.mt L s d,Sh.mts L r q with
   |some a,some b=>some (a.1::b.1,a.2++b.2)
   |_,_=>none
  |[]=>none
end
mutual
def Sh.fill:Sh→List TV→Option (TD×List TV)
 |.v t,vs=>match vs with
  |x::r=>(Ty.cast x.1 t x.2).map λy=>(.p (.v t y),r)
  |[]=>none
 |.elem t,vs=>match vs with
  |x::r=>(Ty.cast x.1 t x.2).map λy=>(.elem (.v t y),r)
  |[]=>none
 |.nil t,vs=>some (.p (.sl (some false) t []),vs)
 |.sl nn t,vs=>match vs with
  |x::r=>(Ty.cast x.1 (.sl t) x.2).map λ(y:List t.den)=>(.p (.sl (some nn) t y),r)
  |[]=>none
 |.own j t,vs=>some (.own j none t none,vs)
 |.ref j p,vs=>some (.ref j p,vs)
 |.mp j,vs=>some (.mp j,vs)
 |.rw j,vs=>some (.rw j,vs)
 |.rp j s p,vs=>match vs with
  |x::r=>(Ty.cast x.1 (.int .i64) x.2).map λ(i:Int)=>(.rp j (.ix i.toNat s::p),r)
  |[]=>none
 |.view j p s lo n,vs=>some (.view j p s lo n,vs)
 |.fn g l,vs=>(Sh.fills l vs).map λq=>(.fn g q.1,q.2)
 |.agg l,vs=>(Sh.fills l vs).map λq=>(.agg q.1,q.2)
 |.arr n s l,vs=>(Sh.fills l vs).map λq=>(.arr n s q.1,q.2)
 |.tup l,vs=>(Sh.fills l vs).map λq=>(.tup q.1,q.2)
 |.iface t x,vs=>(Sh.fill x vs).map λq=>(.iface t q.1,q.2)
 |.ptr0,vs=>some (.p .ptr0,vs)
 |.fn0,vs=>some (.p .fn0,vs)
 |.if0,vs=>some (.p .if0,vs)
 |.map0,vs=>some (.p .map0,vs)
 |.junk,vs=>some (.junk,vs)
def Sh.fills:List Sh→List TV→Option (List TD×List TV)
 |[],vs=>some ([],vs)
 |s::r,vs=>(Sh.fill s vs).bind λa=>(Sh.fills r a.2).map λb=>(a.1::b.1,b.2)
end
theorem YP(t:Ty)(x:t.den):Ty.cast t t x=some x:=by
 unfold Ty.cast;split
 ·rfl
 ·rename_i h _;exact absurd rfl h
mutual
theorem ZlG{L:Lk}:∀(s:Sh)(d:TD)(q:TD×List TV),s.mt L d=some q→∀rest,s.fill (q.2++rest)=some (q.1,rest)
 |.v t,d,q,h,rest=>by
  simp only[Sh.mt] at h;obtain⟨y,_,rfl⟩:=Zb h
  simp[Sh.fill,YP]
 |.elem t,d,q,h,rest=>by
  simp only[Sh.mt] at h;obtain⟨y,_,rfl⟩:=Zb h
  simp[Sh.fill,YP]
 |.nil t,d,q,h,rest=>by
  simp only[Sh.mt] at h;split at h
  ·split at h <;> cases h;rfl
  ·cases h
 |.sl nn t,d,q,h,rest=>by
  simp only[Sh.mt] at h;split at h
  ·split at h
   ·obtain⟨w,h1,rfl⟩:=Zb h;exact congrArg (Option.map λ(y:List t.den)=>(TD.p (.sl (some nn) t y),rest)) (YP (.sl t) w)
   ·cases h
  ·cases h
 |.own j t,d,q,h,rest=>by
  simp only[Sh.mt] at h;split at h
  ·split at h <;> cases h;rfl
  ·cases h
 |.ref j p,d,q,h,rest=>by
  simp only[Sh.mt] at h;split at h
  ·split at h <;> cases h;rfl
  ·cases h
 |.mp j,d,q,h,rest=>by
  simp only[Sh.mt] at h;split at h
  ·split at h <;> cases h;rfl
  ·cases h
 |.rw j,d,q,h,rest=>by
  simp only[Sh.mt] at h;split at h
  ·split at h <;> cases h;rfl
  ·cases h
 |.rp j s p,d,q,h,rest=>by
  simp only[Sh.mt] at h;split at h
  ·rename_i id i s' q';split at h
   ·cases h;exact congrArg (Option.map λ(i:Int)=>(TD.rp j (.ix i.toNat s::p),rest)) (YP (.int .i64) (i:Int))
   ·cases h
  ·cases h
 |.view j p s lo n,d,q,h,rest=>by
  simp only[Sh.mt] at h;split at h
  ·split at h <;> cases h;rfl
  ·cases h
 |.fn g l,d,q,h,rest=>by
  simp only[Sh.mt] at h;split at h
  ·split at h
   ·obtain⟨w,h1,rfl⟩:=Zb h;simp only[Sh.fill,mts_fills l _ w h1 rest,yab]
   ·cases h
  ·cases h
 |.agg l,d,q,h,rest=>by
  simp only[Sh.mt] at h;split at h
  ·obtain⟨w,h1,rfl⟩:=Zb h;simp only[Sh.fill,mts_fills l _ w h1 rest,yab]
  ·cases h
 |.arr n s l,d,q,h,rest=>by
  simp only[Sh.mt] at h;split at h
  ·split at h
   ·obtain⟨w,h1,rfl⟩:=Zb h;simp only[Sh.fill,mts_fills l _ w h1 rest,yab]
   ·cases h
  ·cases h
 |.tup l,d,q,h,rest=>by
  simp only[Sh.mt] at h;split at h
  ·obtain⟨w,h1,rfl⟩:=Zb h;simp only[Sh.fill,mts_fills l _ w h1 rest,yab]
  ·cases h
 |.iface t x,d,q,h,rest=>by
  simp only[Sh.mt] at h;split at h
  ·split at h
   ·obtain⟨w,h1,rfl⟩:=Zb h;simp only[Sh.fill,ZlG x _ w h1 rest,yab]
   ·cases h
  ·cases h
 |.ptr0,d,q,h,rest=>by
  simp only[Sh.mt] at h
  split at h <;> cases h;rfl
 |.fn0,d,q,h,rest=>by
  simp only[Sh.mt] at h
  split at h <;> cases h;rfl
 |.if0,d,q,h,rest=>by
  simp only[Sh.mt] at h
  split at h <;> cases h;rfl
 |.map0,d,q,h,rest=>by
  simp only[Sh.mt] at h
  split at h <;> cases h;rfl
 |.junk,d,q,h,rest=>by
  simp only[Sh.mt] at h;split at h <;> cases h;rfl
theorem mts_fills{L:Lk}:∀(l:List Sh)(ds:List TD)(q:List TD×List TV),Sh.mts L l ds=some q→∀rest,Sh.fills l (q.2++rest)=some (q.1,rest)
 |[],ds,q,h,rest=>by
  simp only[Sh.mts] at h
  split at h <;> cases h;rfl
 |s::r,ds,q,h,rest=>by
  simp only[Sh.mts] at h;split at h
  ·split at h
   ·rename_i a b h1 h2;cases h;simp only[Sh.fills,yak,ZlG s _ a h1,yb,mts_fills r _ b h2,yab]
   ·cases h
  ·cases h
end
mutual
theorem ZtE{L M:Lk}(hL:∀id t,ZX L id t none=ZX M id t none):∀(s:Sh)(d:TD)(q:TD×List TV),s.mt L d=some q→Wk (d.er L) (q.1.er M)
 |.v t,d,q,h=>by
  simp only[Sh.mt] at h;obtain⟨y,h1,rfl⟩:=Zb h
  exact ZK0 h1
 |.elem t,d,q,h=>by
  simp only[Sh.mt] at h;obtain⟨y,h1,rfl⟩:=Zb h;cases d <;> first|cases h1|skip
  exact Wk.elem (Zz7 h1)
 |.nil t,d,q,h=>by
  simp only[Sh.mt] at h;split at h
  ·split at h
   ·rename_i hn;cases h;refine Wk.of_eq ?_;rw[TD.er,Zx1 hn];rfl
   ·cases h
  ·cases h
 |.sl nn t,d,q,h=>by
  simp only[Sh.mt] at h;split at h
  ·split at h
   ·rename_i e;subst e;obtain⟨w,h1,rfl⟩:=Zb h;obtain⟨e,h2⟩:=ZE h1;subst e;subst h2;exact Wk.refl _
   ·cases h
  ·cases h
 |.own j t,d,q,h=>by
  simp only[Sh.mt] at h;split at h
  ·split at h
   ·rename_i e;obtain⟨rfl,rfl⟩:=e;cases h;rw[TD.er,TD.er,hL];exact Wk.own rfl
   ·cases h
  ·cases h
 |.ref j p,d,q,h=>by
  simp only[Sh.mt] at h;split at h
  ·split at h
   ·rename_i e;obtain⟨rfl,e⟩:=e;cases h;rw[ZeQ e];exact Wk.refl _
   ·cases h
  ·cases h
 |.mp j,d,q,h=>by
  simp only[Sh.mt] at h;split at h
  ·split at h
   ·rename_i e;subst e;cases h;exact Wk.refl _
   ·cases h
  ·cases h
 |.rw j,d,q,h=>by
  simp only[Sh.mt] at h;split at h
  ·split at h
   ·rename_i e;subst e;cases h;refine Wk.of_eq ?_;rw[TD.er,TD.er];simp only[Zbe,hL]
   ·cases h
  ·cases h
 |.rp j s p,d,q,h=>by
  simp only[Sh.mt] at h;split at h
  ·split at h
   ·rename_i e;obtain⟨rfl,rfl,e⟩:=e;cases h;rw[ZeQ e];refine Wk.of_eq ?_;rw[TD.er,TD.er];simp only[Zbe,hL]
   ·cases h
  ·cases h
 |.view j p s lo n,d,q,h=>by
  simp only[Sh.mt] at h;split at h
  ·split at h
   ·rename_i e;obtain⟨rfl,e,rfl,rfl,rfl⟩:=e;cases h;rw[ZeQ e];exact Wk.refl _
   ·cases h
  ·cases h
 |.fn g l,d,q,h=>by
  simp only[Sh.mt] at h;split at h
  ·split at h
   ·rename_i e;subst e;obtain⟨w,h1,rfl⟩:=Zb h;exact WkL.fn (mts_wk hL l _ w h1)
   ·cases h
  ·cases h
 |.agg l,d,q,h=>by
  simp only[Sh.mt] at h;split at h
  ·obtain⟨w,h1,rfl⟩:=Zb h;exact WkL.agg (mts_wk hL l _ w h1)
  ·cases h
 |.arr n s l,d,q,h=>by
  simp only[Sh.mt] at h;split at h
  ·split at h
   ·rename_i e;obtain⟨rfl,rfl⟩:=e;obtain⟨w,h1,rfl⟩:=Zb h;exact WkL.arr (mts_wk hL l _ w h1)
   ·cases h
  ·cases h
 |.tup l,d,q,h=>by
  simp only[Sh.mt] at h;split at h
  ·obtain⟨w,h1,rfl⟩:=Zb h;exact WkL.tup (mts_wk hL l _ w h1)
  ·cases h
 |.iface t x,d,q,h=>by
  simp only[Sh.mt] at h;split at h
  ·split at h
   ·rename_i e;subst e;obtain⟨w,h1,rfl⟩:=Zb h;exact Wk.iface (ZtE hL x _ w h1)
   ·cases h
  ·cases h
 |.ptr0,d,q,h=>by
  simp only[Sh.mt] at h
  split at h <;> cases h;exact Wk.refl _
 |.fn0,d,q,h=>by
  simp only[Sh.mt] at h
  split at h <;> cases h;exact Wk.refl _
 |.if0,d,q,h=>by
  simp only[Sh.mt] at h
  split at h <;> cases h;exact Wk.refl _
 |.map0,d,q,h=>by
  simp only[Sh.mt] at h
  split at h <;> cases h;exact Wk.refl _
 |.junk,d,q,h=>by
  simp only[Sh.mt] at h;split at h
  ·rename_i e;cases h;exact Wk.junk e.2 e.1
  ·cases h
theorem mts_wk{L M:Lk}(hL:∀id t,ZX L id t none=ZX M id t none):∀(l:List Sh)(ds:List TD)(q:List TD×List TV),Sh.mts L l ds=some q→WkL (TD.ers L ds) (TD.ers M q.1)
 |[],ds,q,h=>by
  simp only[Sh.mts] at h
  split at h <;> cases h;exact .nil
 |s::r,ds,q,h=>by
  simp only[Sh.mts] at h;split at h
  ·split at h
   ·rename_i a b h1 h2;cases h;exact .cons (ZtE hL s _ a h1) (mts_wk hL r _ b h2)
   ·cases h
  ·cases h
end
inductive ESh where
 |var (s:Sh) (st:Bool)
 |log (t:Ty) (e:yc)
 |map (tid:yc) (k v:Ty)
 |row (t:Ty) (st:Bool) (e:yc)
 |rowN (t:Ty) (np:List Nat) (st:Bool) (e:yc)
 |rowM (t:Ty) (np:List Nat) (st:Bool) (e:yc) (s:Sh)
 |gone
def ZrT(k v:Ty):Ty:=.sl (.st [k,v])
def ZK1(L:Lk)(t:Ty)(d:TD):Option t.den:=(d.flat L).bind λx=>TP.to Zkb x t
theorem ZDM{L:Lk}{t:Ty}{d:TD}{y:t.den}(h:ZK1 L t d=some y):Wk (d.er L) (.p (t.enc y)):=by
 obtain⟨x,h1,h2⟩:=yf.1 h;have hf:(d.er L).flat=some x.pe:=by rw[Zsu,h1];rfl
 have hw:Wk (d.er L) (.p x.pe):=⟨(ZpP _ _ hf).symm,(ZzA hf).symm,λσ vs r=>by simp only[repD];exact Zlw _ _ _ hf r⟩;have hz:=Zz7 h2;exact⟨hw.size.trans hz.size,hw.agg.trans hz.agg,λσ vs r=>(Wk.p hz).rep σ vs (hw.rep σ vs r)⟩
def ESh.mt(L:Lk):ESh→TEnt→Option (TEnt×List TV)
 |.var s st,.var d st'=>if st=st'∨st=false then(s.mt L d).map λq=>(.var q.1 st,q.2) else none
 |.log t e,.log u e' xs=>if e=e' then(Ty.castL u t xs).map λys=>(.log t e ys,[⟨.sl t,ys⟩]) else none
 |.map tid k v,.map tid' k' v' l=>if tid=tid' then(Ty.cast (ZrT k' v') (ZrT k v) l).map λ(m:List (k.den×v.den))=>(.map tid k v m,[⟨ZrT k v,m⟩]) else none
 |.row t st e,.rowT u v st' e' xs=>if(st=st'∨st=false)∧e=e' then(Ty.castL u t xs).map λys=>(.rowT t v st e ys,[⟨.sl (.st []),v⟩,⟨.sl t,ys⟩]) else none
 |.rowN t np st e,.rowN u np' v st' e' pre post=>if(st=st'∨st=false)∧e=e'∧np=np' then(Ty.castL u t pre).bind λys=>(Ty.castL u t post).map λzs=>
   (.rowN t np v st e ys zs,[⟨.sl (.st []),v⟩,⟨.sl t,ys⟩,⟨.sl t,zs⟩]) else none
 |.rowN t np st e,.rowM u np' v st' e' pre mid post=>if st=st'∧e=e'∧np=np' then(Ty.castL u t pre).bind λys=>(Ty.castL u t post).bind λzs=>(ZK1 L t mid).map λy=>
   (.rowN t np v st e (ys++[y]) zs,[⟨.sl (.st []),v⟩,⟨.sl t,ys++[y]⟩,⟨.sl t,zs⟩]) else none
 |.rowM t np st e s,.rowM u np' v st' e' pre mid post=>if st=st'∧e=e'∧np=np' then(Ty.castL u t pre).bind λys=>(Ty.castL u t post).bind λzs=>(s.mt L mid).map λq=>
   (.rowM t np v st e ys q.1 zs,[⟨.sl (.st []),v⟩,⟨.sl t,ys⟩,⟨.sl t,zs⟩]++q.2) else none
 |.gone,.gone=>some (.gone,[])
 |_,_=>none
def ESh.fill:ESh→List TV→Option (TEnt×List TV)
 |.var s st,vs=>(s.fill vs).map λq=>(.var q.1 st,q.2)
 |.log t e,vs=>match vs with
  |x::r=>(Ty.cast x.1 (.sl t) x.2).map λ(y:List t.den)=>(.log t e y,r)
  |[]=>none
 |.map tid k v,vs=>match vs with
  |x::r=>(Ty.cast x.1 (ZrT k v) x.2).map λ(y:List (k.den×v.den))=>(.map tid k v y,r)
  |[]=>none
 |.row t st e,vs=>match vs with
  |x::y::r=>(Ty.cast x.1 (.sl (.st [])) x.2).bind λ(v:List Unit)=>(Ty.cast y.1 (.sl t) y.2).map λ(l:List t.den)=>(.rowT t v st e l,r)
  |_=>none
 |.rowN t np st e,vs=>match vs with
  |x::y::z::r=>(Ty.cast x.1 (.sl (.st [])) x.2).bind λ(v:List Unit)=>(Ty.cast y.1 (.sl t) y.2).bind λ(l:List t.den)=>(Ty.cast z.1 (.sl t) z.2).bind λ(m:List t.den)=>some (.rowN t np v st e l m,r)
  |_=>none
 |.rowM t np st e s,vs=>match vs with
  |x::y::z::r=>(Ty.cast x.1 (.sl (.st [])) x.2).bind λ(v:List Unit)=>(Ty.cast y.1 (.sl t) y.2).bind λ(l:List t.den)=>(Ty.cast z.1 (.sl t) z.2).bind λ(m:List t.den)=>
   (s.fill r).map λq=>(.rowM t np v st e l q.1 m,q.2)
  |_=>none
 |.gone,vs=>some (.gone,vs)
def ESh.mts(L:Lk):List ESh→List TEnt→Option (List TEnt×List TV)
 |[],[]=>some ([],[])
 |s::r,d::q=>match ESh.mt L s d,ESh.mts L r q with
  |some a,some b=>some (a.1::b.1,a.2++b.2)
  |_,_=>none
 |_,_=>none
def ESh.fills:List ESh→List TV→Option (List TEnt×List TV)
 |[],vs=>some ([],vs)
 |s::r,vs=>(ESh.fill s vs).bind λa=>(ESh.fills r a.2).map λb=>(a.1::b.1,b.2)
theorem ZG4{O:Type}{t:Ty}(v:List Unit)(a b:List t.den)(k:List Unit→List t.den→List t.den→Option O):
 ((Ty.cast (.sl (.st [])) (.sl (.st [])) v).bind λ(v:List Unit)=>(Ty.cast (.sl t) (.sl t) a).bind λ(l:List t.den)=>(Ty.cast (.sl t) (.sl t) b).bind λ(m:List t.den)=>k v l m)=k v a b:=by
 have e1:=YP (.sl (.st [])) v;have e2:=YP (.sl t) a;have e3:=YP (.sl t) b;rw[e1,e2,e3];rfl
theorem ZG5{L:Lk}{s:ESh}{d:TEnt}{q:TEnt×List TV}(h:s.mt L d=some q)(rest:List TV):s.fill (q.2++rest)=some (q.1,rest):=by
 unfold ESh.mt at h;split at h
 ·split at h
  ·obtain⟨w,h1,rfl⟩:=Zb h;simp only[ESh.fill,ZlG _ _ w h1 rest,yab]
  ·cases h
 ·split at h
  ·obtain⟨w,h1,rfl⟩:=Zb h;rename_i t e _ _ _ _;exact congrArg (Option.map λ(y:List t.den)=>(TEnt.log t e y,rest)) (YP (.sl t) w)
  ·cases h
 ·split at h
  ·obtain⟨w,h1,rfl⟩:=Zb h;rename_i tid k v _ _ _ _ _;exact congrArg (Option.map λ(y:List (k.den×v.den))=>(TEnt.map tid k v y,rest)) (YP (ZrT k v) w)
  ·cases h
 ·split at h
  ·obtain⟨w,h1,rfl⟩:=Zb h;rename_i t st e _ v _ _ _ _;have e1:=YP (.sl (.st [])) v;have e2:=YP (.sl t) w;show((Ty.cast (.sl (.st [])) (.sl (.st [])) v).bind λ(v:List Unit)=>(Ty.cast (.sl t) (.sl t) w).map λ(l:List t.den)=>(TEnt.rowT t v st e l,rest))=_;rw[e1,e2];rfl
  ·cases h
 ·rename_i t np st e u np' v st' e' pre post;split at h
  ·obtain⟨a,h1,h⟩:=yf.1 h;obtain⟨b,h2,rfl⟩:=Zb h;exact ZG4 v a b (λv l m=>some (TEnt.rowN t np v st e l m,rest))
  ·cases h
 ·rename_i t np st e u np' v st' e' pre mid post;split at h
  ·obtain⟨a,h1,h⟩:=yf.1 h;obtain⟨b,h2,h⟩:=yf.1 h;obtain⟨c,h3,rfl⟩:=Zb h;exact ZG4 v (a++[c]) b (λv l m=>some (TEnt.rowN t np v st e l m,rest))
  ·cases h
 ·rename_i t np st e s u np' v st' e' pre mid post;split at h
  ·obtain⟨a,h1,h⟩:=yf.1 h;obtain⟨b,h2,h⟩:=yf.1 h;obtain⟨c,h3,rfl⟩:=Zb h;have:=ZG4 v a b (λv l m=>(s.fill (c.2++rest)).map λq=>(TEnt.rowM t np v st e l q.1 m,q.2));refine this.trans ?_;rw[ZlG _ _ c h3 rest];rfl
  ·cases h
 ·cases h;rfl
 ·cases h
theorem Q8{L:Lk}:∀{l:List ESh}{H:List TEnt}{q:List TEnt×List TV},ESh.mts L l H=some q→∀rest,ESh.fills l (q.2++rest)=some (q.1,rest)
 |[],[],q,h,rest=>by cases h;rfl
 |[],_::_,q,h,rest=>by cases h
 |_::_,[],q,h,rest=>by cases h
 |s::r,d::H,q,h,rest=>by
  simp only[ESh.mts] at h;split at h
  ·rename_i a b h1 h2;cases h;simp only[ESh.fills,yak,ZG5 h1,yb,Q8 h2,yab]
  ·cases h
theorem ZK2{L:Lk}{s:ESh}{d:TEnt}{q:TEnt×List TV}(h:s.mt L d=some q):lkE (some q.1)=lkE (some d):=by
 unfold ESh.mt at h;split at h
 ·split at h
  ·obtain⟨w,h1,rfl⟩:=Zb h;rfl
  ·cases h
 ·split at h
  ·obtain⟨w,h1,rfl⟩:=Zb h;obtain⟨e,h2⟩:=ZE h1;subst e;subst h2;rfl
  ·cases h
 ·split at h
  ·obtain⟨w,h1,rfl⟩:=Zb h;rfl
  ·cases h
 ·split at h
  ·obtain⟨w,h1,rfl⟩:=Zb h;obtain⟨e,h2⟩:=ZE h1;subst e;subst h2;rfl
  ·cases h
 ·split at h
  ·obtain⟨a,h1,h⟩:=yf.1 h;obtain⟨b,h2,rfl⟩:=Zb h;obtain⟨e,h3⟩:=ZE h1;subst e;obtain⟨_,h4⟩:=ZE h2;subst h3;subst h4;rfl
  ·cases h
 ·split at h
  ·obtain⟨a,h1,h⟩:=yf.1 h;obtain⟨b,h2,h⟩:=yf.1 h;obtain⟨c,h3,rfl⟩:=Zb h;obtain⟨e,h4⟩:=ZE h1;subst e;obtain⟨_,h5⟩:=ZE h2;subst h4;subst h5;simp only[lkE,yr,yad,ycn];rw[Nat.add_assoc,Nat.add_comm (0+1)]
  ·cases h
 ·split at h
  ·obtain⟨a,h1,h⟩:=yf.1 h;obtain⟨b,h2,h⟩:=yf.1 h;obtain⟨c,h3,rfl⟩:=Zb h;obtain⟨e,h4⟩:=ZE h1;subst e;obtain⟨_,h5⟩:=ZE h2;subst h4;subst h5;rfl
  ·cases h
 ·cases h;rfl
 ·cases h
theorem Zhf{L:Lk}:∀{l:List ESh}{H:List TEnt}{q:List TEnt×List TV},ESh.mts L l H=some q→q.1.length=H.length∧lk q.1=lk H
 |[],[],q,h=>by cases h;exact⟨rfl,rfl⟩
 |[],_::_,q,h=>by cases h
 |_::_,[],q,h=>by cases h
 |s::r,d::H,q,h=>by
  simp only[ESh.mts] at h;split at h
  ·rename_i a b h1 h2;cases h;obtain⟨e1,e2⟩:=Zhf h2;refine⟨by simp[e1],funext λi=> ?_⟩
   cases i with
   |zero=>exact ZK2 h1
   |succ i=>exact congrFun e2 i
  ·cases h
theorem ZDN:∀(l:List Dv){m m':List Dv},WkL m m'→WkL (l++m) (l++m')
 |[],_,_,h=>h
 |x::l,_,_,h=>.cons (Wk.refl x) (ZDN l h)
theorem ZDO{l m:List Dv}{d d':Dv}(h:Wk d d'):WkL (l++d::m) (l++d'::m):=ZDN l (.cons h (WkL.refl m))
theorem ZG6{n s:Nat}(xs:List Pl):Wk (.arr n s (xs.map .p)) (.p (.arr n s xs)):=⟨rfl,rfl,λσ vs r=>by
 simp only[repD,repC] at r ⊢;obtain⟨h1,h2,h3⟩:=r;exact⟨by simpa using h1,λx hx=>h2 (.p x) (List.mem_map_of_mem hx),ZfR.1 h3⟩⟩
theorem ZK3{n s:Nat}{d:Dv}{x:Pl}(l m:List Pl)(h:Wk d (.p x)):Wk (.arr n s (l.map .p++d::m.map .p)) (.p (.arr n s (l++x::m))):=by
 have h1:Wk (.arr n s (l.map .p++d::m.map .p)) (.arr n s (l.map .p++.p x::m.map .p)):=WkL.arr (ZDO h);have h2:=ZG6 (n:=n) (s:=s) (l++x::m);rw[yar,yaf] at h2;exact⟨rfl,rfl,λσ vs r=>h2.rep σ vs (h1.rep σ vs r)⟩
theorem ZDP{L M:Lk}{t:Ty}{np:List Nat}{v:List Unit}{st:Bool}{e:yc}{a b:List t.den}{mid:TD}{c:t.den}(hw:Wk (mid.er L) (.p (t.enc c))):
 WkE ((TEnt.rowM t np v st e a mid b).er L) ((TEnt.rowN t np v st e (a++[c]) b).er M):=by
 have h:=ZK3 (a.map t.enc) (b.map λx=>(Xx np (.v t x)).pe) (n:=a.length+(b.length+1)) (s:=t.size) hw;rw[yax,yax] at h;have e1:(a++[c]).length+b.length=a.length+(b.length+1):=by rw[yr,yad,ycn];omega
 have e2:(a++[c]).map t.enc++(b.map λx=>(Xx np (.v t x)).pe)=a.map t.enc++t.enc c::b.map λx=>(Xx np (.v t x)).pe:=by rw[yar,yak];rfl
 rw[TEnt.er,TEnt.er,e1,e2];exact .row ⟨h,rfl⟩
theorem ZK4{L M:Lk}(hL:∀id t,ZX L id t none=ZX M id t none){s:ESh}{d:TEnt}{q:TEnt×List TV}(h:s.mt L d=some q):WkE (d.er L) (q.1.er M):=by
 unfold ESh.mt at h;split at h
 ·split at h
  ·rename_i e;obtain⟨w,h1,rfl⟩:=Zb h;rcases e with e|e
   ·subst e;exact .var (ZtE hL _ _ w h1)
   ·subst e;exact .varz (ZtE hL _ _ w h1)
  ·cases h
 ·split at h
  ·rename_i e;subst e;obtain⟨w,h1,rfl⟩:=Zb h;obtain⟨e,h2⟩:=ZE h1;subst e;subst h2;exact .refl _
  ·cases h
 ·split at h
  ·rename_i e;subst e;obtain⟨w,h1,rfl⟩:=Zb h;obtain⟨e,h2⟩:=Vx h1;unfold ZrT at e;simp only[Ty.sl.injEq,Ty.st.injEq,List.cons.injEq,and_true] at e;obtain⟨e1,e2⟩:=e;subst e1;subst e2;subst h2;exact .refl _
  ·cases h
 ·split at h
  ·rename_i e;obtain⟨e0,e1⟩:=e;subst e1;obtain⟨w,h1,rfl⟩:=Zb h;obtain⟨e,h2⟩:=ZE h1;subst e;subst h2;rcases e0 with e0|e0
   ·subst e0;exact .refl _
   ·subst e0;exact .lock
  ·cases h
 ·split at h
  ·rename_i e;obtain⟨e0,e1,e2⟩:=e;subst e1;subst e2;obtain⟨a,h1,h⟩:=yf.1 h;obtain⟨b,h2,rfl⟩:=Zb h;obtain⟨e,h3⟩:=ZE h1;subst e;obtain⟨_,h4⟩:=ZE h2;subst h3;subst h4;rcases e0 with e0|e0
   ·subst e0;exact .refl _
   ·subst e0;exact .lock
  ·cases h
 ·rename_i _ _ _ _ _ _ _ _ _ pre mid post;split at h
  ·rename_i e;obtain⟨e0,e1,e2⟩:=e;subst e0;subst e1;subst e2;obtain⟨a,h1,h⟩:=yf.1 h;obtain⟨b,h2,h⟩:=yf.1 h;obtain⟨c,h3,rfl⟩:=Zb h;obtain⟨e,h4⟩:=ZE h1;subst e;obtain⟨_,h5⟩:=ZE h2;subst h4;subst h5;exact ZDP (ZDM h3)
  ·cases h
 ·split at h
  ·rename_i e;obtain⟨e0,e1,e2⟩:=e;subst e0;subst e1;subst e2;obtain⟨a,h1,h⟩:=yf.1 h;obtain⟨b,h2,h⟩:=yf.1 h;obtain⟨c,h3,rfl⟩:=Zb h;obtain⟨e,h4⟩:=ZE h1;subst e;obtain⟨_,h5⟩:=ZE h2;subst h4;subst h5;rw[TEnt.er,TEnt.er];exact .row ⟨WkL.arr (ZDO (ZtE hL _ _ c h3)),rfl⟩
  ·cases h
 ·cases h;exact .refl _
 ·cases h
theorem ZlH{L M:Lk}(hL:∀id t,ZX L id t none=ZX M id t none):∀{l:List ESh}{H:List TEnt}{q:List TEnt×List TV},ESh.mts L l H=some q→WkH (H.map (TEnt.er L)) (q.1.map (TEnt.er M))
 |[],[],q,h=>by cases h;exact .nil
 |[],_::_,q,h=>by cases h
 |_::_,[],q,h=>by cases h
 |s::r,d::H,q,h=>by
  simp only[ESh.mts] at h;split at h
  ·rename_i a b h1 h2;cases h;exact .cons (ZK4 hL h1) (ZlH hL h2)
  ·cases h
def ofD:(ts:List Ty)→Ty.dens ts→List TV
 |[],_=>[]
 |[t],x=>[⟨t,x⟩]
 |t::u::r,x=>⟨t,x.1⟩::ofD (u::r) x.2
def toD:(ts:List Ty)→List TV→Option (Ty.dens ts)
 |[],[]=>some ()
 |[t],[x]=>Ty.cast x.1 t x.2
 |t::u::r,x::l=>ZmC (Ty.cast x.1 t x.2) (toD (u::r) l)
 |_,_=>none
theorem Zca:∀(ts:List Ty)(l:List TV)(x:Ty.dens ts),toD ts l=some x→ofD ts x=l
 |[],[],x,h=>rfl
 |[],_::_,x,h=>by cases h
 |[t],[],x,h=>by cases h
 |[t],[y],x,h=>by
  obtain⟨e,h2⟩:=Vx (show Ty.cast y.1 t y.2=some x from h)
  obtain⟨u,y⟩:=y;dsimp only at e h2;subst e;subst h2
  rfl
 |[t],_::_::_,x,h=>by cases h
 |t::u::r,[],x,h=>by cases h
 |t::u::r,y::l,x,h=>by
  obtain⟨h1,h2⟩:=Qa (α:=t.den) (β:=Ty.dens (u::r)) (show ZmC (Ty.cast y.1 t y.2) (toD (u::r) l)=some x from h)
  obtain⟨e,h3⟩:=Vx h1;obtain⟨u',y⟩:=y;dsimp only at e h3;subst e;have:=Zca (u::r) l x.2 h2;show(⟨u',x.1⟩:TV)::ofD (u::r) x.2=_;rw[this,h3]
abbrev Slots:=List (Nat×Sh)
def shs(sl:Slots)(n:Nat):List Sh:=(yv n).map λi=>(sl.lookup i).getD .junk
def Vt(n:Nat)(sl:Slots)(es:List ESh)(vs:List TV):Option (List TD×List TEnt):=
 (Sh.fills (shs sl n) vs).bind λq=>(ESh.fills es q.2).bind λw=>if w.2.isEmpty then some (q.1,w.1) else none
theorem ZlI:∀{l:List Sh}{vs:List TV}{q:List TD×List TV},Sh.fills l vs=some q→q.1.length=l.length
 |[],vs,q,h=>by simp only[Sh.fills] at h;cases h;rfl
 |s::r,vs,q,h=>by
  simp only[Sh.fills] at h;obtain⟨a,h1,h⟩:=yf.1 h;obtain⟨b,h2,rfl⟩:=Zb h;simp[ZlI h2]
theorem Zhg{n:Nat}{sl:Slots}{es:List ESh}{vs:List TV}{q:List TD×List TEnt}(h:Vt n sl es vs=some q):q.1.length=n:=by
 unfold Vt at h;obtain⟨a,h1,h⟩:=yf.1 h;obtain⟨b,h2,h⟩:=yf.1 h;split at h
 ·cases h;rw[ZlI h1];simp[shs]
 ·cases h
structure XSh where
 ex:Ex
 sl:Slots
 es:List ESh
 ty:List Ty
def XSh.sum:List XSh→Type
 |[]=>Empty
 |[e]=>Ty.dens e.ty
 |e::f::r=>Ty.dens e.ty⊕XSh.sum (f::r)
abbrev Kc(O:Type):=Ex→List TD→List TEnt→Option O
def xT{O:Type}(n:Nat):(l:List XSh)→XSh.sum l→Kc O→Option O
 |[],_,_=>none
 |[e],o,K=>(Vt n e.sl e.es (ofD e.ty o)).bind λs=>K e.ex s.1 s.2
 |e::f::r,o,K=>match (o:Ty.dens e.ty⊕XSh.sum (f::r)) with
  |.inl o=>(Vt n e.sl e.es (ofD e.ty o)).bind λs=>K e.ex s.1 s.2
  |.inr o=>xT n (f::r) o K
def ZAB:(l:List XSh)→XSh.sum l→XSh→List TV→Prop
 |[],_,_,_=>False
 |[e],o,x,vs=>x=e∧vs=ofD e.ty o
 |e::f::r,o,x,vs=>match (o:Ty.dens e.ty⊕XSh.sum (f::r)) with
  |.inl o=>x=e∧vs=ofD e.ty o
  |.inr o=>ZAB (f::r) o x vs
theorem Zsx{O:Type}{n:Nat}{K:Kc O}{out:O}:∀{l:List XSh}{o:XSh.sum l},xT n l o K=some out→∃e vs s,ZAB l o e vs∧Vt n e.sl e.es vs=some s∧K e.ex s.1 s.2=some out
 |[],_,h=>by cases h
 |[e],o,h=>by
  obtain⟨s,h1,h2⟩:=yf.1 (show(Vt n e.sl e.es (ofD e.ty o)).bind (λs=>K e.ex s.1 s.2)=some out from h)
  exact⟨e,_,s,⟨rfl,rfl⟩,h1,h2⟩
 |e::f::r,.inl o,h=>by
  obtain⟨s,h1,h2⟩:=yf.1 (show(Vt n e.sl e.es (ofD e.ty o)).bind (λs=>K e.ex s.1 s.2)=some out from h)
  exact⟨e,_,s,⟨rfl,rfl⟩,h1,h2⟩
 |e::f::r,.inr o,h=>by
  obtain⟨e',vs,s,h1,h2,h3⟩:=Zsx (l:=f::r) (o:=o) h;exact⟨e',vs,s,h1,h2,h3⟩
mutual
def TD.rn(f:Nat→Option Nat):TD→Option TD
 |.p x=>some (.p x)
 |.elem x=>some (.elem x)
 |.ref id path=>(f id).map λi=>.ref i path
 |.own id nn t c=>(f id).map λi=>.own i nn t c
 |.view id path s lo n=>(f id).map λi=>.view i path s lo n
 |.agg xs=>(TD.rns f xs).map .agg
 |.arr n s xs=>(TD.rns f xs).map (.arr n s)
 |.fn g cap=>(TD.rns f cap).map (.fn g)
 |.iface t x=>(TD.rn f x).map (.iface t)
 |.tup xs=>(TD.rns f xs).map .tup
 |.mp id=>(f id).map .mp
 |.rv id v s lo n=>(f id).map λi=>.rv i v s lo n
 |.rref id v path=>(f id).map λi=>.rref i v path
 |.rw id=>(f id).map .rw
 |.rp id path=>(f id).map λi=>.rp i path
 |.junk=>some .junk
def TD.rns(f:Nat→Option Nat):List TD→Option (List TD)
 |[]=>some []
 |x::r=>match TD.rn f x,TD.rns f r with
  |some y,some ys=>some (y::ys)
  |_,_=>none
end
def TEnt.rn(f:Nat→Option Nat):TEnt→Option TEnt
 |.var d st=>(d.rn f).map λd'=>.var d' st
 |.row v s st e d=>(d.rn f).map λd'=>.row v s st e d'
 |.rowM t np v st e pre d post=>(d.rn f).map λd'=>.rowM t np v st e pre d' post
 |e=>some e
def TEnt.rns(f:Nat→Option Nat):List TEnt→Option (List TEnt)
 |[]=>some []
 |x::r=>match TEnt.rn f x,TEnt.rns f r with
  |some y,some ys=>some (y::ys)
  |_,_=>none
def Rc(f:Nat→Option Nat)(L M:Lk):Prop:=∀id j t,f id=some j→ZX L id t none=ZX M j t none
theorem ZJl{f:Nat→Option Nat}{L M:Lk}(h:Rc f L M){id j:Nat}(e:f id=some j)(t:Ty)(c:Option (List t.den)):ZX L id t c=ZX M j t c:=by
 cases c with
 |none=>exact h id j t e
 |some _=>rfl
mutual
theorem ZeR{f:Nat→Option Nat}{L M:Lk}(h:Rc f L M):∀(d d':TD),d.rn f=some d'→Dv.rn f (d.er L)=some (d'.er M)
 |.p x,d',e=>by cases e;rfl
 |.elem x,d',e=>by cases e;rfl
 |.ref id path,d',e=>by
  obtain⟨i,h1,rfl⟩:=Zb e
  simp only[TD.er,Dv.rn,h1,yab]
 |.own id nn t c,d',e=>by
  obtain⟨i,h1,rfl⟩:=Zb e
  simp only[TD.er,Dv.rn,h1,yab,ZJl h h1]
 |.view id path s lo n,d',e=>by
  obtain⟨i,h1,rfl⟩:=Zb e
  simp only[TD.er,Dv.rn,h1,yab]
 |.agg xs,d',e=>by
  obtain⟨i,h1,rfl⟩:=Zb e
  simp only[TD.er,Dv.rn,rns_er h xs i h1,yab]
 |.arr n s xs,d',e=>by
  obtain⟨i,h1,rfl⟩:=Zb e
  simp only[TD.er,Dv.rn,rns_er h xs i h1,yab]
 |.fn g xs,d',e=>by
  obtain⟨i,h1,rfl⟩:=Zb e
  simp only[TD.er,Dv.rn,rns_er h xs i h1,yab]
 |.iface t x,d',e=>by
  obtain⟨i,h1,rfl⟩:=Zb e
  simp only[TD.er,Dv.rn,ZeR h x i h1,yab]
 |.tup xs,d',e=>by
  obtain⟨i,h1,rfl⟩:=Zb e
  simp only[TD.er,Dv.rn,rns_er h xs i h1,yab]
 |.mp id,d',e=>by
  obtain⟨i,h1,rfl⟩:=Zb e
  simp only[TD.er,Dv.rn,h1,yab]
 |.rv id v s lo n,d',e=>by
  obtain⟨i,h1,rfl⟩:=Zb e
  simp only[TD.er,Dv.rn,h1,yab]
 |.rref id v path,d',e=>by
  obtain⟨i,h1,rfl⟩:=Zb e
  simp only[TD.er,Dv.rn,h1,yab]
 |.rw id,d',e=>by
  obtain⟨i,h1,rfl⟩:=Zb e
  simp only[TD.er,Dv.rn,h1,yab,Zbe,h _ _ _ h1]
 |.rp id path,d',e=>by
  obtain⟨i,h1,rfl⟩:=Zb e
  simp only[TD.er,Dv.rn,h1,yab,Zbe,h _ _ _ h1]
 |.junk,d',e=>by cases e;rfl
theorem rns_er{f:Nat→Option Nat}{L M:Lk}(h:Rc f L M):∀(ds es:List TD),TD.rns f ds=some es→Dv.rns f (TD.ers L ds)=some (TD.ers M es)
 |[],es,e=>by cases e;rfl
 |x::r,es,e=>by
  simp only[TD.rns] at e;split at e
  ·rename_i y ys h1 h2;cases e;simp only[TD.ers,Dv.rns,ZeR h x y h1,rns_er h r ys h2]
  ·cases e
end
theorem ZCw{α:Type}(f:Nat→Option Nat)(g:α→Pl):∀(l:List α)(m:List Dv),Dv.rns f ((l.map λx=>.p (g x))++m)=(Dv.rns f m).map λq=>(l.map λx=>.p (g x))++q
 |[],m=>by cases h:Dv.rns f m <;> simp[h]
 |x::l,m=>by
  rw[yaf,yaa,Dv.rns,Dv.rn,ZCw f g l m];cases Dv.rns f m <;> rfl
theorem ZJm{α β:Type}{f:Nat→Option Nat}{g:α→Pl}{g':β→Pl}{l:List α}{d d':Dv}{m:List β}(h:Dv.rn f d=some d'):
 Dv.rns f ((l.map λx=>.p (g x))++d::m.map λx=>.p (g' x))=some ((l.map λx=>.p (g x))++d'::m.map λx=>.p (g' x)):=by
 have e:=ZCw f g' m [];rw[ybh] at e;rw[ZCw,Dv.rns,h,e];simp[Dv.rns]
theorem ZG7{f:Nat→Option Nat}{L M:Lk}(h:Rc f L M){e e':TEnt}(k:e.rn f=some e'):Ent.rn f (e.er L)=some (e'.er M):=by
 cases e with
 |var d st=>
  obtain⟨i,h1,rfl⟩:=Zb k
  simp only[TEnt.er,Ent.rn,ZeR h d i h1,yab]
 |row v s st e d=>
  obtain⟨i,h1,rfl⟩:=Zb k
  simp only[TEnt.er,Ent.rn,ZeR h d i h1,yab]
 |rowM t np v st e pre d post=>
  obtain⟨i,h1,rfl⟩:=Zb k
  simp only[TEnt.er,Ent.rn,Dv.rn,ZJm (ZeR h d i h1),yab]
 |_=>cases k;rfl
theorem ZDQ{f:Nat→Option Nat}{L M:Lk}(h:Rc f L M):∀(ds es:List TEnt),TEnt.rns f ds=some es→Ent.rns f (ds.map (TEnt.er L))=some (es.map (TEnt.er M))
 |[],es,e=>by cases e;rfl
 |x::r,es,e=>by
  simp only[TEnt.rns] at e;split at e
  ·rename_i y ys h1 h2;cases e;simp only[yaf,Ent.rns,ZG7 h h1,ZDQ h r ys h2]
  ·cases e
theorem ZG8{f:Nat→Option Nat}{e e':TEnt}(k:e.rn f=some e'):lkE (some e')=lkE (some e):=by
 cases e with
 |var d st=>obtain⟨i,h1,rfl⟩:=Zb k;rfl
 |row v s st e d=>obtain⟨i,h1,rfl⟩:=Zb k;rfl
 |rowM t np v st e pre d post=>obtain⟨i,h1,rfl⟩:=Zb k;rfl
 |_=>cases k;rfl
theorem ZAC{f:Nat→Option Nat}:∀{ds es:List TEnt},TEnt.rns f ds=some es→es.length=ds.length∧∀(j:Nat),lkE (es[j]?)=lkE (ds[j]?)
 |[],es,e=>by cases e;exact⟨rfl,λ_=>rfl⟩
 |x::r,es,e=>by
  simp only[TEnt.rns] at e;split at e
  ·rename_i y ys h1 h2;cases e;obtain⟨g1,g2⟩:=ZAC h2;refine⟨by simp[g1],λj=> ?_⟩
   cases j with
   |zero=>exact ZG8 h1
   |succ j=>exact g2 j
  ·cases e
def X6(H:List TEnt)(all:List Nat):List Nat→Option (List TEnt)
 |[]=>some []
 |id::r=>match (H[id]?).bind (TEnt.rn (toIds all)),X6 H all r with
  |some e,some es=>some (e::es)
  |_,_=>none
theorem Zd4{H:List TEnt}{all:List Nat}:∀{ids:List Nat}{Hin:List TEnt},X6 H all ids=some Hin→Hin.length=ids.length∧∀(j id:Nat),ids[j]? =some id→id < H.length∧lkE (Hin[j]?)=lkE (H[id]?)
 |[],Hin,h=>by cases h;exact⟨rfl,λj id e=>by simp at e⟩
 |i::r,Hin,h=>by
  simp only[X6] at h;split at h
  ·rename_i e es h1 h2;cases h;obtain⟨g1,g2⟩:=Zd4 h2;obtain⟨e0,h3,h4⟩:=yf.1 h1;refine⟨by simp[g1],λj id hj=> ?_⟩
   cases j with
   |zero=>
    cases hj
    exact⟨(yp.1 h3).1,by rw[h3];exact ZG8 h4⟩
   |succ j=>exact g2 j id hj
  ·cases h
theorem X0{H:List TEnt}{all:List Nat}{M:Lk}(h:Rc (toIds all) (lk H) M):∀{ids:List Nat}{Hin:List TEnt},X6 H all ids=some Hin→subEnts (erH H) all ids=some (Hin.map (TEnt.er M))
 |[],Hin,e=>by cases e;rfl
 |i::r,Hin,e=>by
  simp only[X6] at e;split at e
  ·rename_i e0 es h1 h2;cases e;obtain⟨e1,h3,h4⟩:=yf.1 h1;simp only[subEnts,ZV h3,yb,ZG7 h h4,X0 h h2,yaf]
  ·cases e
mutual
def TD.lay(L:Lk)(S:List Nat):TD→TD
 |.own id nn t c=>if S.contains id then .own id nn t (some (ZX L id t c)) else .own id nn t c
 |.agg xs=>.agg (TD.lays L S xs)
 |.arr m s xs=>.arr m s (TD.lays L S xs)
 |.fn f xs=>.fn f (TD.lays L S xs)
 |.iface t x=>.iface t (TD.lay L S x)
 |.tup xs=>.tup (TD.lays L S xs)
 |.p x=>.p x
 |.elem x=>.elem x
 |.ref id path=>.ref id path
 |.view id path s lo n=>.view id path s lo n
 |.mp id=>.mp id
 |.rv id v s lo n=>.rv id v s lo n
 |.rref id v path=>.rref id v path
 |.rw id=>if S.contains id then .rv id (Zbe L id 0) (Zbe L id 1) 0 (Zbe L id 2) else .rw id
 |.rp id path=>if S.contains id then .rref id (Zbe L id 0) path else .rp id path
 |.junk=>.junk
def TD.lays(L:Lk)(S:List Nat):List TD→List TD
 |[]=>[]
 |x::r=>TD.lay L S x::TD.lays L S r
end
mutual
def TD.under(n:Nat):TD→Bool
 |.own id _ _ c=>c.isSome || decide (id < n)
 |.rw id=>decide (id < n)
 |.rp id _=>decide (id < n)
 |.agg xs=>TD.unders n xs
 |.arr _ _ xs=>TD.unders n xs
 |.fn _ xs=>TD.unders n xs
 |.iface _ x=>TD.under n x
 |.tup xs=>TD.unders n xs
 |_=>true
def TD.unders(n:Nat):List TD→Bool
 |[]=>true
 |x::r=>TD.under n x&&TD.unders n r
end
def TEnt.lay(L:Lk)(S:List Nat):TEnt→TEnt
 |.var d st=>.var (d.lay L S) st
 |.row v s st e d=>.row v s st e (d.lay L S)
 |.rowM t np v st e pre d post=>.rowM t np v st e pre (d.lay L S) post
 |e=>e
def TEnt.under(n:Nat):TEnt→Bool
 |.var d _=>d.under n
 |.row _ _ _ _ d=>d.under n
 |.rowM _ _ _ _ _ _ d _=>d.under n
 |_=>true
def Lo(S:List Nat)(n:Nat)(L M:Lk):Prop:=∀id t,S.contains id=false→id < n→ZX L id t none=ZX M id t none
mutual
theorem ZtF{L M:Lk}{S:List Nat}{n:Nat}(h:Lo S n L M):∀(d:TD),d.under n=true→(d.lay L S).er M=d.er L
 |.p _,_=>rfl
 |.elem _,_=>rfl
 |.ref _ _,_=>rfl
 |.own id nn t c,hf=>by
  rw[TD.lay];split
  ·rfl
  ·rename_i hn
   cases c with
   |none=>
    have:id < n:=by simpa[TD.under] using hf
    rw[TD.er,TD.er,h id t (by simpa using hn) this]
   |some _=>rfl
 |.view _ _ _ _ _,_=>rfl
 |.agg xs,hf=>by rw[TD.lay,TD.er,TD.er,ers_lay h xs hf]
 |.arr _ _ xs,hf=>by rw[TD.lay,TD.er,TD.er,ers_lay h xs hf]
 |.fn _ xs,hf=>by rw[TD.lay,TD.er,TD.er,ers_lay h xs hf]
 |.iface _ x,hf=>by rw[TD.lay,TD.er,TD.er,ZtF h x hf]
 |.tup xs,hf=>by rw[TD.lay,TD.er,TD.er,ers_lay h xs hf]
 |.mp _,_=>rfl
 |.rv _ _ _ _ _,_=>rfl
 |.rref _ _ _,_=>rfl
 |.rw id,hf=>by
  rw[TD.lay];split
  ·rfl
  ·rename_i hn;have:id < n:=by simpa[TD.under] using hf
   simp only[TD.er,Zbe,h id _ (by simpa using hn) this]
 |.rp id _,hf=>by
  rw[TD.lay];split
  ·rfl
  ·rename_i hn;have:id < n:=by simpa[TD.under] using hf
   simp only[TD.er,Zbe,h id _ (by simpa using hn) this]
 |.junk,_=>rfl
theorem ers_lay{L M:Lk}{S:List Nat}{n:Nat}(h:Lo S n L M):∀(ds:List TD),TD.unders n ds=true→TD.ers M (TD.lays L S ds)=TD.ers L ds
 |[],_=>rfl
 |x::r,hf=>by
  simp only[TD.unders,yi] at hf;rw[TD.lays,TD.ers,TD.ers,ZtF h x hf.1,ers_lay h r hf.2]
end
theorem ZAD{L:Lk}{S:List Nat}:∀(l:List TD),(TD.lays L S l).length=l.length
 |[]=>rfl
 |_::r=>by rw[TD.lays,yad,yad,ZAD r]
theorem ZJn{L M:Lk}{S:List Nat}{n:Nat}(h:Lo S n L M){e:TEnt}(hf:e.under n=true):(e.lay L S).er M=e.er L:=by
 cases e with
 |var d st=>rw[TEnt.lay,TEnt.er,TEnt.er,ZtF h d hf]
 |row v s st e d=>rw[TEnt.lay,TEnt.er,TEnt.er,ZtF h d hf]
 |rowM t np v st e pre d post=>rw[TEnt.lay,TEnt.er,TEnt.er,ZtF h d hf]
 |_=>rfl
theorem ZJo{L:Lk}{S:List Nat}(e:Option TEnt):lkE (e.map (TEnt.lay L S))=lkE e:=by
 cases e with
 |none=>rfl
 |some e=>cases e <;> rfl
theorem Zq8{α β:Type}(f:α→β):∀(ids:List Nat)(A B:List α),(putBack A ids B).map f=putBack (A.map f) ids (B.map f)
 |[],A,B=>by simp[putBack]
 |id::r,A,[]=>by simp[putBack]
 |id::r,A,b::B=>by simp only[putBack,yaf];rw[Zq8 f r,ybf]
def TD.argI(L:Lk)(ids:List Nat):TD→TD
 |.own id nn t c=>if ids.contains id then .own id nn t c else .p (.sl nn t (ZX L id t c))
 |.agg ds=>if TD.ownss ids ds then .agg ds else TD.melt L ds
 |d=>d
theorem Zyp{L:Lk}{ids:List Nat}(d:TD):(d.argI L ids).er L=Dv.argI ids (d.er L):=by
 cases d with
 |own id nn t c=>
  rw[TD.argI,TD.er,Dv.argI]
  split <;> rfl
 |p _=>rfl
 |elem _=>rfl
 |ref _ _=>rfl
 |view _ _ _ _ _=>rfl
 |agg ds=>
  rw[TD.argI,TD.er,Dv.argI,ownss_er];split
  ·rw[TD.er]
  ·exact ZDB _
 |arr _ _ _=>rfl
 |fn _ _=>rfl
 |iface _ _=>rfl
 |tup _=>rfl
 |mp _=>rfl
 |rv _ _ _ _ _=>rfl
 |rref _ _ _=>rfl
 |rw _=>rfl
 |rp _ _=>rfl
 |junk=>rfl
def ZtG(P:yg)(ts:List TD):List ym→List yc→Option (List TD)
 |[],_=>some []
 |_,[]=>some []
 |x::r,t::q=>match arT P ts t x,ZtG P ts r q with
  |some a,some b=>some (a::b)
  |_,_=>none
theorem Zoz{P:yg}{ts:List TD}{L:Lk}(ids:List Nat):∀{l:List ym}{ty:List yc}{ds:List TD},ZtG P ts l ty=some ds→
 ((l.zip ty).map λq=>(Zv P (TD.ers L ts) q.2 q.1).argI ids)=TD.ers L (ds.map (TD.argI L ids))
 |[],ty,ds,h=>by cases h;rfl
 |x::r,[],ds,h=>by cases h;rfl
 |x::r,t::q,ds,h=>by
  simp only[ZtG] at h;split at h
  ·rename_i a b h1 h2;cases h;simp only[List.zip_cons_cons,yaf,TD.ers,Zr (L:=L) h1,Zyp,Zoz ids h2]
  ·cases h
theorem ZDR{L:Lk}(ids:List Nat)(ds:List TD):(TD.ers L ds).map (Dv.argI ids)=TD.ers L (ds.map (TD.argI L ids)):=by
 rw[ZI,ZI,yax,yax];exact ycg λx _=>(Zyp x).symm
structure Fs(P:yg)where
 g:yu
 ps:List Sh
 es:List ESh
 ins:List Ty
 xs:List XSh
 M:Ty.dens ins→Option (XSh.sum xs)
def Fs.Ok{P:yg}(s:Fs P):Prop:=
 ∀x o,s.M x=some o→∃args R H,Sh.fills s.ps (ofD s.ins x)=some (args,R)∧ESh.fills s.es R=some (H,[])∧
  ∀e vs s',ZAB s.xs o e vs→Vt 1 e.sl e.es vs=some s'→∃r,s'.1=[r]∧Con P s.g (TD.ers (lk H) args) (erH H) (r.er (lk s'.2)) (erH s'.2)
def AllOk{P:yg}:List (Fs P)→Prop
 |[]=>True
 |s::r=>s.Ok∧AllOk r
mutual
def Sh.ids:Sh→TD→List (Nat×Nat)
 |.own j _,d=>match d with
  |.own id _ _ none=>[(j,id)]
  |_=>[]
 |.ref j _,d=>match d with
  |.ref id _=>[(j,id)]
  |_=>[]
 |.mp j,d=>match d with
  |.mp id=>[(j,id)]
  |_=>[]
 |.rw j,d=>match d with
  |.rw id=>[(j,id)]
  |_=>[]
 |.rp j _ _,d=>match d with
  |.rp id _=>[(j,id)]
  |_=>[]
 |.view j _ _ _ _,d=>match d with
  |.view id _ _ _ _=>[(j,id)]
  |_=>[]
 |.fn _ l,d=>match d with
  |.fn _ ds=>Sh.idsL l ds
  |_=>[]
 |.agg l,d=>match d with
  |.agg ds=>Sh.idsL l ds
  |_=>[]
 |.arr _ _ l,d=>match d with
  |.arr _ _ ds=>Sh.idsL l ds
  |_=>[]
 |.tup l,d=>match d with
  |.tup ds=>Sh.idsL l ds
  |_=>[]
 |.iface _ x,d=>match d with
  |.iface _ y=>Sh.ids x y
  |_=>[]
 |_,_=>[]
def Sh.idsL:List Sh→List TD→List (Nat×Nat)
 |[],_=>[]
 |s::r,ds=>match ds with
  |d::q=>Sh.ids s d++Sh.idsL r q
  |[]=>[]
end
def ZK5(H:List TEnt):List ESh→Nat→List (Nat×Nat)→List (Nat×Nat)
 |[],_,l=>l
 |e::r,j,l=>ZK5 H r (j+1) (match e,(l.lookup j).bind λid=>Zq5 H id with
  |.var s _,some d=>l++Sh.ids s d
  |_,_=>l)
def ZKd(H:List TEnt)(ps:List Sh)(es:List ESh)(ds:List TD):Option (List Nat):=
 let l:=ZK5 H es 0 (Sh.idsL ps ds)
 (yv es.length).mapM λj=>l.lookup j
def Zyq{P:yg}(s:Fs P)(H:List TEnt)(args:List TD)(ids:List Nat):Option (Ty.dens s.ins):=
 if once ids then(TD.rns (toIds ids) (args.map (TD.argI (lk H) ids))).bind λa2=>(X6 H ids ids).bind λHin=>
  (Sh.mts (lk Hin) s.ps a2).bind λq=>(ESh.mts (lk Hin) s.es Hin).bind λw=>toD s.ins (q.2++w.2)
 else none
theorem QO{H Hin:List TEnt}{ids:List Nat}(h:X6 H ids ids=some Hin):Rc (toIds ids) (lk H) (lk Hin):=by
 intro id j t e;obtain⟨g1,g2⟩:=Zd4 h;have hj:=idxOf?_some e;have:=(g2 j id hj).2;unfold ZX lk;dsimp only;rw[this]
theorem ZJp{P:yg}{s:Fs P}{H:List TEnt}{args:List TD}{ids:List Nat}{x:Ty.dens s.ins}(h:Zyq s H args ids=some x):
 once ids=true∧∃Hin a2 a3 H3 R,X6 H ids ids=some Hin∧subEnts (erH H) ids ids=some (erH Hin)∧Dv.rns (toIds ids) (TD.ers (lk H) (args.map (TD.argI (lk H) ids)))=some (TD.ers (lk Hin) a2)∧
  Sh.fills s.ps (ofD s.ins x)=some (a3,R)∧ESh.fills s.es R=some (H3,[])∧WkL (TD.ers (lk Hin) a2) (TD.ers (lk H3) a3)∧WkH (erH Hin) (erH H3):=by
 unfold Zyq at h;split at h
 ·rename_i ho;obtain⟨a2,h1,h⟩:=yf.1 h;obtain⟨Hin,h2,h⟩:=yf.1 h;obtain⟨q,h3,h⟩:=yf.1 h;obtain⟨w,h4,h⟩:=yf.1 h;obtain⟨g1,g2⟩:=Zhf h4;have e:=Zca _ _ _ h;have hc:∀id t,ZX (lk Hin) id t none=ZX (lk w.1) id t none:=λid t=>by rw[g2]
  refine⟨ho,Hin,a2,q.1,w.1,w.2,h2,X0 (QO h2) h2,rns_er (QO h2) _ _ h1, ?_, ?_,mts_wk hc _ _ _ h3,ZlH hc h4⟩
  ·rw[e];exact mts_fills _ _ _ h3 _
  ·have:=Q8 h4 []
   rwa [ybh] at this
 ·cases h
section
variable{P:yg}{o:Oper}{ts all:List TD}{H:List TEnt}{O:Type}{K:Kn O}{out:O}
def ZJq(all:List TD)(H:List TEnt)(K:Kn O)(ids:List Nat)(r:TD)(Hn:List TEnt):Option O:=
 if(ids.isEmpty&&Hn.isEmpty)=true then(r.rn λ_=>none).bind λr'=>K all r' H [.call (r.er (lk [])) [] []] 0 else
 (r.rn (fromIds ids H.length)).bind λr'=>(TEnt.rns (fromIds ids H.length) Hn).bind λHb=>
   if(decide (ids.length≤Hn.length)&&TD.unders H.length all&&H.all (TEnt.under H.length))=true then
    K (TD.lays (lk H) ids all) r' (putBack (H.map (TEnt.lay (lk H) ids)) ids Hb) [.call (r.er (lk Hn)) (erH Hn) ids] 2
   else none
def ZtH(s:Fs P)(all:List TD)(H:List TEnt)(K:Kn O)(args:List TD)(ids:List Nat)(x:Ty.dens s.ins):Option O:=
 (s.M x).bind λy=>xT 1 s.xs y λ_ rs Hn=>match rs with
   |[r]=>ZJq all H K ids r Hn
   |_=>none
def ZAE(g:yu)(all:List TD)(H:List TEnt)(K:Kn O)(args:List TD)(other:Option O):List (Fs P)→Option O
 |[]=>other
 |s::rest=>if s.g=g then match (ZKd H s.ps s.es args).bind λids=>(Zyq s H args ids).map λx=>(ids,x) with
   |some q=>ZtH s all H K args q.1 q.2
   |none=>ZAE g all H K args other rest
  else ZAE g all H K args other rest
mutual
def Sh.exD:Sh→TD→Bool
 |.v t,d=>match d with
  |.p (.v u _)=>match Ty.dec u t with
   |isTrue _=>true
   |isFalse _=>false
  |_=>false
 |.own _ _,d=>match d with
  |.own _ none _ none=>true
  |_=>false
 |.ref _ _,d=>match d with
  |.ref _ _=>true
  |_=>false
 |.mp _,d=>match d with
  |.mp _=>true
  |_=>false
 |.rw _,d=>match d with
  |.rw _=>true
  |_=>false
 |.agg l,d=>match d with
  |.agg ds=>Sh.exDs l ds
  |_=>false
 |.arr _ _ l,d=>match d with
  |.arr _ _ ds=>Sh.exDs l ds
  |_=>false
 |.ptr0,_=>true
 |.fn0,_=>true
 |.if0,_=>true
 |.map0,_=>true
 |_,_=>false
def Sh.exDs:List Sh→List TD→Bool
 |[],[]=>true
 |s::r,d::q=>Sh.exD s d&&Sh.exDs r q
 |_,_=>false
end
theorem ZMV{L:Lk}{t:Ty}{d:TD}{q:TD×List TV}(h:Sh.exD (.v t) d=true)(k:Sh.mt L (.v t) d=some q):q.1=d:=by
 unfold Sh.exD at h;split at h
 ·rename_i u y;split at h
  ·rename_i e _;subst e;unfold Sh.mt TD.toT TP.to at k;dsimp only at k;rw[YP,yab] at k;cases k;rfl
  ·cases h
 ·cases h
theorem ZK6{L:Lk}{j:Nat}{t:Ty}{d:TD}{q:TD×List TV}(h:Sh.exD (.own j t) d=true)(k:Sh.mt L (.own j t) d=some q):q.1=d:=by
 unfold Sh.exD at h;split at h
 ·unfold Sh.mt at k;dsimp only at k;split at k
  ·rename_i e;obtain⟨rfl,rfl⟩:=e;cases k;rfl
  ·cases k
 ·cases h
theorem ZK7{L:Lk}{j:Nat}{p:List Stp}{d:TD}{q:TD×List TV}(h:Sh.exD (.ref j p) d=true)(k:Sh.mt L (.ref j p) d=some q):q.1=d:=by
 unfold Sh.exD at h;split at h
 ·unfold Sh.mt at k;dsimp only at k;split at k
  ·rename_i e;obtain⟨rfl,e2⟩:=e;have:=ZeQ e2;subst this;cases k;rfl
  ·cases k
 ·cases h
theorem ZL8{L:Lk}{j:Nat}{d:TD}{q:TD×List TV}(h:Sh.exD (.mp j) d=true)(k:Sh.mt L (.mp j) d=some q):q.1=d:=by
 unfold Sh.exD at h;split at h
 ·unfold Sh.mt at k;dsimp only at k;split at k
  ·rename_i e;subst e;cases k;rfl
  ·cases k
 ·cases h
theorem ZL9{L:Lk}{j:Nat}{d:TD}{q:TD×List TV}(h:Sh.exD (.rw j) d=true)(k:Sh.mt L (.rw j) d=some q):q.1=d:=by
 unfold Sh.exD at h;split at h
 ·unfold Sh.mt at k;dsimp only at k;split at k
  ·rename_i e;subst e;cases k;rfl
  ·cases k
 ·cases h
mutual
theorem ZKe{L:Lk}:∀(s:Sh)(d:TD)(q:TD×List TV),Sh.exD s d=true→Sh.mt L s d=some q→q.1=d
 |.v t,d,q,h,k=>ZMV h k
 |.own j t,d,q,h,k=>ZK6 h k
 |.ref j p,d,q,h,k=>ZK7 h k
 |.mp j,d,q,h,k=>ZL8 h k
 |.rw j,d,q,h,k=>ZL9 h k
 |.agg l,.agg ds,q,h,k=>by
  have k:(Sh.mts L l ds).map (λq=>(TD.agg q.1,q.2))=some q:=by unfold Sh.mt at k;exact k
  have h:Sh.exDs l ds=true:=by unfold Sh.exD at h;exact h
  obtain⟨w,k1,k2⟩:=Zb k;rw[←k2]
  exact congrArg TD.agg (exs_mts l ds w h k1)
 |.arr n s l,.arr m s2 ds,q,h,k=>by
  have k:(if m=n∧s2=s then(Sh.mts L l ds).map (λq=>(TD.arr n s q.1,q.2)) else none)=some q:=by unfold Sh.mt at k;exact k
  have h:Sh.exDs l ds=true:=by unfold Sh.exD at h;exact h
  split at k
  ·rename_i e;obtain⟨w,k1,k2⟩:=Zb k;rw[←k2,e.1,e.2];exact congrArg (TD.arr n s) (exs_mts l ds w h k1)
  ·cases k
 |.ptr0,d,q,h,k=>by
  unfold Sh.mt at k
  split at k <;> first|(cases k;rfl)|cases k
 |.fn0,d,q,h,k=>by
  unfold Sh.mt at k
  split at k <;> first|(cases k;rfl)|cases k
 |.if0,d,q,h,k=>by
  unfold Sh.mt at k
  split at k <;> first|(cases k;rfl)|cases k
 |.map0,d,q,h,k=>by
  unfold Sh.mt at k;split at k <;> first|(cases k;rfl)|cases k
theorem exs_mts{L:Lk}:∀(l:List Sh)(ds:List TD)(q:List TD×List TV),Sh.exDs l ds=true→Sh.mts L l ds=some q→q.1=ds
 |[],[],q,_,k=>by
  simp only[Sh.mts] at k;cases k
  rfl
 |[],_::_,_,h,_=>by cases h
 |_::_,[],_,h,_=>by cases h
 |s::r,d::ds,q,h,k=>by
  simp only[Sh.exDs,yi] at h;simp only[Sh.mts] at k;split at k
  ·rename_i a b k1 k2;cases k;rw[ZKe s d a h.1 k1,exs_mts r ds b h.2 k2]
  ·cases k
end
def ESh.exE:ESh→TEnt→Bool
 |.var s st,.var d st'=>(st==st')&&s.exD d
 |.log t _,.log u _ _=>match Ty.dec u t with
  |isTrue _=>true
  |isFalse _=>false
 |.gone,.gone=>true
 |_,_=>false
theorem ZK8{L:Lk}{s:ESh}{d:TEnt}{q:TEnt×List TV}(h:s.exE d=true)(k:s.mt L d=some q):q.1=d:=by
 unfold ESh.exE at h;split at h
 ·simp only[yi,beq_iff_eq] at h;obtain⟨rfl,h⟩:=h;simp only[ESh.mt] at k;split at k
  ·obtain⟨w,k1,rfl⟩:=Zb k;show TEnt.var w.1 _=_;rw[ZKe _ _ w h k1]
  ·cases k
 ·split at h
  ·rename_i e _;subst e;simp only[ESh.mt] at k;split at k
   ·rename_i e;subst e;obtain⟨w,k1,rfl⟩:=Zb k;obtain⟨e1,e2⟩:=ZE k1;cases e1;subst e2;rfl
   ·cases k
  ·cases h
 ·simp only[ESh.mt] at k;cases k;rfl
 ·cases h
def ESh.exs:List ESh→List TEnt→Bool
 |[],[]=>true
 |s::r,d::q=>s.exE d&&ESh.exs r q
 |_,_=>false
theorem ZAF{L:Lk}:∀{l:List ESh}{ds:List TEnt}{q:List TEnt×List TV},ESh.exs l ds=true→ESh.mts L l ds=some q→q.1=ds
 |[],[],q,_,k=>by
  simp only[ESh.mts] at k;cases k
  rfl
 |[],_::_,_,h,_=>by cases h
 |_::_,[],_,h,_=>by cases h
 |s::r,d::ds,q,h,k=>by
  simp only[ESh.exs,yi] at h;simp only[ESh.mts] at k;split at k
  ·rename_i a b k1 k2;cases k;rw[ZK8 h.1 k1,ZAF h.2 k2]
  ·cases k
structure Rs(P:yg)where
 g:yu
 ps:List Sh
 es:List ESh
 ins:List Ty
 r:Sh
 t:List Ty
 M:Ty.dens ins→Option (Ty.dens t)
def Rs.Ok{P:yg}(s:Rs P):Prop:=
 ∀x o,s.M x=some o→∃args R H,Sh.fills s.ps (ofD s.ins x)=some (args,R)∧ESh.fills s.es R=some (H,[])∧
  ∀q,Sh.fill s.r (ofD s.t o)=some q→Con P s.g (TD.ers (lk H) args) (erH H) (q.1.er (lk H)) (erH H)
def AllRo{P:yg}:List (Rs P)→Prop
 |[]=>True
 |s::r=>s.Ok∧AllRo r
mutual
theorem Zsy{f g:Nat→Option Nat}(hfg:∀i j,f i=some j→g j=some i):∀(d d':Dv),d.rn f=some d'→d'.rn g=some d
 |.p x,d',h=>by cases h;rfl
 |.elem x,d',h=>by cases h;rfl
 |.ref id o p,d',h=>by
  simp only[Dv.rn,yo] at h;obtain⟨i,h1,rfl⟩:=h
  simp only[Dv.rn,hfg _ _ h1,yab]
 |.own id nn s xs,d',h=>by
  simp only[Dv.rn,yo] at h;obtain⟨i,h1,rfl⟩:=h
  simp only[Dv.rn,hfg _ _ h1,yab]
 |.view id o p s lo n,d',h=>by
  simp only[Dv.rn,yo] at h;obtain⟨i,h1,rfl⟩:=h
  simp only[Dv.rn,hfg _ _ h1,yab]
 |.agg xs,d',h=>by
  simp only[Dv.rn,yo] at h;obtain⟨i,h1,rfl⟩:=h
  simp only[Dv.rn,rns_back hfg _ _ h1,yab]
 |.arr n s xs,d',h=>by
  simp only[Dv.rn,yo] at h;obtain⟨i,h1,rfl⟩:=h
  simp only[Dv.rn,rns_back hfg _ _ h1,yab]
 |.fn k xs,d',h=>by
  simp only[Dv.rn,yo] at h;obtain⟨i,h1,rfl⟩:=h
  simp only[Dv.rn,rns_back hfg _ _ h1,yab]
 |.iface t x,d',h=>by
  simp only[Dv.rn,yo] at h;obtain⟨i,h1,rfl⟩:=h
  simp only[Dv.rn,Zsy hfg _ _ h1,yab]
 |.tup xs,d',h=>by
  simp only[Dv.rn,yo] at h;obtain⟨i,h1,rfl⟩:=h
  simp only[Dv.rn,rns_back hfg _ _ h1,yab]
 |.mp id,d',h=>by
  simp only[Dv.rn,yo] at h;obtain⟨i,h1,rfl⟩:=h
  simp only[Dv.rn,hfg _ _ h1,yab]
 |.rv id v s lo n,d',h=>by
  simp only[Dv.rn,yo] at h;obtain⟨i,h1,rfl⟩:=h
  simp only[Dv.rn,hfg _ _ h1,yab]
 |.rref id v o p,d',h=>by
  simp only[Dv.rn,yo] at h;obtain⟨i,h1,rfl⟩:=h
  simp only[Dv.rn,hfg _ _ h1,yab]
 |.junk,d',h=>by cases h;rfl
theorem rns_back{f g:Nat→Option Nat}(hfg:∀i j,f i=some j→g j=some i):∀(d d':List Dv),Dv.rns f d=some d'→Dv.rns g d'=some d
 |[],d',h=>by cases h;rfl
 |x::r,d',h=>by
  simp only[Dv.rns] at h;split at h
  ·rename_i y ys h1 h2;cases h;simp only[Dv.rns,Zsy hfg x y h1,rns_back hfg r ys h2]
  ·cases h
end
theorem ZG9{f g:Nat→Option Nat}(hfg:∀i j,f i=some j→g j=some i){e e':Ent}(h:e.rn f=some e'):e'.rn g=some e:=by
 cases e with
 |var d st=>
  simp only[Ent.rn,yo] at h;obtain⟨y,h1,rfl⟩:=h
  simp only[Ent.rn,Zsy hfg _ _ h1,yab]
 |row v s st t d=>
  simp only[Ent.rn,yo] at h;obtain⟨y,h1,rfl⟩:=h
  simp only[Ent.rn,Zsy hfg _ _ h1,yab]
 |log _ _ _=>cases h;rfl
 |map _ _=>cases h;rfl
 |gone=>cases h;rfl
theorem ZHa{H:List Ent}{ids:List Nat}{Hin:List Ent}(ho:once ids=true)(h:subEnts H ids ids=some Hin):∃Hb,Ent.rns (fromIds ids H.length) Hin=some Hb∧putBack H ids Hb=H:=by
 have hfg:∀i j,toIds ids i=some j→fromIds ids H.length j=some i:=by
  intro i j e;have hj:=idxOf?_some e;unfold fromIds;rw[if_pos (yp.1 hj).1,hj]
 have key:∀(l:List Nat)(A:List Ent),subEnts H ids l=some A→∃B,Ent.rns (fromIds ids H.length) A=some B∧B.length=l.length∧∀(j id:Nat),l[j]? =some id→B[j]? =H[id]? ∧id < H.length:=by
  intro l
  induction l with
  |nil=>
   intro A hA;simp only[subEnts,yj] at hA;subst hA
   exact⟨[],rfl,rfl,λj id hj=>by simp at hj⟩
  |cons x r ih=>
   intro A hA;simp only[subEnts] at hA;split at hA
   ·rename_i e es h1 h2;cases hA;obtain⟨B,b1,b2,b3⟩:=ih es h2;obtain⟨e0,g1,g2⟩:=yf.1 h1;refine⟨e0::B, ?_,by simp[b2],λj id hj=> ?_⟩
    ·simp only[Ent.rns,ZG9 hfg g2,b1]
    ·cases j with
     |zero=>
      simp only[ybk,yj] at hj;subst hj
      exact⟨by rw[ybk,g1],(yp.1 g1).1⟩
     |succ j=>exact b3 j id (by simpa using hj)
   ·cases hA
 obtain⟨Hb,b1,b2,b3⟩:=key ids Hin h
 have hlt:∀i,i∈ids→i < H.length:=λi hi=>by
  obtain⟨j,hj⟩:=List.getElem?_of_mem hi;exact(b3 j i hj).2
 refine⟨Hb,b1, ?_⟩;have hle:ids.length≤Hb.length:=by omega
 apply ybl;intro i;have hlen:(putBack H ids Hb).length=H.length:=by rw[Zaz _ _ _ hle];omega
 by_cases hi:i < H.length
 ·by_cases hm:i∈ids
  ·obtain⟨j,hj⟩:=List.getElem?_of_mem hm;rw[ZeJ H ids Hb j i ho hle hlt hj,(b3 j i hj).1]
  ·exact Vw H ids Hb i hle hi hm
 ·rw[yao (by omega),yao (by omega)]
structure Sp(P:yg)where
 l:List (Fs P):=[]
 hd:(O:Type)→yu→List TD→List TEnt→(TD→List TEnt→Option O)→Option O:=λ_ _ _ _ _=>none
 mt:List (yc×String×yu):=[]
 ro:List (Rs P):=[]
def HdOk(P:yg)(hd:(O:Type)→yu→List TD→List TEnt→(TD→List TEnt→Option O)→Option O):Prop:=
 ∀(O:Type)(g:yu)(args:List TD)(H:List TEnt)(K:TD→List TEnt→Option O)(out:O),hd O g args H K=some out→
  ∃r H',K r H'=some out∧Con P g (TD.ers (lk H) args) (erH H) (r.er (lk H')) (erH H')
def MtOk(P:yg):List (yc×String×yu)→Prop
 |[]=>True
 |q::r=>ZEI P q.1 q.2.1 q.2.2∧MtOk P r
def ZHb:List (yc×String×yu)→yc→String→Option yu
 |[],_,_=>none
 |q::r,t,n=>if q.1=t then if q.2.1=n then some q.2.2 else ZHb r t n else ZHb r t n
theorem Zyr:∀{l:List (yc×String×yu)}{t:yc}{n:String}{g:yu},MtOk P l→ZHb l t n=some g→ZEI P t n g
 |[],_,_,_,_,h=>by cases h
 |q::r,t,n,g,hk,h=>by
  unfold ZHb at h;split at h
  ·rename_i e1;split at h
   ·rename_i e2;cases h;rw[←e1, ←e2];exact hk.1
   ·exact Zyr hk.2 h
  ·exact Zyr hk.2 h
structure SpOk(s:Sp P):Prop where
 l:AllOk s.l
 hd:HdOk P s.hd
 mt:MtOk P s.mt
 ro:AllRo s.ro
theorem ZDS:HdOk P (λ_ _ _ _ _=>none):=λ_ _ _ _ _ _ h=>by cases h
theorem okS{l:List (Fs P)}(h:AllOk l):SpOk ({ l:=l}:Sp P):=⟨h,ZDS,trivial,trivial⟩
theorem okR{l:List (Fs P)}{mt:List (yc×String×yu)}{ro:List (Rs P)}(h:AllOk l)(k:MtOk P mt)(r:AllRo ro):SpOk ({ l:=l,mt:=mt,ro:=ro}:Sp P):=⟨h,ZDS,k,r⟩
mutual
def TD.look:TD→List Nat
 |.ref id _=>[id]
 |.own id _ _ _=>[id]
 |.view id _ _ _ _=>[id]
 |.mp id=>[id]
 |.rv id _ _ _ _=>[id]
 |.rref id _ _=>[id]
 |.rw id=>[id]
 |.rp id _=>[id]
 |.agg xs=>TD.looks xs
 |.arr _ _ xs=>TD.looks xs
 |.fn _ xs=>TD.looks xs
 |.iface _ x=>TD.look x
 |.tup xs=>TD.looks xs
 |_=>[]
def TD.looks:List TD→List Nat
 |[]=>[]
 |x::r=>TD.look x++TD.looks r
end
def TEnt.look:TEnt→List Nat
 |.var d _=>d.look
 |.row _ _ _ _ d=>d.look
 |.rowM _ _ _ _ _ _ d _=>d.look
 |_=>[]
def Zq9(h:List TEnt):Nat→List Nat→List Nat→List Nat
 |0,_,got=>got
 |_+1,[],got=>got
 |k+1,id::r,got=>if got.contains id then Zq9 h k r got else Zq9 h k (((h[id]?).map TEnt.look).getD []++r) (id::got)
def inT(sp:Sp P)(g:yu)(all:List TD)(H:List TEnt)(K:Kn O)(args:List TD):Option O:=
 let ids:=Zq9 H 100000 (TD.looks args) []
 if once ids then(TD.rns (toIds ids) (args.map (TD.argI (lk H) ids))).bind λa2=>(X6 H ids ids).bind λHin=>
  sp.hd O g a2 Hin λr Hn=>ZJq all H K ids r Hn
 else none
def ZDT(g:yu)(all:List TD)(H:List TEnt)(K:Kn O)(args:List TD)(other:Option O):List (Rs P)→Option O
 |[]=>other
 |s::rest=>if s.g=g then(ZKd H s.ps s.es args).bind λids=>(X6 H ids ids).bind λHin=>if(once ids&& !ids.isEmpty&&ESh.exs s.es Hin)=true then
   (TD.rns (toIds ids) (args.map (TD.argI (lk H) ids))).bind λa2=>(Sh.mts (lk Hin) s.ps a2).bind λq=>(ESh.mts (lk Hin) s.es Hin).bind λw=>(toD s.ins (q.2++w.2)).bind λx=>
     (s.M x).bind λy=>(Sh.fill s.r (ofD s.t y)).bind λq=>(q.1.rn λ_=>none).bind λr'=>K all r' H [.call (q.1.er (lk Hin)) (erH Hin) ids] 3
   else none
  else ZDT g all H K args other rest
def ZHc(sp:Sp P)(g:yu)(all:List TD)(H:List TEnt)(K:Kn O)(args:List TD):Option O:=ZDT g all H K args (ZAE g all H K args (inT sp g all H K args) sp.l) sp.ro
structure CallOk(P:yg)(g:yu)(all args:List TD)(H:List TEnt)(a':List TD)(d:TD)(H':List TEnt)(hs:List Hint)(cls:Nat):Prop where
 same:TD.ers (lk H') a'=TD.ers (lk H) all
 len:a'.length=all.length
 op:∃(ids:List Nat)(Hin Hn Hb:List Ent)(az:List Dv)(r:Dv),once ids=true∧ids.length≤Hn.length∧subEnts (erH H) ids ids=some Hin∧
  Dv.rns (toIds ids) (TD.ers (lk H) (args.map (TD.argI (lk H) ids)))=some az∧Con P g az Hin r Hn∧r.rn (fromIds ids H.length)=some (d.er (lk H'))∧Ent.rns (fromIds ids H.length) Hn=some Hb∧
  erH H'=putBack (erH H) ids Hb∧hs=[.call r Hn ids]∧(cls=2∧¬(ids=[]∧Hn=[])∨(cls=3∧erH H'=erH H∧¬(ids=[]∧Hn=[]))∨cls=0∧ids=[]∧Hn=[]∧H'=H∧a'=all∧r=d.er (lk H')∧r.rn (λ_=>none)=some r)
theorem ZwK{g:yu}{args:List TD}{ids:List Nat}{Hin:List TEnt}{az:List Dv}{r4:TD}{Hn:List TEnt}(honce:once ids=true)(p1:X6 H ids ids=some Hin)(p2:subEnts (erH H) ids ids=some (erH Hin))
 (p3:Dv.rns (toIds ids) (TD.ers (lk H) (args.map (TD.argI (lk H) ids)))=some az) (hcon':Con P g az (erH Hin) (r4.er (lk Hn)) (erH Hn)) (h9:ZJq all H K ids r4 Hn=some out):
 ∃a d H' hs c,K a d H' hs c=some out∧CallOk P g all args H a d H' hs c:=by
 unfold ZJq at h9;split at h9
 ·rename_i hem;rw[yi] at hem;have i1:ids=[]:=by simpa using hem.1
  have i2:Hn=[]:=by simpa using hem.2
  subst i1;subst i2;obtain⟨r',hr',h9⟩:=yf.1 h9;have f1:=ZeR (L:=lk []) (M:=lk H) (λid j t e=>by cases e) _ _ hr';have f2:=Q6 (f:=λ_=>none) _ _ f1;have f3:r4.er (lk [])=r'.er (lk H):=Option.some.inj (f2.symm.trans f1);have hin0:Hin=[]:=by cases p1;rfl
  subst hin0;refine⟨_,_,_,_,_,h9,rfl,rfl,[],[],[],[],az,r4.er (lk []),rfl,yn _,rfl,p3,hcon', ?_,rfl, ?_,rfl,.inr (.inr ⟨rfl,rfl,rfl,rfl,rfl,f3,f2⟩)⟩
  ·rw[←f3];exact Q6 _ _ f1
  ·rw[ZqX]
 rename_i hne;obtain⟨r',hr',h9⟩:=yf.1 h9;obtain⟨Hb,hHb,h9⟩:=yf.1 h9;obtain⟨hk,h9⟩:=Za h9;simp only[yi,decide_eq_true_eq] at hk;obtain⟨⟨k1,k2⟩,k3⟩:=hk;obtain⟨b1,b2⟩:=ZAC hHb;obtain⟨s1,s2⟩:=Zd4 p1
 have hlt:∀i,i∈ids→i < H.length:=λi hi=>by
  obtain⟨j,hj⟩:=List.getElem?_of_mem hi;exact(s2 j i hj).1
 have hlo:Lo ids H.length (lk H) (lk (putBack (H.map (TEnt.lay (lk H) ids)) ids Hb)):=by
  intro id t hn hl;unfold ZX lk;dsimp only
  rw[Vw _ _ _ id (by rw[b1];exact k1) (by rw[yz];exact hl) (λhm=>by
   rw[List.contains_eq_any_beq] at hn;simp at hn;exact hn id hm rfl),yah,ZJo]
 have hrc:Rc (fromIds ids H.length) (lk Hn) (lk (putBack (H.map (TEnt.lay (lk H) ids)) ids Hb)):=by
  intro j i t e
  have key:lk (putBack (H.map (TEnt.lay (lk H) ids)) ids Hb) i=lk Hn j:=by
   show lkE ((putBack (H.map (TEnt.lay (lk H) ids)) ids Hb)[i]?)=lkE (Hn[j]?);rw[←b2 j];unfold fromIds at e;split at e
   ·rw[ZeJ _ _ _ j i honce (by rw[b1];exact k1) (λi hi=>by rw[yz];exact hlt i hi) e]
   ·rename_i hj;cases e;have:=ZfU (H.map (TEnt.lay (lk H) ids)) ids Hb j (by rw[b1];exact k1) (by omega);rw[yz] at this;rw[this]
  unfold ZX;rw[key]
 have e2:(putBack (H.map (TEnt.lay (lk H) ids)) ids Hb).map (TEnt.er (lk (putBack (H.map (TEnt.lay (lk H) ids)) ids Hb)))=putBack (erH H) ids (Hb.map (TEnt.er (lk (putBack (H.map (TEnt.lay (lk H) ids)) ids Hb)))):=by
  rw[Zq8,yax];congr 1;refine ycg λe he=> ?_;exact ZJn hlo (yba.1 k3 e he)
 have f1:=ZeR hrc _ _ hr';have f2:=ZDQ hrc _ _ hHb;refine⟨_,_,_,_,_,h9,ers_lay hlo all k2,ZAD all,ids,erH Hin,erH Hn,_,az,r4.er (lk Hn),honce,by rw[ZM];exact k1,p2,p3,hcon',f1,f2,e2,rfl,.inl ⟨rfl,λhh=>hne ?_⟩⟩;have i2:Hn=[]:=by have:=hh.2;unfold erH at this;simpa using this
 rw[i2,hh.1];rfl
theorem ZvC{args:List TD}{s:Fs P}{ids:List Nat}{x:Ty.dens s.ins}(ok:s.Ok)(hp:Zyq s H args ids=some x)(h:ZtH s all H K args ids x=some out):
 ∃a d H' hs c,K a d H' hs c=some out∧CallOk P s.g all args H a d H' hs c:=by
 unfold ZtH at h;obtain⟨y,hM,h0⟩:=yf.1 h;obtain⟨e,vs,s',hsel,hfs,h9⟩:=Zsx h0;clear h0 h;obtain⟨honce,Hin,a2,a3,H3,R,p1,p2,p3,p4,p5,p6,p7⟩:=ZJp hp;obtain⟨args,R1,H4,q1,q2,hcon⟩:=ok x y hM;obtain⟨r4,hr4,hcon⟩:=hcon e vs s' hsel hfs;rw[hr4] at h9;dsimp only at h9;rw[p4] at q1;cases q1;rw[p5] at q2;cases q2;generalize s'.2=Hn at h9 hcon;exact ZwK honce p1 p2 p3 (ZDs hcon p6 p7) h9
theorem Znu{g:yu}{args:List TD}{other:Option O}(ho:other=some out→∃a d H' hs c,K a d H' hs c=some out∧CallOk P g all args H a d H' hs c):∀{l:List (Fs P)},AllOk l→ZAE g all H K args other l=some out→
 ∃a d H' hs c,K a d H' hs c=some out∧CallOk P g all args H a d H' hs c
 |[],_,h=>ho h
 |s::r,ok,h=>by
  unfold ZAE at h;split at h
  ·rename_i hg;split at h
   ·rename_i q hq;obtain⟨ids,h1,hq⟩:=yf.1 hq;obtain⟨x,h2,rfl⟩:=Zb hq;exact hg ▸ ZvC ok.1 h2 h
   ·exact Znu ho ok.2 h
  ·exact Znu ho ok.2 h
theorem ZHd{sp:Sp P}{g:yu}{args:List TD}(ok:SpOk sp)(h:inT sp g all H K args=some out):∃a d H' hs c,K a d H' hs c=some out∧CallOk P g all args H a d H' hs c:=by
 unfold inT at h;dsimp only at h;generalize Zq9 H 100000 (TD.looks args) []=ids at h;obtain⟨ho,h⟩:=Za h;obtain⟨a2,h1,h⟩:=yf.1 h;obtain⟨Hin,h2,h⟩:=yf.1 h;obtain⟨r,Hn,h3,h4⟩:=ok.hd _ _ _ _ _ _ h;exact ZwK ho h2 (X0 (QO h2) h2) (rns_er (QO h2) _ _ h1) h4 h3
theorem ZtI{g:yu}{args:List TD}{other:Option O}(ho:other=some out→∃a d H' hs c,K a d H' hs c=some out∧CallOk P g all args H a d H' hs c):∀{l:List (Rs P)},AllRo l→ZDT g all H K args other l=some out→
 ∃a d H' hs c,K a d H' hs c=some out∧CallOk P g all args H a d H' hs c
 |[],_,h=>ho h
 |s::r,ok,h=>by
  unfold ZDT at h;split at h
  ·rename_i hg;obtain⟨ids,_,h⟩:=yf.1 h;obtain⟨Hin,h2,h⟩:=yf.1 h;obtain⟨hk,h⟩:=Za h;simp only[yi,Bool.not_eq_true',List.isEmpty_eq_false_iff] at hk;obtain⟨⟨k1,k2⟩,k3⟩:=hk;obtain⟨a2,h3,h⟩:=yf.1 h;obtain⟨q,h4,h⟩:=yf.1 h;obtain⟨⟨w1,w2⟩,h5,h⟩:=yf.1 h;obtain⟨x,h6,h⟩:=yf.1 h;obtain⟨y,h7,h⟩:=yf.1 h;obtain⟨z,h8,h⟩:=yf.1 h;obtain⟨r',h9,h⟩:=yf.1 h;have hw:w1=Hin:=ZAF k3 h5;subst hw;obtain⟨az,R,H3,q1,q2,hcon⟩:=ok.1 x y h7;have e:=Zca _ _ _ h6;rw[e,mts_fills _ _ _ h4 _] at q1;cases q1;have q3:=Q8 h5 [];rw[ybh] at q3;rw[q3] at q2;cases q2;have hcon:=hcon z h8;have p2:=X0 (QO h2) h2;have p3:=rns_er (QO h2) _ _ h3;have hcon:=ZDs hcon (mts_wk (λ_ _=>rfl) _ _ _ h4) (WkH.refl _);have f1:=ZeR (f:=λ_=>none) (L:=lk w1) (M:=lk H) (λid j t e=>by cases e) _ _ h9;have f2:=Q6 (f:=λ_=>none) _ _ f1;have f3:z.1.er (lk w1)=r'.er (lk H):=Option.some.inj (f2.symm.trans f1);obtain⟨Hb,b1,b2⟩:=ZHa k1 p2;have hlen:=(Zd4 h2).1;refine⟨_,_,_,_,_,h,rfl,rfl,ids,erH w1,erH w1,Hb,TD.ers (lk w1) a2,z.1.er (lk w1),k1,by rw[ZM];omega,p2,p3,hg ▸ hcon, ?_,by rw[←ZM H];exact b1,b2.symm,rfl,.inr (.inl ⟨rfl,rfl,λhh=>k2 hh.1⟩)⟩;rw[←f3];exact Q6 _ _ f1
  ·exact ZtI ho ok.2 h
theorem ZAG{sp:Sp P}{g:yu}{args:List TD}(ok:SpOk sp)(h:ZHc sp g all H K args=some out):∃a d H' hs c,K a d H' hs c=some out∧CallOk P g all args H a d H' hs c:=
 ZtI (λh=>Znu (λh=>ZHd ok h) ok.l h) ok.ro h
theorem ZFl{c:Call}{f:ym}{g:yu}{cap az:List TD}{a:List TD}{d:TD}{H':List TEnt}{hs:List Hint}{cls:Nat}(ho:o.op=.call c)(hc:c.callee=.value f)(hf:arT P ts 0 f=some (.fn g cap))
 (hb:(ZbG P (ZhS g)&&c.args.size==c.argTypes.size)=true) (ha:ZtG P ts c.args.toList c.argTypes.toList=some az) (h:CallOk P (ZhS g) all (if g < big then az++cap else cap++az) H a d H' hs cls):Good P o ts all H a d H' hs cls:=by
 have hfv:=Zr (L:=lk H) hf;obtain⟨ids,Hin,Hn,Hb,az',r,honce,hle,p2,p3,hcon,f1,f2,e2,rfl,hcl⟩:=h.op
 have ea:Y5 P ids (TD.ers (lk H) ts) c g (TD.ers (lk H) cap)=TD.ers (lk H) ((if g < big then az++cap else cap++az).map (TD.argI (lk H) ids)):=by
  unfold Y5;split
  ·rw[Zoz ids ha,ZDR,yar,ZI,ZI,ZI,yar]
  ·rw[Zoz ids ha,ZDR,yar,ZI,ZI,ZI,yar]
 have ge:¬(ids=[]∧Hn=[])→GoodE P o ts H d H' [.call r Hn ids]:=λhne=>by
  refine⟨λrest=> ?_,λrest=> ?_,[Con P (ZhS g) az' Hin r Hn],⟨hcon,trivial⟩,λrest=> ?_⟩
  ·unfold evN;rw[ho];dsimp only;rw[hc];dsimp only;rw[hfv];dsimp only[TD.er];rw[yaa,yw];split
   ·rename_i e1 e2;exfalso;simp only[List.cons.injEq,Hint.call.injEq] at e2;exact hne ⟨e2.1.2.2,e2.1.2.1⟩
   ·rename_i e2;cases e2
   ·rfl
  ·unfold evR;rw[ho];dsimp only;rw[hc]
  ·unfold evE;rw[ho];dsimp only;rw[hc];dsimp only;rw[hfv];dsimp only[TD.er];rw[yaa,yw];dsimp only;rw[if_pos (by simp only[yi,decide_eq_true_eq] at hb ⊢;exact⟨⟨hb,honce⟩,hle⟩)];rw[ea,p3,p2,ZM,f1,f2];dsimp only;rw[e2]
 rcases hcl with⟨rfl,hne⟩|⟨rfl,hsm,hne⟩|⟨rfl,rfl,rfl,rfl,rfl,rfl,hrn⟩
 ·exact⟨h.same,h.len,or3 ⟨rfl,ge hne⟩⟩
 ·exact⟨h.same,h.len,.inr (.inr (.inr ⟨rfl,hsm,ge hne⟩))⟩
 ·refine⟨h.same,h.len,.inl ⟨rfl,rfl,[Con P (ZhS g) az' [] (d.er (lk H')) []],⟨?_,trivial⟩,λrest=> ?_⟩⟩
  ·cases p2;exact hcon
  ·unfold evN;rw[ho];dsimp only;rw[hc];dsimp only;rw[hfv];dsimp only[TD.er];rw[yaa,yw];dsimp only;rw[if_pos hb,ea, ←Znj,p3,Znj,hrn]
theorem ZFm{c:Call}{recv:ym}{name:String}{t:yc}{x:TD}{g:yu}{az:List TD}{a:List TD}{d:TD}{H':List TEnt}{hs:List Hint}{cls:Nat}(ho:o.op=.call c)(hc:c.callee=.invoke recv name)(hf:arT P ts 0 recv=some (.iface t x))
 (hm:ZEI P t name g) (hb:(ZbG P g&&c.args.size==c.argTypes.size)=true) (ha:ZtG P ts c.args.toList c.argTypes.toList=some az) (h:CallOk P g all (x::az) H a d H' hs cls):Good P o ts all H a d H' (.meth g::hs) 2:=by
 have hfv:=Zr (L:=lk H) hf;obtain⟨ids,Hin,Hn,Hb,az',r,honce,hle,p2,p3,hcon,f1,f2,e2,rfl,hcl⟩:=h.op
 have ea:(x.er (lk H)).argI ids::Y5 P ids (TD.ers (lk H) ts) c 0 []=TD.ers (lk H) ((x::az).map (TD.argI (lk H) ids)):=by
  unfold Y5;rw[if_pos (by decide),Zoz ids ha,List.map_nil,ybh,yaf,TD.ers,Zyp]
 refine⟨h.same,h.len,or3 (⟨rfl,λrest=> ?_,λrest=> ?_,[ZEI P t name g,Con P g az' Hin r Hn],⟨hm,hcon,trivial⟩,λrest=> ?_⟩)⟩
 ·unfold evN;rw[ho];dsimp only;rw[hc]
 ·unfold evR;rw[ho];dsimp only;rw[hc]
 ·unfold evE;rw[ho];dsimp only;rw[hc];dsimp only;rw[hfv];dsimp only[TD.er];rw[yaa,yaa,yw];dsimp only;rw[if_pos (by simp only[yi,decide_eq_true_eq] at hb ⊢;exact⟨⟨hb,honce⟩,hle⟩)];rw[ea,p3,p2,ZM,f1,f2];dsimp only;rw[e2]
end
end Go.Ev
end
section
namespace Go.Ev
section
variable{P:yg}{o:Oper}{ts all:List TD}{H:List TEnt}{O:Type}{K:Kn O}{out:O}
def TD.isView:TD→Bool
 |.view _ _ _ _ _=>true
 |_=>false
def TD.isNilSl:TD→Bool
 |.p (.sl (some false) _ [])=>true
 |_=>false
def TD.isRef:TD→Bool
 |.ref _ _=>true
 |_=>false
def TD.isRref:TD→Bool
 |.rref _ _ _=>true
 |_=>false
def TD.isRv:TD→Bool
 |.rv _ _ _ _ _=>true
 |_=>false
def ZJr(a:TD)(lo hi:Option Int):Bool:=
 match a with
 |.rv _ _ _ _ n=> !Zat n lo hi
 |_=>false
def TD.isOwn:TD→Bool
 |.own _ _ _ _=>true
 |_=>false
def TD.isMp:TD→Bool
 |.mp _=>true
 |_=>false
def ZoA(l:List Tmp):Option Tmp→Bool
 |some t=>l.contains t
 |none=>false
def Zkf(P:yg)(o:Oper)(ts all:List TD)(H:List TEnt)(K:Kn O):Option O:=opN (lk H) P o ts λd hs=>K all d H hs 0
theorem WL(h:Zkf P o ts all H K=some out):∃a d H' hs c,K a d H' hs c=some out∧Good P o ts all H a d H' hs c:=by
 obtain⟨d,hs,h1,h2⟩:=ZGP h;exact⟨_,_,_,_,_,h1,rfl,rfl,.inl ⟨rfl,rfl,h2⟩⟩
def ZDU(P:yg)(hi:HI)(o:Oper)(x:ym)(asg:Bool)(ts all:List TD)(H:List TEnt)(K:Kn O):Option O:=
 match o.dst,arT P ts o.type x with
 |some t,some d=>if hi.still.contains t&&(d.isView || d.isRv) then Zx9 t all H K d else if hi.still.contains t&&d.isRw then Zye t all H K d else if asg&&(hi.rowt.contains t&&d.isNilSl) then Zyg P o.type t all H K d else if asg&&(hi.own.contains t&&d.isNilSl) then ZCh P o.type t all H K d else Zkf P o ts all H K
 |_,_=>Zkf P o ts all H K
def TD.numI(d:TD):Option Num:=
 match d.num with
 |some a=>if a.k=.i64 then some a else none
 |none=>none
def opT(P:yg)(hi:HI)(specs:Sp P)(o:Oper)(ts all:List TD)(H:List TEnt)(K:Kn O):Option O:=
 if rnT P hi o ts H=true then ZKZ P hi o ts all H K else
 match o.op with
 |.move x=>ZDU P hi o x false ts all H K
 |.assign x=>ZDU P hi o x true ts all H K
 |.slice t x lo h none=>if ZoA hi.frz o.dst then(arT P ts t x).bind λa=>(ZfH P ts lo).bind λl=>(ZfH P ts h).bind λr=>ZKX P t l r all H K a
  else(arT P ts t x).bind λa=>(ZfH P ts lo).bind λl=>(ZfH P ts h).bind λr=>if(ZoA hi.rowt o.dst&&a.isRw)=true then ZtC P t l r all H K a else if ZJr a l r=true then ZCf P t l r all H K a else Zkf P o ts all H K
 |.load t x=>(arT P ts 0 x).bind λd=>if d.isRef || d.isRref then ZGS P t all H K d else if d.isRp then ZCq P t all H K d else Zkf P o ts all H K
 |.lookup t x ix ok=>(arT P ts t x).bind λd=>ZxT P t all H ok K (λkt=>arT P ts kt ix) d
 |.makeMap t none=>Zty P t all H K
 |.makeSlice t l c=>((arT P ts 0 l).bind TD.numI).bind λn=>((arT P ts 0 c).bind TD.numI).bind λn'=>if ZoA hi.rowt o.dst then ZCt P t n.n n'.n all H K else Znr P t (ZoA hi.own o.dst) (ZoA hi.row o.dst) n.n n'.n all H K
 |.mapUpdate t x k v=>(arT P ts t x).bind λd=>ZxX P t all H K (λkt=>arT P ts kt k) (λet=>arT P ts et v) d
 |.alloc t=>ZCi P hi o.dst t all H K
 |.box t x=>(arT P ts t x).bind (ZKW hi o.dst all H K)
 |.store t x y=>(arT P ts 0 x).bind λa=>(arT P ts t y).bind λv=>if a.isRp then Zyc P t all H K v a else ZCj P (ZL5 hi x) t all H K v a
 |.buildSlice t len parts=>if ZoA hi.rowt o.dst then(match (o.dst.bind λd=>hi.rew.lookup d).bind λs=>all[s]? with
  |some (.rw id)=>ZCs P ts t len parts.toList id all H K
  |_=>ZG1 P ts t len parts.toList all H K) else if ZoA hi.row o.dst then(if ZL6 P ts t (lk H) parts.toList=true then Zx3 P ts t len parts.toList all H K else ZtA P ts t len parts.toList all H K) else if ZoA hi.own o.dst then Zx5 P ts t len parts.toList all H K else Zkf P o ts all H K
 |.indexAddr t x ix=>(arT P ts t x).bind λa=>if a.isRw then(arT P ts 0 ix).bind λb=>b.inner.bind λip=>(Ztp ip).bind λq=>Zya P t q.2 all H K a else Zkf P o ts all H K
 |.call c=>match c.callee with
  |.builtin .len=>match c.args.toList,c.argTypes.toList with
   |[x],[t]=>(arT P ts t x).bind λd=>if d.isMp then ZxV P t all H K d else if d.isRw then ZG0 P t all H K d else Zkf P o ts all H K
   |_,_=>none
  |.builtin .append=>match c.args.toList,c.argTypes.toList with
   |[x,y],[t,u]=>(arT P ts t x).bind λa=>(arT P ts u y).bind λb=>if a.isRw || (a.isNilSl&&ZoA hi.rowt o.dst) then ZtB P true t u all H K b a else if a.isOwn || a.isRv || (a.isNilSl&&(ZoA hi.own o.dst || ZoA hi.row o.dst)) then Zx7 P (ZoA hi.own o.dst) (ZoA hi.row o.dst) t u all H K b (if hi.eqs=true then ZCl H a else a) else Zkf P o ts all H K
   |_,_=>none
  |.builtin .copy=>match c.args.toList,c.argTypes.toList with
   |[x,y],[t,u]=>(arT P ts t x).bind λa=>(arT P ts u y).bind λb=>ZGZ P t u all H K b a
   |_,_=>none
  |.builtin .clear=>match c.args.toList,c.argTypes.toList with
   |[x],[t]=>(arT P ts t x).bind λa=>ZCm P t all H K a
   |_,_=>none
  |.builtin .delete=>match c.args.toList,c.argTypes.toList with
   |[x,y],[t,u]=>(arT P ts t x).bind λa=>ZxZ P t all H K (arT P ts u y) a
   |_,_=>none
  |.value f=>match arT P ts 0 f with
   |some (.fn g cap)=>if(ZbG P (ZhS g)&&c.args.size==c.argTypes.size)=true then(ZtG P ts c.args.toList c.argTypes.toList).bind λaz=>ZHc specs (ZhS g) all H K (if g < big then az++cap else cap++az) else Zkf P o ts all H K
   |_=>none
  |.invoke recv name=>match arT P ts 0 recv with
   |some (.iface t x)=>(ZHb specs.mt t name).bind λg=>if(ZbG P g&&c.args.size==c.argTypes.size)=true then(ZtG P ts c.args.toList c.argTypes.toList).bind λaz=>ZHc specs g all H (λa d H' hs _=>K a d H' (.meth g::hs) 2) (x::az) else none
   |_=>none
  |_=>none
 |_=>Zkf P o ts all H K
theorem Zam{d:TD}{n:Num}(h:d.numI=some n):d.num=some n∧n.k=.i64:=by
 unfold TD.numI at h;split at h
 ·rename_i a hn;split at h
  ·rename_i e;cases h;exact⟨hn,e⟩
  ·cases h
 ·cases h
theorem ZtJ{hi:HI}{x:ym}{asg:Bool}(ho:if asg=true then o.op=.assign x else o.op=.move x)(h:ZDU P hi o x asg ts all H K=some out):∃a d H' hs c,K a d H' hs c=some out∧Good P o ts all H a d H' hs c:=by
 unfold ZDU at h;split at h
 ·rename_i t d hd hx;split at h
  ·refine ZAr (x:=x) ?_ hd hx h;cases asg
   ·exact .inr ho
   ·exact .inl ho
  split at h
  ·refine Zyf (x:=x) ?_ hd hx h;cases asg
   ·exact .inr ho
   ·exact .inl ho
  split at h
  ·rename_i ha;rw[yi] at ha;rw[if_pos ha.1] at ho;exact Zyh ho hd hx h
  ·split at h
   ·rename_i ha;rw[yi] at ha;rw[if_pos ha.1] at ho;exact ZAk ho hd hx h
   ·exact WL h
 ·exact WL h
theorem ZtK{hi:HI}{specs:Sp P}(ok:SpOk specs)(h:opT P hi specs o ts all H K=some out):∃a d H' hs c,K a d H' hs c=some out∧Good P o ts all H a d H' hs c:=by
 unfold opT at h;split at h
 ·exact ZFk h
 split at h
 ·rename_i x ho;exact ZtJ (asg:=false) ho h
 ·rename_i x ho;exact ZtJ (asg:=true) ho h
 ·rename_i t x lo hi' ho;split at h
  ·obtain⟨a,h1,h⟩:=yf.1 h;obtain⟨l,h2,h⟩:=yf.1 h;obtain⟨r,h3,h⟩:=yf.1 h;exact ZFi ho h1 h2 h3 h
  ·obtain⟨a,h1,h⟩:=yf.1 h;obtain⟨l,h2,h⟩:=yf.1 h;obtain⟨r,h3,h⟩:=yf.1 h;split at h
   ·exact ZvA ho h1 h2 h3 h
   split at h
   ·exact ZAh ho h1 h2 h3 h
   ·exact WL h
 ·rename_i t x ho;obtain⟨d,h1,h⟩:=yf.1 h;split at h
  ·exact ZCe ho h1 h
  split at h
  ·exact ZAs ho h1 h
  ·exact WL h
 ·rename_i t x ix okk ho;obtain⟨d,h1,h⟩:=yf.1 h;exact ZxU ho h1 h
 ·rename_i t ho;exact Zvx ho h
 ·rename_i t l c ho;obtain⟨n,h1,h⟩:=yf.1 h;obtain⟨n',h2,h⟩:=yf.1 h;obtain⟨d1,g1,g2⟩:=yf.1 h1;obtain⟨d2,g3,g4⟩:=yf.1 h2;split at h
  ·exact ZAv ho (by rw[g1];exact(Zam g2).1) (by rw[g3];exact(Zam g4).1) (Zam g2).2 (Zam g4).2 h
  exact ZrS ho (by rw[g1];exact(Zam g2).1) (by rw[g3];exact(Zam g4).1) (Zam g2).2 (Zam g4).2 h
 ·rename_i t x k v ho;obtain⟨d,h1,h⟩:=yf.1 h;exact ZxY ho h1 h
 ·rename_i t ho;exact ZAm ho h
 ·rename_i t x ho;obtain⟨d,h1,h⟩:=yf.1 h;exact ZFg ho h1 h
 ·rename_i t x y ho;obtain⟨a,h1,h⟩:=yf.1 h;obtain⟨v,h2,h⟩:=yf.1 h;split at h
  ·exact Zyd ho h1 h2 h
  ·exact ZAn ho h1 h2 h
 ·rename_i t len parts ho;split at h
  ·split at h
   ·exact ZAu ho h
   ·exact ZCr ho h
  split at h
  ·split at h
   ·exact Zx4 ho h
   ·exact Zvy ho h
  split at h
  ·exact Zx6 ho h
  ·exact WL h
 ·rename_i t x ix ho;obtain⟨a,h1,h⟩:=yf.1 h;split at h
  ·obtain⟨b,h2,h⟩:=yf.1 h;obtain⟨ip,h3,h⟩:=yf.1 h;obtain⟨q,h4,h⟩:=yf.1 h;rw[YJ h3] at h2;exact Zyb ho h1 h2 h4 h
  ·exact WL h
 ·rename_i c ho;split at h
  ·rename_i hc;split at h
   ·rename_i x t ha ht;obtain⟨d,h1,h⟩:=yf.1 h;split at h
    ·exact ZxW ho hc ha ht h1 h
    split at h
    ·exact ZCp ho hc ha ht h1 h
    ·exact WL h
   ·cases h
  ·rename_i hc;split at h
   ·rename_i x y t u ha ht;obtain⟨a,h1,h⟩:=yf.1 h;obtain⟨b,h2,h⟩:=yf.1 h;split at h
    ·exact Zvz ho hc ha ht (Zr h1) h2 h
    split at h
    ·refine Zx8 ho hc ha ht ?_ h2 h;split
     ·rw[ZFh];exact Zr h1
     ·exact Zr h1
    ·exact WL h
   ·cases h
  ·rename_i hc;split at h
   ·rename_i x y t u ha ht;obtain⟨a,h1,h⟩:=yf.1 h;obtain⟨b,h2,h⟩:=yf.1 h;exact ZCn ho hc ha ht h1 h2 h
   ·cases h
  ·rename_i hc;split at h
   ·rename_i x t ha ht;obtain⟨a,h1,h⟩:=yf.1 h;exact ZAp ho hc ha ht h1 h
   ·cases h
  ·rename_i hc;split at h
   ·rename_i x y t u ha ht;obtain⟨a,h1,h⟩:=yf.1 h;exact Zx0 ho hc ha ht h1 h
   ·cases h
  ·rename_i f hc;split at h
   ·rename_i g cap hf;split at h
    ·rename_i hb;obtain⟨az,h1,h⟩:=yf.1 h;obtain⟨a,d,H',hs,cc,k1,k2⟩:=ZAG ok h;exact⟨a,d,H',hs,cc,k1,ZFl ho hc hf hb h1 k2⟩
    ·exact WL h
   ·cases h
  ·rename_i recv name hc;split at h
   ·rename_i t x hf;obtain⟨g,hg,h⟩:=yf.1 h;obtain⟨hb,h⟩:=Za h;obtain⟨az,h1,h⟩:=yf.1 h;obtain⟨a,d,H',hs,cc,k1,k2⟩:=ZAG ok h;exact⟨a,d,H',_,_,k1,ZFm ho hc hf (Zyr ok.mt hg) hb h1 k2⟩
   ·cases h
  ·cases h
 ·exact WL h
def ZCx(ops:Array Oper)(j:Nat):Option Tmp:=(ops[j]?).bind (·.dst)
def ZvD(b:Bool):TD:=.p (.v .bool b)
def ZHe:TD→Bool
 |.tup []=>true
 |_=>false
def gT(P:yg)(hi:HI)(specs:Sp P)(ops:Array Oper)(o:Oper)(ts all:List TD)(H:List TEnt)(K:Kn O):Option O:=
 match o.guard with
 |none=>opT P hi specs o ts all H K
 |some (j,want)=>(ZCx ops j).bind λt=>match (ts.getD t .junk).boolT with
  |some b=>
   if b=true then
    if true=want then opT P hi specs o (ts.set t (ZvD true)) (all.set t (ZvD true)) H λa d H' hs c=>K a d H' (.b true::hs) c
    else K (all.set t (ZvD true)) (.tup []) H [.b true] 0
   else
    if false=want then opT P hi specs o (ts.set t (ZvD false)) (all.set t (ZvD false)) H λa d H' hs c=>K a d H' (.b false::hs) c
    else K (all.set t (ZvD false)) (.tup []) H [.b false] 0
  |none=>if ZHe (ts.getD t .junk) then K all (.tup []) H [.raw] 0 else none
structure GoodG(P:yg)(ops:Array Oper)(o:Oper)(ts all:List TD)(H:List TEnt)(all':List TD)(d:TD)(H':List TEnt)(hs:List Hint)(cls:Nat):Prop where
 same:TD.ers (lk H') all'=TD.ers (lk H) all
 len:all'.length=all.length
 op:∃C,AllP C∧∀rest,evG P ops o (TD.ers (lk H) ts) (erH H) (hs++rest)=some (C,d.er (lk H'),erH H',rest)
 sam:cls=3→erH H'=erH H
 cls:∀rest,clsOf P o (TD.ers (lk H) ts) (erH H) (hs++rest)≤cls
theorem Zys{d:TD}{a:List TD}{H':List TEnt}{hs:List Hint}{c:Nat}(h:Good P o ts all H a d H' hs c):∃C,AllP C∧(∀rest,ZhT P o (TD.ers (lk H) ts) (erH H) (hs++rest)=some (C,d.er (lk H'),erH H',rest))∧
 ∀rest,(if(evN P o (TD.ers (lk H) ts) (hs++rest)).isSome then 0 else if(evR P o (TD.ers (lk H) ts) (erH H) (hs++rest)).isSome then 1 else 2)≤c:=by
 rcases h.op with⟨rfl,rfl,C,h1,h2⟩|⟨rfl,rfl,h0,C,h1,h2⟩|⟨rfl,h0,h00,C,h1,h2⟩|⟨rfl,_,h0,h00,C,h1,h2⟩
 ·exact⟨C,h1,λrest=>by unfold ZhT;rw[h2 rest],λrest=>by rw[h2 rest];simp⟩
 ·exact⟨C,h1,λrest=>by unfold ZhT;rw[h0 rest];dsimp only;rw[h2 rest],λrest=>by rw[h0 rest,h2 rest];simp⟩
 ·exact⟨C,h1,λrest=>by unfold ZhT;rw[h0 rest];dsimp only;rw[h00 rest];exact h2 rest,λrest=>by rw[h0 rest,h00 rest];simp⟩
 ·exact⟨C,h1,λrest=>by unfold ZhT;rw[h0 rest];dsimp only;rw[h00 rest];exact h2 rest,λrest=>by rw[h0 rest,h00 rest];simp⟩
theorem ZtL{d:TD}{a:List TD}{H':List TEnt}{hs:List Hint}{c:Nat}(h:Good P o ts all H a d H' hs c)(hc:c=3):erH H'=erH H:=by
 subst hc;rcases h.op with⟨e,_⟩|⟨e,_⟩|⟨e,_⟩|⟨_,e,_⟩
 ·cases e
 ·cases e
 ·cases e
 ·exact e
theorem ZAH{l:List TD}{t:Nat}{b:Bool}(h:(l.getD t .junk).boolT=some b):l.getD t .junk=ZvD b:=by
 unfold TD.boolT at h;split at h
 ·rename_i x hx;unfold TP.boolB at h;split at h
  ·cases h;exact hx
  ·cases h
 ·cases h
theorem ZeS{l:List TD}{t:Nat}{d:TD}(h:l.getD t .junk=d):(l.set t d)=l:=by
 apply ybl;intro i;rw[List.getElem?_set];split
 ·rename_i e;subst e;split
  ·rename_i hl;rw[←h,yct,yac hl];rfl
  ·rename_i hl;rw[yao (by omega)]
 ·rfl
theorem ZDV{hi:HI}{specs:Sp P}{ops:Array Oper}(ok:SpOk specs)(hg:∀j want t,o.guard=some (j,want)→ZCx ops j=some t→ts.getD t .junk=all.getD t .junk)(h:gT P hi specs ops o ts all H K=some out):
 ∃a d H' hs c,K a d H' hs c=some out∧GoodG P ops o ts all H a d H' hs c:=by
 unfold gT at h;split at h
 ·rename_i hgd;obtain⟨a,d,H',hs,c,h1,h2⟩:=ZtK ok h;obtain⟨C,g1,g2,g3⟩:=Zys h2;refine⟨a,d,H',hs,c,h1,h2.same,h2.len,⟨C++[],Zk.2 ⟨g1,trivial⟩,λrest=> ?_⟩,ZtL h2,λrest=> ?_⟩
  ·unfold evG;rw[hgd];dsimp only;rw[g2 rest];rfl
  ·unfold clsOf;rw[hgd];exact g3 rest
 ·rename_i j want hgd;obtain⟨t,ht,h9⟩:=yf.1 h;clear h;have eall:=hg j want t hgd ht
  have eslot:((ops[j]?).bind (·.dst)).map (λt=>(TD.ers (lk H) ts).getD t .junk)=some ((ts.getD t .junk).er (lk H)):=by
   rw[show(ops[j]?).bind (·.dst)=some t from ht,yab,Zom]
  split at h9
  ·rename_i b hb;have e1:=ZAH hb;have e2:all.getD t .junk=ZvD b:=by rw[←eall];exact e1
   have e3:(ts.getD t .junk).er (lk H)=.p (.bool b):=Zhc hb;split at h9
   ·rename_i hbt;subst hbt;rw[ZeS e1,ZeS e2] at h9;split at h9
    ·rename_i hw;subst hw;obtain⟨a,d,H',hs,c,h1,h2⟩:=ZtK ok h9;obtain⟨C,g1,g2,g3⟩:=Zys h2;refine⟨a,d,H',_,c,h1,h2.same,h2.len,⟨(true=true)::C++[],Zk.2 ⟨⟨rfl,g1⟩,trivial⟩,λrest=> ?_⟩,ZtL h2,λrest=> ?_⟩
     ·unfold evG;rw[hgd];dsimp only;rw[eslot,e3];simp only[yaa,if_true,g2 rest];rfl
     ·unfold clsOf;rw[hgd];simp only[yaa,if_true];exact g3 rest
    ·rename_i hw;refine⟨_,_,_,_,_,h9,rfl,rfl,⟨[true=true],⟨rfl,trivial⟩,λrest=> ?_⟩,λ_=>rfl,λrest=> ?_⟩
     ·unfold evG;rw[hgd];dsimp only;rw[eslot,e3];simp only[yaa,yw,if_neg hw];rfl
     ·unfold clsOf;rw[hgd];simp only[yaa,if_neg hw];exact yn _
   ·rename_i hbt;have hbt:b=false:=by simpa using hbt
    subst hbt;rw[ZeS e1,ZeS e2] at h9;split at h9
    ·rename_i hw;subst hw;obtain⟨a,d,H',hs,c,h1,h2⟩:=ZtK ok h9;obtain⟨C,g1,g2,g3⟩:=Zys h2;refine⟨a,d,H',_,c,h1,h2.same,h2.len,⟨(false=false)::C++[],Zk.2 ⟨⟨rfl,g1⟩,trivial⟩,λrest=> ?_⟩,ZtL h2,λrest=> ?_⟩
     ·unfold evG;rw[hgd];dsimp only;rw[eslot,e3];simp only[yaa,if_true,g2 rest];rfl
     ·unfold clsOf;rw[hgd];simp only[yaa,if_true];exact g3 rest
    ·rename_i hw;refine⟨_,_,_,_,_,h9,rfl,rfl,⟨[false=false],⟨rfl,trivial⟩,λrest=> ?_⟩,λ_=>rfl,λrest=> ?_⟩
     ·unfold evG;rw[hgd];dsimp only;rw[eslot,e3];simp only[yaa,yw,if_neg hw];rfl
     ·unfold clsOf;rw[hgd];simp only[yaa,if_neg hw];exact yn _
  ·obtain⟨h1,h9⟩:=Za h9
   have e3:(ts.getD t .junk).er (lk H)=.tup []:=by
    unfold ZHe at h1;split at h1
    ·rename_i hx;rw[hx];rfl
    ·cases h1
   refine⟨_,_,_,_,_,h9,rfl,rfl,⟨[],trivial,λrest=> ?_⟩,λ_=>rfl,λrest=> ?_⟩
   ·unfold evG;rw[hgd];dsimp only;rw[eslot,e3];rfl
   ·unfold clsOf;rw[hgd];exact yn _
def ZwL(ts:List TD)(dst:Option Tmp)(d:TD):List TD:=
 match dst with
 |some i=>ts.set i d
 |none=>ts
theorem ZAI{L:Lk}(dst:Option Tmp)(d:TD):TD.ers L (ZwL ts dst d)=Zjp (TD.ers L ts) dst (d.er L):=by
 cases dst with
 |none=>rfl
 |some i=>simp only[ZwL,Zjp,ZI,ybf]
theorem ZwM(dst:Option Tmp)(d:TD):(ZwL ts dst d).length=ts.length:=by
 cases dst <;> simp[ZwL]
def ZCy(P:yg)(hi:HI)(specs:Sp P)(ops:Array Oper):List Oper→List TD→List TEnt→(List TD→List TEnt→List Hint→Option O)→Option O
 |[],all,H,K=>K all H []
 |o::r,all,H,K=>gT P hi specs ops o all all H λa d H' hs _=>ZCy P hi specs ops r (ZwL a o.dst d) H' λa' h' hs'=>K a' h' (hs++hs')
theorem Zp5{hi:HI}{specs:Sp P}{ops:Array Oper}(ok:SpOk specs):∀(l:List Oper)(all:List TD)(H:List TEnt)(K:List TD→List TEnt→List Hint→Option O),ZCy P hi specs ops l all H K=some out→
 ∃a h hs C,K a h hs=some out∧a.length=all.length∧AllP C∧∀rest,ZmA P ops l (TD.ers (lk H) all) (erH H) (hs++rest)=some (C,TD.ers (lk h) a,erH h,rest)
 |[],all,H,K,h=>⟨all,H,[],[],h,rfl,trivial,λ_=>rfl⟩
 |o::r,all,H,K,h=>by
  unfold ZCy at h;obtain⟨a,d,H',hs,c,h1,h2⟩:=ZDV ok (λ_ _ _ _ _=>rfl) h;obtain⟨a',h',hs',C',k1,k0,k2,k3⟩:=Zp5 ok r _ _ _ h1;obtain⟨C,g1,g2⟩:=h2.op;refine⟨a',h',_,C++C',k1,by rw[k0,ZwM,h2.len],Zk.2 ⟨g1,k2⟩,λrest=> ?_⟩;unfold ZmA;rw[yak,g2 (hs'++rest)];dsimp only;rw[←h2.same, ←ZAI,k3 rest]
end
end Go.Ev
end
section
namespace Go.Ev
section
variable{P:yg}{o:Oper}{ts all:List TD}{H:List TEnt}{O:Type}{out:O}
def ZiZ(keep:List Nat):Nat→List TD→List TD
 |_,[]=>[]
 |i,d::r=>(if keep.contains i then d else .junk)::ZiZ keep (i+1) r
theorem ZoB{L:Lk}(keep:List Nat):∀(l:List TD)(k:Nat),TD.ers L (ZiZ keep k l)=ZQ keep k (TD.ers L l)
 |[],_=>rfl
 |d::r,k=>by
  rw[ZiZ,TD.ers,TD.ers,ZQ,ZoB keep r];split <;> rfl
theorem ZwN(keep:List Nat):∀(l:List TD)(k t:Nat),keep.contains (k+t)=true→(ZiZ keep k l).getD t .junk=l.getD t .junk
 |[],_,_,_=>rfl
 |d::r,k,0,h=>by
  have h':keep.contains k=true:=h
  simp only[ZiZ,h',if_true,List.getD_cons_zero]
 |d::r,k,t+1,h=>by
  simp only[ZiZ,List.getD_cons_succ];exact ZwN keep r (k+1) t (by rw[show k+1+t=k+(t+1) by omega];exact h)
mutual
def Pl.sameB:Pl→Pl→Bool
 |.int k n,.int l m=>decide (k=l)&&decide (n=m)
 |.bool a,.bool b=>a==b
 |.str a,.str b=>decide (a=b)
 |.ptr0,.ptr0=>true
 |.fn0,.fn0=>true
 |.if0,.if0=>true
 |.map0,.map0=>true
 |.fnv f,.fnv g=>Nat.beq f g
 |.agg xs,.agg ys=>Pl.samesB xs ys
 |.arr n s xs,.arr m u ys=>Nat.beq n m&&Nat.beq s u&&Pl.samesB xs ys
 |.sl a s xs,.sl b u ys=>a==b&&Nat.beq s u&&Pl.samesB xs ys
 |.iface t x,.iface u y=>Nat.beq t u&&Pl.sameB x y
 |_,_=>false
def Pl.samesB:List Pl→List Pl→Bool
 |[],[]=>true
 |x::r,y::q=>Pl.sameB x y&&Pl.samesB r q
 |_,_=>false
end
mutual
theorem Pl.sameB_eq:∀(a b:Pl),Pl.sameB a b=true→a=b
 |.int k n,b,h=>by cases b <;> simp_all[Pl.sameB]
 |.bool k,b,h=>by cases b <;> simp_all[Pl.sameB]
 |.str k,b,h=>by cases b <;> simp_all[Pl.sameB]
 |.ptr0,b,h=>by cases b <;> simp_all[Pl.sameB]
 |.fn0,b,h=>by cases b <;> simp_all[Pl.sameB]
 |.if0,b,h=>by cases b <;> simp_all[Pl.sameB]
 |.map0,b,h=>by cases b <;> simp_all[Pl.sameB]
 |.fnv f,b,h=>by cases b <;> simp_all[Pl.sameB]
 |.agg xs,b,h=>by cases b <;> simp_all[Pl.sameB];exact Pl.samesB_eq _ _ h
 |.arr n s xs,b,h=>by cases b <;> simp_all[Pl.sameB];exact Pl.samesB_eq _ _ h.2
 |.sl n s xs,b,h=>by cases b <;> simp_all[Pl.sameB];exact Pl.samesB_eq _ _ h.2
 |.iface t x,b,h=>by cases b <;> simp_all[Pl.sameB];exact Pl.sameB_eq _ _ h.2
theorem Pl.samesB_eq:∀(a b:List Pl),Pl.samesB a b=true→a=b
 |[],[],_=>rfl
 |[],_::_,h=>by cases h
 |_::_,[],h=>by cases h
 |x::r,y::q,h=>by
  simp only[Pl.samesB,yi] at h;rw[Pl.sameB_eq x y h.1,Pl.samesB_eq r q h.2]
end
def ZwO:List Nat→List Nat→Bool
 |[],[]=>true
 |x::r,y::q=>Nat.beq x y&&ZwO r q
 |_,_=>false
theorem ZoC:∀(a b:List Nat),ZwO a b=true→a=b
 |[],[],_=>rfl
 |[],_::_,h=>by cases h
 |_::_,[],h=>by cases h
 |x::r,y::q,h=>by
  simp only[ZwO,yi] at h;rw[Nat.eq_of_beq_eq_true h.1,ZoC r q h.2]
mutual
def Dv.sameB:Dv→Dv→Bool
 |.p x,.p y=>Pl.sameB x y
 |.elem x,.elem y=>Pl.sameB x y
 |.ref i o l,.ref j q m=>Nat.beq i j&&Nat.beq o q&&ZwO l m
 |.own i a s xs,.own j b u ys=>Nat.beq i j&&a==b&&Nat.beq s u&&Pl.samesB xs ys
 |.view i o l a b c,.view i' o' l' a' b' c'=>Nat.beq i i'&&Nat.beq o o'&&ZwO l l'&&Nat.beq a a'&&Nat.beq b b'&&Nat.beq c c'
 |.agg xs,.agg ys=>Dv.samesB xs ys
 |.arr n s xs,.arr m u ys=>Nat.beq n m&&Nat.beq s u&&Dv.samesB xs ys
 |.fn f xs,.fn g ys=>Nat.beq f g&&Dv.samesB xs ys
 |.iface t x,.iface u y=>Nat.beq t u&&Dv.sameB x y
 |.tup xs,.tup ys=>Dv.samesB xs ys
 |.mp i,.mp j=>Nat.beq i j
 |.rv a b c d e,.rv a' b' c' d' e'=>Nat.beq a a'&&Nat.beq b b'&&Nat.beq c c'&&Nat.beq d d'&&Nat.beq e e'
 |.rref a b c l,.rref a' b' c' l'=>Nat.beq a a'&&Nat.beq b b'&&Nat.beq c c'&&ZwO l l'
 |.junk,.junk=>true
 |_,_=>false
def Dv.samesB:List Dv→List Dv→Bool
 |[],[]=>true
 |x::r,y::q=>Dv.sameB x y&&Dv.samesB r q
 |_,_=>false
end
theorem ZfI{a b:Nat}(h:Nat.beq a b=true):a=b:=Nat.eq_of_beq_eq_true h
mutual
theorem Dv.sameB_eq:∀(a b:Dv),Dv.sameB a b=true→a=b
 |.p x,b,h=>by
  cases b <;> simp only[Dv.sameB,ybq] at h
  rw[Pl.sameB_eq _ _ h]
 |.elem x,b,h=>by
  cases b <;> simp only[Dv.sameB,ybq] at h
  rw[Pl.sameB_eq _ _ h]
 |.ref i o l,b,h=>by
  cases b <;> simp only[Dv.sameB,ybq,yi] at h
  rw[ZfI h.1.1,ZfI h.1.2,ZoC _ _ h.2]
 |.own i a s xs,b,h=>by
  cases b <;> simp only[Dv.sameB,ybq,yi,beq_iff_eq] at h
  rw[ZfI h.1.1.1,h.1.1.2,ZfI h.1.2,Pl.samesB_eq _ _ h.2]
 |.view i o l a k c,b,h=>by
  cases b <;> simp only[Dv.sameB,ybq,yi] at h
  rw[ZfI h.1.1.1.1.1,ZfI h.1.1.1.1.2,ZoC _ _ h.1.1.1.2,ZfI h.1.1.2,ZfI h.1.2,ZfI h.2]
 |.agg xs,b,h=>by
  cases b <;> simp only[Dv.sameB,ybq] at h
  rw[Dv.samesB_eq _ _ h]
 |.arr n s xs,b,h=>by
  cases b <;> simp only[Dv.sameB,ybq,yi] at h
  rw[ZfI h.1.1,ZfI h.1.2,Dv.samesB_eq _ _ h.2]
 |.fn f xs,b,h=>by
  cases b <;> simp only[Dv.sameB,ybq,yi] at h
  rw[ZfI h.1,Dv.samesB_eq _ _ h.2]
 |.iface t x,b,h=>by
  cases b <;> simp only[Dv.sameB,ybq,yi] at h
  rw[ZfI h.1,Dv.sameB_eq _ _ h.2]
 |.tup xs,b,h=>by
  cases b <;> simp only[Dv.sameB,ybq] at h
  rw[Dv.samesB_eq _ _ h]
 |.mp i,b,h=>by
  cases b <;> simp only[Dv.sameB,ybq] at h
  rw[ZfI h]
 |.rv a k c d e,b,h=>by
  cases b <;> simp only[Dv.sameB,ybq,yi] at h
  rw[ZfI h.1.1.1.1,ZfI h.1.1.1.2,ZfI h.1.1.2,ZfI h.1.2,ZfI h.2]
 |.rref a k c l,b,h=>by
  cases b <;> simp only[Dv.sameB,ybq,yi] at h
  rw[ZfI h.1.1.1,ZfI h.1.1.2,ZfI h.1.2,ZoC _ _ h.2]
 |.junk,b,h=>by
  cases b <;> simp only[Dv.sameB,ybq] at h;rfl
theorem Dv.samesB_eq:∀(a b:List Dv),Dv.samesB a b=true→a=b
 |[],[],_=>rfl
 |[],_::_,h=>by cases h
 |_::_,[],h=>by cases h
 |x::r,y::q,h=>by
  simp only[Dv.samesB,yi] at h;rw[Dv.sameB_eq x y h.1,Dv.samesB_eq r q h.2]
end
def Ent.sameB:Option Ent→Option Ent→Bool
 |some (.var d _),some (.var e _)=>Dv.sameB d e
 |_,_=>false
theorem Ent.sameB_rd{a b:Option Ent}(h:Ent.sameB a b=true):rdE a=rdE b:=by
 unfold Ent.sameB at h;split at h
 ·rw[Dv.sameB_eq _ _ h];rfl
 ·cases h
structure TR where
 cls:Nat
 rd:Option Nat
 tc:Option (List Nat)
 n:Nat
 push:Bool
 loc:Bool
 m:Nat
 sm:Nat→Bool
def ZDW(P:yg)(hi:HI)(specs:Sp P)(ops:Array Oper):List Oper→List TD→List TEnt→(List TD→List TEnt→List TR→List Hint→Option O)→Option O
 |[],all,H,K=>K all H [] []
 |o::r,all,H,K=>gT P hi specs ops o (ZiZ (XO ops o) 0 all) all H λa d H' hs c=>ZDW P hi specs ops r (ZwL a o.dst d) H' λa' h' rs hs'=>
   K a' h' (⟨c,ZEK P o (TD.ers (lk H) (ZiZ (XO ops o) 0 all)),Zxt P o (TD.ers (lk H) (ZiZ (XO ops o) 0 all)) hs,H.length,ZhU o,Zn2 o hs,H'.length,λid=>(c==3) || Ent.sameB ((erH H')[id]?) ((erH H)[id]?)⟩::rs) (hs++hs')
def RecOk(R:Rec)(r:TR):Prop:=R.cls≤r.cls∧R.rd=r.rd∧(∀l,r.tc=some l→R.tc=some l)∧R.H.length=r.n∧R.push=r.push∧(r.loc=true→R.loc=true)∧R.H'.length=r.m∧∀id,r.sm id=true→rdE (R.H'[id]?)=rdE (R.H[id]?)
inductive RecsOk:List Rec→List TR→Prop where
 |nil:RecsOk [] []
 |cons {R:Rec} {r:TR} {Rs:List Rec} {rs:List TR} (h:RecOk R r) (k:RecsOk Rs rs):RecsOk (R::Rs) (r::rs)
theorem ZCz{ts:List Dv}{hs rest:List Hint}{l:List Nat}(h:ZdT P o ts hs=some l):ZdT P o ts (hs++rest)=some l:=by
 unfold ZdT at h ⊢;split at h <;> first|exact h|skip
 ·cases hs with
  |nil=>cases h
  |cons x r=>rw[yaa];cases x <;> exact h
 split at h <;> first|exact h|skip
 all_goals
  split at h
  ·exact h
  ·cases h
theorem ZJs{ts:List Dv}{hs rest:List Hint}{l:List Nat}(h:Zxt P o ts hs=some l):Zxt P o ts (hs++rest)=some l:=by
 unfold Zxt at h ⊢;split at h
 ·rename_i hg;rw[if_pos hg];exact ZCz h
 ·cases h
theorem ZHf{hs rest:List Hint}(h:Zn2 o hs=true):Zn2 o (hs++rest)=true:=by
 unfold Zn2 at h ⊢;rw[yi] at h ⊢;refine⟨h.1, ?_⟩;have h:=h.2;split at h
 ·split at h
  ·split at h
   ·exact h
   ·cases h
  ·split at h
   ·exact h
   ·cases h
  ·cases h
 ·cases h
theorem ZtM{hi:HI}{specs:Sp P}{ops:Array Oper}(ok:SpOk specs):∀(l:List Oper)(all:List TD)(H:List TEnt)(K:List TD→List TEnt→List TR→List Hint→Option O),ZDW P hi specs ops l all H K=some out→
 ∃a h rs hs C,K a h rs hs=some out∧a.length=all.length∧AllP C∧∀rest,∃RS,evD P ops l (TD.ers (lk H) all) (erH H) (hs++rest)=some (C,RS,TD.ers (lk h) a,erH h,rest)∧RecsOk RS rs
 |[],all,H,K,h=>⟨all,H,[],[],[],h,rfl,trivial,λ_=>⟨[],rfl,.nil⟩⟩
 |o::r,all,H,K,h=>by
  unfold ZDW at h
  have hgd:∀j want t,o.guard=some (j,want)→ZCx ops j=some t→(ZiZ (XO ops o) 0 all).getD t .junk=all.getD t .junk:=by
   intro j want t hg hs;refine ZwN _ _ _ _ ?_;rw[Nat.zero_add];unfold XO;rw[hg];dsimp only;rw[show(ops[j]?).bind (·.dst)=some t from hs]
   simp
  obtain⟨a,d,H',hs,c,h1,h2⟩:=ZDV ok hgd h;obtain⟨a',h',rs,hs',C',k1,k0,k2,k3⟩:=ZtM ok r _ _ _ h1;obtain⟨C,g1,g2⟩:=h2.op;refine⟨a',h',_,_,C++C',k1,by rw[k0,ZwM,h2.len],Zk.2 ⟨g1,k2⟩,λrest=> ?_⟩;obtain⟨RS,e1,e2⟩:=k3 rest;unfold evD;rw[←ZoB,yak,g2 (hs'++rest)];dsimp only;rw[←h2.same, ←ZAI,e1]
  refine⟨_,rfl,.cons ⟨h2.cls _,rfl,λl hl=> ?_,ZM _,rfl,λhl=>ZHf hl,ZM _,λid hs=>by
   have hs:(c==3 || Ent.sameB ((erH H')[id]?) ((erH H)[id]?))=true:=hs;rw[yce] at hs;rcases hs with h5|h5
   ·rw[h2.sam (by simpa using h5)]
   ·exact Ent.sameB_rd h5⟩ e2⟩
  exact ZJs hl
def ZDX(ops:Array Oper)(cls:List Nat)(free comm:Nat→Nat→Bool):Bool:=
 let l:=ops.toList;let A:=ZF5 l;let n:=l.length
 (cls.length==n)&&Zg3 l 0&&
 ((yv n).all λi=>match l[i]? with|some o=>A.getD i 0==ZhV A i o|none=>true)&&
 ((yv n).all λi=>(yv n).all λj=>i==j || Zg4 l i==none || !(Zg4 l i==Zg4 l j))&&
 ((yv n).all λi=>match l[i]? with
   |some o=>let k:=XO ops o
    (yv n).all λj=>match Zg4 l j with
      |some t=>i==j || !(k.contains t) || (if j < i then(A.getD i 0).testBit j else(A.getD j 0).testBit i)
      |none=>true
   |none=>true)&&
 ((yv n).all λi=>cls.getD i 0==0 || (yv n).all λj=>i==j || decide (cls.getD j 0 < 2) || (if j < i then(A.getD i 0).testBit j else(A.getD j 0).testBit i) || (decide (cls.getD i 0≤1)&&free i j) || comm i j)
def ZHg(rs:List TR)(i j:Nat):Bool:=
 match rs[i]?,rs[j]? with
 |some r,some q=>match r.rd with
  |some id=>decide (id < q.n)&&decide (id < r.n)&&((match q.tc with|some l=> !l.contains id|none=>false) || q.sm id)
  |none=>false
 |_,_=>false
def cT(rs:List TR)(c:Nat)(r:TR):Bool:=r.loc || (r.push&&r.m==r.n+1&&(rs.take c).all λq=>decide (q.n≤r.n))
def cI(rs:List TR):Nat:=match rs.findIdx? (λr=>r.loc&&r.cls==2) with
 |some c=>c
 |none=>(rs.findIdx? (λr=>r.push)).getD 0
def ZDY(rs:List TR)(i j:Nat):Bool:=
 let c:=cI rs
 ((rs[c]?).map (cT rs c)).getD false&&((i==c&&decide (c < j)&&((rs[j]?).map (·.push)).getD false) || (j==c&&decide (c < i)&&((rs[i]?).map (·.push)).getD false))
theorem ZtN{RS:List Rec}{rs:List TR}(h:RecsOk RS rs):RS.length=rs.length:=by
 induction h with
 |nil=>rfl
 |cons _ _ ih=>simp[ih]
theorem Zkg{RS:List Rec}{rs:List TR}(h:RecsOk RS rs):∀{i:Nat}{r:TR},rs[i]? =some r→∃R,RS[i]? =some R∧RecOk R r:=by
 induction h with
 |nil=>intro i r h;simp at h
 |cons h k ih=>
  intro i r hi
  cases i with
  |zero=>cases hi;exact⟨_,rfl,h⟩
  |succ i=>exact ih hi
theorem ZFn{RS:List Rec}{rs:List TR}(h:RecsOk RS rs):∀{i:Nat}{R:Rec},RS[i]? =some R→∃r,rs[i]? =some r∧RecOk R r:=by
 induction h with
 |nil=>intro i r h;simp at h
 |cons h k ih=>
  intro i r hi
  cases i with
  |zero=>cases hi;exact⟨_,rfl,h⟩
  |succ i=>exact ih hi
theorem ZAJ{RS:List Rec}{rs:List TR}(h:RecsOk RS rs)(i:Nat):(RS.map (·.cls)).getD i 0≤(rs.map (·.cls)).getD i 0:=by
 simp only[yct,yah]
 cases hi:rs[i]? with
 |none=>
  have:RS[i]? =none:=by rw[List.getElem?_eq_none_iff] at hi ⊢;rw[ZtN h];exact hi
  rw[this]
  exact yn _
 |some r=>
  obtain⟨R,e,k⟩:=Zkg h hi;rw[e];exact k.1
theorem ZJt{ops:Array Oper}{RS:List Rec}{rs:List TR}(h:RecsOk RS rs)(k:ZDX ops (rs.map (·.cls)) (ZHg rs) (ZDY rs)=true)(hn:rs.length=ops.size):Zxu ops RS=true:=by
 unfold ZDX at k;unfold Zxu;simp only[yi] at k ⊢;obtain⟨⟨⟨⟨⟨k1,k2⟩,k3⟩,k4⟩,k5⟩,k6⟩:=k;refine⟨⟨⟨⟨⟨?_,k2⟩,k3⟩,k4⟩,k5⟩, ?_⟩
 ·simpa[ZtN h] using k1
 ·have hcm:∃c,c∈yv (ops.toList.length+1)∧∀i j,ZDY rs i j=true→Zgw RS c i j=true:=by
   have hget:∀(k:Nat),((rs[k]?).map (·.push)).getD false=true→((RS[k]?).map (·.push)).getD false=true:=by
    intro k hk
    cases hr:rs[k]? with
    |none=>rw[hr] at hk;cases hk
    |some r=>
     obtain⟨R,e1,e2⟩:=Zkg h hr;rw[hr] at hk;rw[e1];show R.push=true;rw[e2.2.2.2.2.1];exact hk
   refine⟨if cI rs < rs.length then cI rs else 0, ?_,λi j hij=> ?_⟩
   ·rw[List.mem_range];split
    ·rename_i hlt;rw[hn] at hlt;have:ops.toList.length=ops.size:=by simp
     omega
    ·omega
   ·unfold ZDY at hij;dsimp only at hij;generalize cI rs=c at hij ⊢;rw[yi] at hij;obtain⟨h1,h2⟩:=hij
    cases hr:rs[c]? with
    |none=>rw[hr] at h1;cases h1
    |some r=>
     have hlt:=(yp.1 hr).1;rw[if_pos hlt];obtain⟨R,e1,e2⟩:=Zkg h hr;rw[hr] at h1;unfold Zgw;rw[yi];refine⟨?_, ?_⟩
     ·rw[e1];show cOk RS c R=true;have h1:cT rs c r=true:=h1;unfold cT at h1;unfold cOk;rw[yce] at h1 ⊢;rcases h1 with h1|h1
      ·exact .inl (e2.2.2.2.2.2.1 h1)
      ·simp only[yi,beq_iff_eq,yba,decide_eq_true_eq] at h1 ⊢;obtain⟨⟨b1,b2⟩,b3⟩:=h1;refine .inr ⟨⟨by rw[e2.2.2.2.2.1];exact b1,by rw[e2.2.2.2.2.2.2.1,e2.2.2.2.1];exact b2⟩,λq hq=> ?_⟩;obtain⟨k,hk⟩:=List.mem_iff_getElem?.1 hq;rw[ycd] at hk;split at hk
       ·rename_i hkc;obtain⟨q2,f1,f2⟩:=ZFn h hk;rw[f2.2.2.2.1,e2.2.2.2.1];refine b3 q2 (List.mem_iff_getElem?.2 ⟨k, ?_⟩);rw[ycd,if_pos hkc];exact f1
       ·cases hk
     ·simp only[yce,yi] at h2 ⊢;rcases h2 with⟨⟨a1,a2⟩,a3⟩|⟨⟨a1,a2⟩,a3⟩
      ·exact .inl ⟨⟨a1,a2⟩,hget _ a3⟩
      ·exact .inr ⟨⟨a1,a2⟩,hget _ a3⟩
  obtain⟨c,hc1,hc2⟩:=hcm;rw[List.any_eq_true];refine⟨c,hc1, ?_⟩;rw[yba] at k6 ⊢;intro i hi;have:=k6 i hi;have hc:=ZAJ h i;simp only[yce] at this ⊢;rcases this with h0|h1
  ·left;have h0:(rs.map (·.cls)).getD i 0=0:=by simpa using h0
   have:(RS.map (·.cls)).getD i 0=0:=by omega
   simpa using this
  ·by_cases hz:(RS.map (·.cls)).getD i 0=0
   ·left;simpa using hz
   ·right;rw[yba] at h1 ⊢;intro j hj;have h2:=h1 j hj;have hd:=ZAJ h j;simp only[yce,yi,decide_eq_true_eq] at h2 ⊢;rcases h2 with(((h2|h2)|h2)|h2)|h2
    ·exact .inl (.inl (.inl (.inl h2)))
    ·refine .inl (.inl (.inl (.inr ?_)));have:(RS.map (·.cls)).getD j 0≠2:=by omega
     simpa using this
    ·exact .inl (.inl (.inr h2))
    ·refine .inl (.inr ⟨?_, ?_⟩)
     ·have:(RS.map (·.cls)).getD i 0=1:=by omega
      simpa using this
     ·have hf:=h2.2;unfold ZHg at hf;unfold ZjY;split at hf
      ·rename_i r q hr hq;obtain⟨R,e1,e2⟩:=Zkg h hr;obtain⟨Q,e3,e4⟩:=Zkg h hq;rw[e1,e3];dsimp only;split at hf
       ·rename_i id hrd;rw[e2.2.1,hrd];dsimp only;rw[e4.2.2.2.1,e2.2.2.2.1];rw[yi] at hf ⊢;refine⟨hf.1, ?_⟩;rw[yce] at hf ⊢;rcases hf.2 with h5|h5
        ·left;split at h5
         ·rename_i l htc;rw[e4.2.2.1 l htc];exact h5
         ·cases h5
        ·right;exact@decide_eq_true _ (Classical.propDecidable _) (e4.2.2.2.2.2.2.2 id h5)
       ·cases hf
      ·cases hf
    ·exact .inr (hc2 i j h2)
theorem ZCA{A B:List Ent}(hl:A.length=B.length)(h:∀(i:Nat)(a b:Ent),A[i]? =some a→B[i]? =some b→WkE a b):WkH A B:=by
 induction A generalizing B with
 |nil=>cases B with
  |nil=>exact .nil
  |cons _ _=>simp at hl
 |cons a A ih=>cases B with
  |nil=>simp at hl
  |cons b B=>exact .cons (h 0 a b rfl rfl) (ih (by simpa using hl) λi a b h1 h2=>h (i+1) a b h1 h2)
def ZHh:TEnt→TEnt
 |.var d _=>.var d false
 |e=>e
def Zp6(ids:List Nat)(H:List TEnt):List TEnt:=(yv H.length).zipWith (λi e=>if ids.contains i then ZHh e else e) H
theorem ZJu(e:TEnt):lkE (some (ZHh e))=lkE (some e):=by cases e <;> rfl
theorem ZtO(ids:List Nat)(H:List TEnt)(i:Nat):(Zp6 ids H)[i]? =(H[i]?).map λe=>if ids.contains i then ZHh e else e:=by
 unfold Zp6;rw[List.getElem?_zipWith];rcases Nat.lt_or_ge i H.length with h|h
 ·rw[List.getElem?_range h,yac h];rfl
 ·rw[yao (by simpa using h),yao h];rfl
theorem ZwP(ids:List Nat)(H:List TEnt):lk (Zp6 ids H)=lk H:=by
 funext i;unfold lk;rw[ZtO]
 cases H[i]? with
 |none=>rfl
 |some e=>
  show lkE (some (if ids.contains i=true then ZHh e else e))=_
  split
  ·exact ZJu e
  ·rfl
theorem ZFo(ids:List Nat)(H:List TEnt):WkH (erH H) (erH (Zp6 ids H)):=by
 refine ZCA (by rw[ZM,ZM];unfold Zp6;simp) λi a b h1 h2=> ?_;unfold erH at h1 h2;rw[yah] at h1 h2;rw[ZwP,ZtO] at h2
 cases he:H[i]? with
 |none=>rw[he] at h1;cases h1
 |some e=>
  rw[he] at h1 h2;cases h1;cases h2;show WkE (e.er (lk H)) (TEnt.er (lk H) (if ids.contains i=true then ZHh e else e))
  split
  ·cases e <;> first|exact .refl _|exact .frz
  ·exact .refl _
theorem ZHi{c:Code}{ts ts1:List Dv}{H0 H1 H2:List Ent}{ex:Ex}(h:WkH H0 H1)(r:X3 P c ts H1 ex ts1 H2):X3 P c ts H0 ex ts1 H2:=by
 intro σ a ok hH hrep;obtain⟨to,ok2⟩:=Zn6 ok (H':=H1) (by rw[hH];exact h);refine wp_mono (r { σ with H:=H1} a ok2 rfl (hrep.to to.leaf)) ?_;rintro e a' w' ⟨rfl,σ2,q1,q2,q3,q4,q5⟩;exact⟨rfl,σ2,q1,q2,to.trans q3,q4,q5⟩
def ZHj(ops:List Oper)(all:List TD):Nat→Tmp→Option Nat
 |0,_=>none
 |n+1,x=>match ops.find? λo=>o.dst==some x with
  |some o=>match o.op with
   |.fieldAddr _ (.tmp y) _=>ZHj ops all n y
   |_=>none
  |none=>match all.getD x .junk with
   |.ref id _=>some id
   |_=>none
def ZMa(hi:HI)(ops:List Oper)(all:List TD)(o:Oper):Option Nat:=
 match o.op with
 |.slice _ (.tmp x) _ _ none=>if ZoA hi.frz o.dst then ZHj ops all 4 x else none
 |_=>none
def ZtP(hi:HI)(ops:Array Oper)(all:List TD)(H:List TEnt):List TEnt:=
 match hi.frz with
 |[]=>H
 |_=>match ops.toList.filterMap (ZMa hi ops.toList all) with
  |[]=>H
  |ids=>Zp6 ids H
theorem ZFp(hi:HI)(ops:Array Oper)(all:List TD)(H:List TEnt):WkH (erH H) (erH (ZtP hi ops all H))∧lk (ZtP hi ops all H)=lk H:=by
 unfold ZtP;split
 ·exact⟨WkH.refl _,rfl⟩
 ·split
  ·exact⟨WkH.refl _,rfl⟩
  ·exact⟨ZFo _ _,ZwP _ _⟩
def ZK9(P:yg)(hi:HI)(specs:Sp P)(ops:Array Oper)(all:List TD)(H:List TEnt)(K:List TD→List TEnt→Option O):Option O:=
 if P.follows .mixedOrders then ZDW P hi specs ops ops.toList all (ZtP hi ops all H) λa h rs _=>if ZDX ops (rs.map (·.cls)) (ZHg rs) (ZDY rs)=true then K a h else none else none
theorem ZFq{hi:HI}{specs:Sp P}{ops:Array Oper}{K:List TD→List TEnt→Option O}(ok:SpOk specs)(h:ZK9 P hi specs ops all H K=some out):∃a h,K a h=some out∧a.length=all.length∧∀id,X3 P (.region id ops true) (TD.ers (lk H) all) (erH H) .normal (TD.ers (lk h) a) (erH h):=by
 unfold ZK9 at h;split at h
 ·rename_i hf;obtain⟨w1,w2⟩:=ZFp hi ops all H;generalize ZtP hi ops all H=H0 at h w1 w2;obtain⟨a,h',rs,hs,C,k1,k0,k2,k3⟩:=ZtM ok _ _ _ _ h;obtain⟨k4,k5⟩:=Za k1;refine⟨a,h',k5,k0,λid=> ?_⟩;obtain⟨RS,e1,e2⟩:=k3 [];rw[←w2];refine ZHi w1 (Zti (hs:=hs) (hs':=[]) (C:=C) ?_ k2);simp only[ev,if_true];unfold Zxv;rw[if_pos hf];rw[ybh] at e1;rw[e1];dsimp only;rw[if_pos (ZJt e2 k4 (by have:=ZtN e2;unfold ZDX at k4;simp only[yi] at k4;simpa using k4.1.1.1.1.1))];rfl
 ·cases h
theorem ZFr{hi:HI}{specs:Sp P}{ops:Array Oper}{K:List TD→List TEnt→List Hint→Option O}(ok:SpOk specs)(h:ZCy P hi specs ops ops.toList all H K=some out):∃a h hs,K a h hs=some out∧a.length=all.length∧∀id,X3 P (.region id ops false) (TD.ers (lk H) all) (erH H) .normal (TD.ers (lk h) a) (erH h):=by
 obtain⟨a,h',hs,C,k1,k0,k2,k3⟩:=Zp5 ok _ _ _ _ h;refine⟨a,h',hs,k1,k0,λid=> ?_⟩;refine Zti (hs:=hs) (hs':=[]) (C:=C) ?_ k2;have:=k3 [];rw[ybh] at this;simp only[ev,ybq,if_false,this];rfl
end
end Go.Ev
end
section
namespace Go.Ev
section
variable{P:yg}{a:Act}{σ:Sg}{ts:List Dv}
theorem ZtQ{ops:Array Oper}(Q:Exit→Act→yy→Prop){ts':List Dv}(more:List Nat):∀(l:List Oper)(k:Nat)(ts:List Dv)(σ:Sg)(a:Act)(hs hs':List Hint)(C:List Prop)(H':List Ent),
 (∀(j:Nat)(x:Oper),l[j]? =some x→ops[k+j]? =some x)→Ok σ→RepT σ ts a→ZmA P ops l ts σ.H hs=some (C,ts',H',hs')→AllP C→
 (∀a' σ',σ'.H=H'→To σ σ'→Ok σ'→RepT σ' ts' a'→wpOps P ops Q more a' σ'.w)→wpOps P ops Q (List.range' k l.length++more) a σ.w
 |[],k,ts,σ,a,hs,hs',C,H',_,ok,hrep,h,hc,hQ=>by
  simp only[ZmA,yj,Prod.mk.injEq] at h;obtain⟨rfl,rfl,rfl,rfl⟩:=h
  exact hQ a σ rfl (To.refl σ) ok hrep
 |o::l,k,ts,σ,a,hs,hs',C,H',hl,ok,hrep,h,hc,hQ=>by
  simp only[ZmA] at h;split at h
  ·rename_i C1 d1 H1 hs1 h1;split at h
   ·rename_i C2 ts2 H2 hs2 h2;simp only[yj,Prod.mk.injEq] at h;obtain⟨rfl,rfl,rfl,rfl⟩:=h;obtain⟨c1,c2⟩:=Zk.1 hc;have h0:ops[k]? =some o:=by simpa using hl 0 o rfl
    simp only[yad,List.range'_succ,yaa,wpOps,h0]
    have key:=ZlA (P:=P) (ops:=ops) ok hrep h1 c1 (wpOps P ops Q (List.range' (k+1) l.length++more)) Q (λv σ1 e1 to1 ok1 hrep1=>by
     subst e1
     exact ZtQ Q more l (k+1) _ σ1 _ hs1 _ C2 _ (λj x hx=>by have:=hl (j+1) x (by simpa using hx);simpa[Nat.add_assoc,Nat.add_comm 1 j] using this) ok1 hrep1 h2 c2
      (λa' σ' e2 to2 ok2 hrep2=>hQ a' σ' e2 (to1.trans to2) ok2 hrep2))
    by_cases hw:Region.wanted o (yielded ops a.tmps)=true
    ·rw[if_pos hw] at key ⊢;exact .inl key
    ·rw[if_neg hw] at key ⊢;exact key
   ·cases h
  ·cases h
theorem Zf5{ops:Array Oper}{Q:Exit→Act→yy→Prop}{i:Nat}{rest:List Nat}{o:Oper}{v:Value}{w w':yy}(g:ops[i]? =some o)(n:o.guard=none)(hx:(execOp a.eval o).run P w=.ok (.value v) w')
 (k:wpOps P ops Q rest (a.put o.dst v) w'):wpOps P ops Q (i::rest) a w:=by
 have hw:Region.wanted o (yielded ops a.tmps)=true:=by simp[Region.wanted,n]
 simp only[wpOps,g];rw[if_pos hw];refine .inl ?_;unfold Oper.wp;rw[hx];exact k
theorem ZCB{ops:Array Oper}{Q:Exit→Act→yy→Prop}{i:Nat}{rest:List Nat}{o:Oper}{w w':yy}(g:ops[i]? =some o)(n:o.guard=none)(hx:(execOp a.eval o).run P w=.ok .skip w')
 (k:wpOps P ops Q rest (a.put o.dst undef) w'):wpOps P ops Q (i::rest) a w:=by
 have hw:Region.wanted o (yielded ops a.tmps)=true:=by simp[Region.wanted,n]
 simp only[wpOps,g];rw[if_pos hw];refine .inl ?_;unfold Oper.wp;rw[hx];exact k
theorem ZoD{t:Nat}{v:Value}(h:t < a.tmps.size):(a.put (some t) v).eval (.tmp t)=v:=by
 show(a.tmps.setIfInBounds t v).getD t undef=v;simp[ycy,Array.getElem?_setIfInBounds,h]
theorem Zkh{t s:Nat}{v:Value}(h:s≠t):(a.put (some t) v).eval (.tmp s)=a.eval (.tmp s):=by
 show(a.tmps.setIfInBounds t v).getD s undef=a.tmps.getD s undef;simp[ycy,Array.getElem?_setIfInBounds,h,Ne.symm h]
theorem ZlJ{σ':Sg}{t:Nat}{v:Value}(h:RepT σ' ts a):RepT σ' (ts.set t .junk) (a.put (some t) v):=
 Zg7 (o:={ (default:Oper) with dst:=some t}) h Xt
theorem ZJv{ops:Array Oper}{Q:Exit→Act→yy→Prop}{p t0 t1 t2 t3:Nat}{o1 o2 o3 o4 o5:Oper}(g1:ops[p]? =some o1)(g2:ops[p+1]? =some o2)(g3:ops[p+2]? =some o3)(g4:ops[p+3]? =some o4)(g5:ops[p+4]? =some o5)
 (n1:o1.guard=none) (n2:o2.guard=none) (n3:o3.guard=none) (n4:o4.guard=none) (n5:o5.guard=none) {t tt u t5 kt et e:yc} {m k y m5:ym} {c:Call} {id:Nat}
 (h1:o1.op=.mapEntry t m k) (d1:o1.dst=some t0) (h2:o2.op=.extract (.tmp t0) 0) (d2:o2.dst=some t1) (h3:o3.op=.call c) (hc:c.callee=.builtin .append) (ha:c.args.toList=[.tmp t1,y]) (hty:c.argTypes.toList=[tt,u]) (d3:o3.dst=some t2)
 (h4:o4.op=.extract (.tmp t0) 1) (d4:o4.dst=some t3) (h5:o5.op=.entryStore t5 m5 (.tmp t3) (.tmp t2)) (d5:o5.dst=none) (q01:t0≠t1) (q02:t0≠t2) (q23:t2≠t3) (l0:t0 < ts.length) (l1:t1 < ts.length) (l2:t2 < ts.length) (l3:t3 < ts.length)
 (ok:Ok σ) (hrep:RepT σ ts a) {kk:Pl} {tm:yc} {s0:Nat} {i:TypeInfo} {ys:List Pl} (hu:P.underlying t=some (.map kt et)) (hm:Zv P ts t m=.mp id) (hk:Zv P ts kt k=.p kk) (hH:σ.H[id]? =some (.map tm [])) (hkt:ZjW P kt=true) (hfit:fitP P 20 kt kk)
 (hzt:Zlv P et=true) (hzd:Xh P et=.p (.sl (some false) s0 [])) (htt:P.underlying tt=some (.slice e)) (hi:P.info? e=some i) (hz:zOk i=true) (hne:i.size≠0)
 (hsrc:ZfQ P (P.cellsOf e) u (Zv P ((ts.set t0 .junk).set t1 .junk) u y)=some ys) (hb:ys.length*i.bytes≤Zs) (hmx:ys.length≤maxLen) (hm5:Zv P ((((ts.set t0 .junk).set t1 .junk).set t2 .junk).set t3 .junk) t5 m5=.mp id)
 (hQ:∀a' σ',σ'.H=σ.H.set id (.map tm [(kk,.sl none (P.cellsOf e) ys)])→To σ σ'→Ok σ'→RepT σ' ((((ts.set t0 .junk).set t1 .junk).set t2 .junk).set t3 .junk) a'→Q .normal a' σ'.w):wpOps P ops Q [p,p+1,p+2,p+3,p+4] a σ.w:=by
 have hmv:=Zn (P:=P) hrep t m;rw[hm] at hmv;obtain⟨b,hmb,hmv⟩:=ZpT hmv;have hkv:=Zn (P:=P) hrep kt k;rw[hk] at hkv;obtain⟨b',es,clock,e1,hbk,hkr⟩:=ok.ent id _ _ hH hmb;cases e1
 have hes:es= #[]:=by
  have:=ZpU _ _ hkr;have h0:es.toList=[]:=List.eq_nil_of_length_eq_zero this;exact Array.toList_inj.1 h0
 subst hes;obtain⟨F,hF,hrunF⟩:=ZeL (P:=P) hkt hfit hkv;have hchk:=Va (em:=false) 20 kt kk _ hfit hkv 9980
 have hfind:(Instr.findKey kt (a.eval k) ([]:List MapEntry)).run P σ.w=.ok none σ.w:=by
  rcases Zta (v:=kk) hF [] [] 0 [(kk,kk)] hkr (λq hq=>by cases hq) (by simp[ZjV]) with⟨j,e',_,f2,_⟩|⟨f1,_⟩
  ·simp at f2
  ·exact hrunF _ _ f1
 obtain⟨zv,hzv,hzr⟩:∃z,(zeroValue et).run P σ.w=.ok z σ.w∧repDV σ (Xh P et) z:=by
  unfold Zlv at hzt;split at hzt
  ·rename_i i hi
   cases hzz:i.zero with
   |none=>simp[hzz] at hzt
   |some z=>
    refine⟨z,by simp[zeroValue,typeInfo,hi,hzz], ?_⟩;unfold Xh;rw[hi];simp only[hzz];exact V6
  ·cases hzt
 rw[hzd] at hzr;have hzn:=ZqU hzr;subst hzn;let en:MapEntry:={ key:=a.eval k,val:=.slice none 0 0,born:=clock};obtain⟨to1,ok1⟩:=Zeu (es':= #[en]) (clock':=clock+1) ok hH hmb hbk (l:=[(kk,.sl (some false) s0 [])]) ⟨hkv,hzr,trivial⟩;let σ1:Sg:={ σ with m:=σ.m.set id (some b),H:=σ.H.set id (.map tm [(kk,.sl (some false) s0 [])]),w:={ σ.w with heap:=σ.w.heap.setIfInBounds b (.map #[en] (clock+1))}};have to1:To σ σ1:=to1;have ok1:Ok σ1:=ok1
 have x1:(execOp a.eval o1).run P σ.w=.ok (.value (.tuple #[.slice none 0 0,goInt clock])) σ1.w:=by
  have:(Instr.mapEntry t (a.eval m) (a.eval k)).run P σ.w=.ok (.tuple #[.slice none 0 0,goInt clock]) σ1.w:=by
   simp only[Instr.mapEntry,Sem.run_bind,run_underlying hu,Result.andThen_ok,hmv,Vb hbk,hchk,hfind,hzv,Go.MapKept.run_setObj_map _ hbk,Sem.run_pure];rfl
  simp[execOp,h1,this]
 refine Zf5 g1 n1 x1 ?_;rw[d1];have r1:RepT σ1 (ts.set t0 .junk) (a.put (some t0) (.tuple #[.slice none 0 0,goInt clock])):=ZlJ (hrep.to to1.leaf);generalize ha1:a.put (some t0) (.tuple #[.slice none 0 0,goInt clock])=a1 at r1 ⊢;have ht0:t0 < a.tmps.size:=by rw[hrep.size];exact l0
 have v1:a1.eval (.tmp t0)=.tuple #[.slice none 0 0,goInt clock]:=by rw[←ha1];exact ZoD ht0
 have x2:(execOp a1.eval o2).run P σ1.w=.ok (.value (.slice none 0 0)) σ1.w:=by
  have:(Instr.extract (a1.eval (.tmp t0)) 0).run P σ1.w=.ok (.slice none 0 0) σ1.w:=by rw[v1];simp[Instr.extract]
  simp[execOp,h2,this]
 refine Zf5 g2 n2 x2 ?_;rw[d2];have r2:RepT σ1 ((ts.set t0 .junk).set t1 .junk) (a1.put (some t1) (.slice none 0 0)):=ZlJ r1;have s1:t1 < a1.tmps.size:=by rw[r1.size,yaz];exact l1
 generalize ha2:a1.put (some t1) (.slice none 0 0)=a2 at r2 ⊢;have v2:a2.eval (.tmp t1)=.slice none 0 0:=by rw[←ha2];exact ZoD s1
 have v20:a2.eval (.tmp t0)=.tuple #[.slice none 0 0,goInt clock]:=by rw[←ha2,Zkh q01];exact v1
 have hce:P.cellsOf e=i.size:=by simp[Program.cellsOf,hi]
 have key:∃v3 w3,(execOp a2.eval o3).run P σ1.w=.ok (.value v3) w3∧To σ1 { σ1 with w:=w3}∧Ok { σ1 with w:=w3}∧w3.heap[b]? =some (.map #[en] (clock+1))∧repDV { σ1 with w:=w3} (.p (.sl none (P.cellsOf e) ys)) v3:=by
  obtain⟨gs1,gs2⟩:=Go.MapKept.heap_set (w:=σ.w) (o':=.map #[en] (clock+1)) hbk;rcases Vr (P:=P) (ty:=o3.type) (u:=u) (y:=y) ok1 r2 htt hi hz hne (Zah (P:=P) r2 hsrc) hb hmx with⟨rfl,hrun⟩|⟨news,rest,hys,hall,hr,hge,hcm,hcs,hrun⟩
  ·exact⟨_,σ1.w,Z3 h3 hc ha hty (by rw[v2];exact hrun),To.refl σ1,ok1,gs1,Yf (λ_ hx=>by cases hx) (yn _) (by simp[maxLen]) (ZY _) (λ_=>rfl) (λh=>absurd rfl h)⟩
  ·have hg:=YO σ1.w (.cells (news.toArray++rest) e) none;obtain⟨to,ok'⟩:=Zn5 ok1 hg;have hlen:news.length=ys.length*i.size:=by rw[repCs_size _ _ hr,sizes_all hall]
   have hlt:b < σ1.w.heap.size:=ok1.lt id b (getElem?_set_eq' hmb);refine⟨_,_,Z3 h3 hc ha hty (by rw[v2];exact hrun),to,ok',(hg.block b hlt (by simp)).trans gs1, ?_⟩;rw[hce];exact ZsX (ZY _) ok' hall (repCs_mono to.leaf.cells _ _ hr) (b:=σ1.w.heap.size) (cells:=news) (heap_alloc_new σ1.w.drew _) (ok1.new _ (yn _)) (ZdY ok1) (by simp) hge hcm
 obtain⟨v3,w3,x3,to3,ok3,hb3,hv3⟩:=key;refine Zf5 g3 n3 x3 ?_;rw[d3];let σ3:Sg:={ σ1 with w:=w3};have r3:RepT σ3 (((ts.set t0 .junk).set t1 .junk).set t2 .junk) (a2.put (some t2) v3):=ZlJ (r2.to to3.leaf);have s2:t2 < a2.tmps.size:=by rw[r2.size,yaz,yaz];exact l2
 generalize ha3:a2.put (some t2) v3=a3 at r3 ⊢;have v30:a3.eval (.tmp t0)=.tuple #[.slice none 0 0,goInt clock]:=by rw[←ha3,Zkh q02];exact v20
 have v32:a3.eval (.tmp t2)=v3:=by rw[←ha3];exact ZoD s2
 have x4:(execOp a3.eval o4).run P w3=.ok (.value (goInt clock)) w3:=by
  have:(Instr.extract (a3.eval (.tmp t0)) 1).run P w3=.ok (goInt clock) w3:=by rw[v30];simp[Instr.extract]
  simp[execOp,h4,this]
 refine Zf5 g4 n4 x4 ?_;rw[d4];have r4:RepT σ3 ((((ts.set t0 .junk).set t1 .junk).set t2 .junk).set t3 .junk) (a3.put (some t3) (goInt clock)):=ZlJ r3;have s3:t3 < a3.tmps.size:=by rw[r3.size,yaz,yaz,yaz];exact l3
 generalize ha4:a3.put (some t3) (goInt clock)=a4 at r4 ⊢;have v43:a4.eval (.tmp t3)=goInt clock:=by rw[←ha4];exact ZoD s3
 have v42:a4.eval (.tmp t2)=v3:=by rw[←ha4,Zkh q23];exact v32
 have hm5v:=Zn (P:=P) r4 t5 m5;rw[hm5] at hm5v;obtain⟨b5,hmb5,hm5v⟩:=ZpT hm5v;have hmb1:σ3.m[id]? =some (some b):=getElem?_set_eq' hmb;rw[hmb1] at hmb5;cases hmb5;have hH3:σ3.H[id]? =some (.map tm [(kk,.sl (some false) s0 [])]):=getElem?_set_eq' hH;let en5:MapEntry:={ key:=a.eval k,val:=v3,born:=clock};obtain⟨to5,ok5⟩:=Zeu (es':= #[en5]) (clock':=clock+1) ok3 hH3 hmb1 hb3 (l:=[(kk,.sl none (P.cellsOf e) ys)]) ⟨W7 to3.leaf (W7 to1.leaf hkv),hv3,trivial⟩
 have x5:(execOp a4.eval o5).run P w3=.ok .skip { w3 with heap:=w3.heap.setIfInBounds b (.map #[en5] (clock+1))}:=by
  have hmod:(#[en].modify 0 λe=>{ e with val:=v3})= #[en5]:=by
   apply Array.ext';simp[en,en5,Array.toList_modify]
  have hfi:(#[en].findIdx? λe=>(e.born:Int)==(clock:Int))=some 0:=by
   simp[Array.findIdx?,Array.findIdx?.loop,en]
  have:(Instr.entryStore t5 (a4.eval m5) (a4.eval (.tmp t3)) (a4.eval (.tmp t2))).run P w3=.ok () { w3 with heap:=w3.heap.setIfInBounds b (.map #[en5] (clock+1))}:=by
   rw[hm5v,v43,v42];simp only[Instr.entryStore,goInt,asInt,asIntOf,Sem.run_bind,Vb hb3,Result.andThen_ok,Sem.run_pure,hfi,hmod,Go.MapKept.run_setObj_map _ hb3]
  simp[execOp,h5,this]
 refine ZCB g5 n5 x5 ?_;rw[d5];refine hQ a4 _ ?_ (to1.trans (to3.trans to5)) ok5 (r4.to to5.leaf);show(σ.H.set id (.map tm [(kk,.sl (some false) s0 [])])).set id (.map tm [(kk,.sl none (P.cellsOf e) ys)])=_;rw[List.set_set]
end
end Go.Ev
end
section
namespace Go.Ev
section
variable{P:yg}{all:List TD}{H:List TEnt}{O:Type}{out:O}
def ZJw(o:Oper):Option (yc×ym×ym×Tmp):=
 match o.op,o.dst,o.guard with
 |.mapEntry t m k,some d,none=>some (t,m,k,d)
 |_,_,_=>none
theorem ZFs{o:Oper}{q:yc×ym×ym×Tmp}(h:ZJw o=some q):o.op=.mapEntry q.1 q.2.1 q.2.2.1∧o.dst=some q.2.2.2∧o.guard=none:=by
 unfold ZJw at h;split at h
 ·rename_i h1 h2 h3;cases h;exact⟨h1,h2,h3⟩
 ·cases h
def ZJx(o:Oper)(t n:Nat):Option Tmp:=
 match o.op,o.dst,o.guard with
 |.extract (.tmp x) m,some d,none=>if(decide (x=t)&&decide (m=n))=true then some d else none
 |_,_,_=>none
theorem ZwQ{o:Oper}{t n:Nat}{q:Tmp}(h:ZJx o t n=some q):o.op=.extract (.tmp t) n∧o.dst=some q∧o.guard=none:=by
 unfold ZJx at h;split at h
 ·rename_i h1 h2 h3;obtain⟨h4,h9⟩:=Za h;clear h;simp only[yi,decide_eq_true_eq] at h4;obtain⟨rfl,rfl⟩:=h4;cases h9;exact⟨h1,h2,h3⟩
 ·cases h
structure ApO where
 c:Call
 y:ym
 t:yc
 u:yc
 d:Tmp
def ZLa(o:Oper)(t:Nat):Option ApO:=
 match o.op,o.dst,o.guard with
 |.call c,some d,none=>match c.callee with
  |.builtin .append=>match c.args.toList,c.argTypes.toList with
   |[.tmp x,y],[tt,u]=>if decide (x=t)=true then some ⟨c,y,tt,u,d⟩ else none
   |_,_=>none
  |_=>none
 |_,_,_=>none
theorem ZFt{o:Oper}{t:Nat}{q:ApO}(h:ZLa o t=some q):o.op=.call q.c∧q.c.callee=.builtin .append∧q.c.args.toList=[.tmp t,q.y]∧q.c.argTypes.toList=[q.t,q.u]∧o.dst=some q.d∧o.guard=none:=by
 unfold ZLa at h;split at h
 ·rename_i h1 h2 h3;split at h
  ·rename_i h4;split at h
   ·rename_i h5 h6;obtain⟨h7,h9⟩:=Za h;clear h;have h7:=of_decide_eq_true h7;subst h7;cases h9;exact⟨h1,h4,h5,h6,h2,h3⟩
   ·cases h
  ·cases h
 ·cases h
def ZLb(o:Oper)(s v:Nat):Option (yc×ym):=
 match o.op,o.dst,o.guard with
 |.entryStore t m (.tmp x) (.tmp y),none,none=>if(decide (x=s)&&decide (y=v))=true then some (t,m) else none
 |_,_,_=>none
theorem ZFu{o:Oper}{s v:Nat}{q:yc×ym}(h:ZLb o s v=some q):o.op=.entryStore q.1 q.2 (.tmp s) (.tmp v)∧o.dst=none∧o.guard=none:=by
 unfold ZLb at h;split at h
 ·rename_i h1 h2 h3;obtain⟨h4,h9⟩:=Za h;clear h;simp only[yi,decide_eq_true_eq] at h4;obtain⟨rfl,rfl⟩:=h4;cases h9;exact⟨h1,h2,h3⟩
 ·cases h
def ZMb(P:yg)(t:yc)(m k:ym)(tt u:yc)(y:ym)(t5:yc)(m5:ym)(all all3 all5:List TD)(H:List TEnt)(K:List TEnt→Option O):Option O:=
 match P.underlying t,arT P all t m,arT P all5 t5 m5,P.underlying tt with
 |some (.map kt et),some (.mp id),some (.mp id'),some (.slice e)=>(Ztv H id).bind λme=>(arT P all kt k).bind λkd=>(ZAi kd me.k).bind λkey=>(Ztx P et).bind λz=>
  match z with
  |.sl (some false) _ []=>(P.info? e).bind λi=>(Zjq P tyD e).bind λT=>(arT P all3 u y).bind λyd=>(ZxM (lk H) P T u yd).bind λys=>(TP.to Zha (.v (.sl T) ys) me.v).bind λv=>
   if(decide (id=id')&&me.l.isEmpty&&ZmD P kt me.k&&Zlv P et&&zOk i&&decide (i.size≠0)&&decide (P.cellsOf e=T.size)&&Zz9 ys.length i.bytes)=true then
    K (H.set id (.map me.tid me.k me.v [(key,v)])) else none
  |_=>none
 |_,_,_,_=>none
def ZDZ(P:yg)(l:List Oper)(all:List TD)(H:List TEnt)(K:List TD→List TEnt→Option O):Option O:=
 match l with
 |[o1,o2,o3,o4,o5]=>(ZJw o1).bind λq1=>(ZJx o2 q1.2.2.2 0).bind λt1=>(ZLa o3 t1).bind λq3=>(ZJx o4 q1.2.2.2 1).bind λt3=>(ZLb o5 t3 q3.d).bind λq5=>
  if(decide (q1.2.2.2≠t1)&&decide (q1.2.2.2≠q3.d)&&decide (q3.d≠t3)&&decide (q1.2.2.2 < all.length)&&decide (t1 < all.length)&&decide (q3.d < all.length)&&decide (t3 < all.length))=true then
   ZMb P q1.1 q1.2.1 q1.2.2.1 q3.t q3.u q3.y q5.1 q5.2 all ((all.set q1.2.2.2 .junk).set t1 .junk) ((((all.set q1.2.2.2 .junk).set t1 .junk).set q3.d .junk).set t3 .junk) H
    (K ((((all.set q1.2.2.2 .junk).set t1 .junk).set q3.d .junk).set t3 .junk))
  else none
 |_=>none
theorem Zcb{L:Lk}(l:List TD)(i:Nat)(d:TD):TD.ers L (l.set i d)=(TD.ers L l).set i (d.er L):=by rw[ZI,ZI,ybf]
theorem ZCC{ops:Array Oper}{l:List Oper}{p:Nat}{K:List TD→List TEnt→Option O}(hops:∀(j:Nat)(x:Oper),l[j]? =some x→ops[p+j]? =some x)(h:ZDZ P l all H K=some out):
 ∃a H',K a H'=some out∧a.length=all.length∧l.length=5∧∀(Q:Exit→Act→yy→Prop)(act:Act)(σ:Sg),Ok σ→σ.H=erH H→RepT σ (TD.ers (lk H) all) act→
  (∀a' σ',σ'.H=erH H'→To σ σ'→Ok σ'→RepT σ' (TD.ers (lk H') a) a'→Q .normal a' σ'.w)→wpOps P ops Q (List.range' p 5) act σ.w:=by
 unfold ZDZ at h;split at h
 ·rename_i o1 o2 o3 o4 o5;obtain⟨⟨t,m,k,t0⟩,h1,h⟩:=yf.1 h;obtain⟨t1,h2,h⟩:=yf.1 h;obtain⟨⟨c,y,tt,u,t2⟩,h3,h⟩:=yf.1 h;obtain⟨t3,h4,h⟩:=yf.1 h;obtain⟨⟨t5,m5⟩,h5,h⟩:=yf.1 h;obtain⟨hq,h⟩:=Za h;obtain⟨a1,a2,a3⟩:=ZFs h1;obtain⟨b1,b2,b3⟩:=ZwQ h2;obtain⟨c1,c2,c3,c4,c5,c6⟩:=ZFt h3;obtain⟨d1,d2,d3⟩:=ZwQ h4;obtain⟨e1,e2,e3⟩:=ZFu h5;simp only[yi,decide_eq_true_eq] at hq;obtain⟨⟨⟨⟨⟨⟨q1,q2⟩,q3⟩,q4⟩,q5⟩,q6⟩,q7⟩:=hq;dsimp only at h a1 a2 b1 c1 c2 c3 c4 c5 d1 e1 q1 q2 q3 q4 q5 q6 q7;unfold ZMb at h;split at h
  ·rename_i kt et id id' e hu hm hm5 htt;obtain⟨me,f1,h⟩:=yf.1 h;obtain⟨kd,f2,h⟩:=yf.1 h;obtain⟨key,f3,h⟩:=yf.1 h;obtain⟨z,f4,h⟩:=yf.1 h;split at h
   ·rename_i zt;obtain⟨i,f5,h⟩:=yf.1 h;obtain⟨T,f6,h⟩:=yf.1 h;obtain⟨yd,f7,h⟩:=yf.1 h;obtain⟨ys,f8,h⟩:=yf.1 h;obtain⟨v,f9,h⟩:=yf.1 h;obtain⟨f10,h99⟩:=Za h;clear h;simp only[yi,decide_eq_true_eq] at f10;obtain⟨⟨⟨⟨⟨⟨⟨r1,r2⟩,r3⟩,r4⟩,r5⟩,r6⟩,r7⟩,r8⟩:=f10;subst r1;obtain⟨g1,g2⟩:=ZeO f1;have hle:=List.isEmpty_iff.1 r2;have hlk:lk (H.set id (.map me.tid me.k me.v [(key,v)]))=lk H:=Ve g1 rfl rfl;have hv:Pl.sl none T.size (ys.map T.enc)=me.v.enc v:=Zkc _ _ _ f9;refine⟨_,_,h99,by simp,rfl,λQ act σ ok hH hrep hQ=> ?_⟩;have hk:=Zr (L:=lk H) f2;rw[Zow f3] at hk;have hmm:=Zr (L:=lk H) hm;rw[TD.er] at hmm;have hm5':=Zr (L:=lk H) hm5;rw[TD.er] at hm5';have hy:=Zr (L:=lk H) f7;rw[hle] at g2;obtain⟨s1,s2⟩:=ZaG r8
    refine ZJv (P:=P) (σ:=σ) (ts:=TD.ers (lk H) all) (a:=act) (Q:=Q) (p:=p) (o1:=o1) (o2:=o2) (o3:=o3) (o4:=o4) (o5:=o5) (by simpa using hops 0 o1 rfl) (hops 1 o2 rfl) (hops 2 o3 rfl) (hops 3 o4 rfl) (hops 4 o5 rfl)
     a3 b3 c6 d3 e3 a1 a2 b1 b2 c1 c2 c3 c4 c5 d1 d2 e1 e2 q1 q2 q3 (by rw[Zh5];exact q4) (by rw[Zh5];exact q5) (by rw[Zh5];exact q6) (by rw[Zh5];exact q7)
     ok hrep (kk:=me.k.enc key) (tm:=me.tid) (s0:=zt.size) (ys:=ys.map T.enc) (i:=i) hu hmm hk (by rw[hH];exact g2) (Ztw r3) (Zd2 r3 key) r4 (Zke f4) htt f5 r5 r6 ?_ (by rw[yz];exact s1) (by rw[yz];exact s2) ?_ ?_
    ·rw[Zcb,Zcb] at hy;rw[r7];rw[show(Dv.junk)=TD.er (lk H) .junk from rfl,hy]
     exact Zh7 f8
    ·rw[Zcb,Zcb,Zcb,Zcb] at hm5';exact hm5'
    ·intro a' σ' w1 w2 w3 w4;refine hQ a' σ' ?_ w2 w3 ?_
     ·rw[Xj hlk,w1,hH,r7,hv];rfl
     ·rw[hlk,Zcb,Zcb,Zcb,Zcb];exact w4
   ·cases h
  ·cases h
 ·cases h
def ZLc(ops:Array Oper):Bool:=
 match ops.toList.drop (ops.size - 5) with
 |[o1,_,_,_,_]=>(ZJw o1).isSome
 |_=>false
theorem ZFv{hi:HI}{specs:Sp P}{ops:Array Oper}{K:List TD→List TEnt→Option O}(ok:SpOk specs)
 (h:ZCy P hi specs ops (ops.toList.take (ops.size - 5)) all H (λa h _=>ZDZ P (ops.toList.drop (ops.size - 5)) a h K)=some out):
 ∃a h,K a h=some out∧a.length=all.length∧∀id,X3 P (.region id ops false) (TD.ers (lk H) all) (erH H) .normal (TD.ers (lk h) a) (erH h):=by
 obtain⟨a,h',hs,C,k1,k0,k2,k3⟩:=Zp5 ok _ _ _ _ h
 have hops:∀(j:Nat)(x:Oper),(ops.toList.drop (ops.size - 5))[j]? =some x→ops[(ops.size - 5)+j]? =some x:=λj x hj=>by
  rw[List.getElem?_drop] at hj;simpa using hj
 obtain⟨a2,h2,j1,j2,j3,j4⟩:=ZCC hops k1;refine⟨a2,h2,j1,by rw[j2,k0],λid=> ?_⟩;intro σ act okσ hH hrep;refine wp_region ?_;have e0:=k3 [];rw[ybh] at e0
 have hl:ops.size=(ops.size - 5)+5:=by
  rw[List.length_drop,Array.length_toList] at j3;omega
 have hr:yv ops.size=List.range' 0 (ops.toList.take (ops.size - 5)).length++List.range' (ops.size - 5) 5:=by
  rw[List.length_take,Array.length_toList,Nat.min_eq_left (by omega),List.range_eq_range']
  conv=>lhs;rw[hl]
  have:=List.range'_append (s:=0) (m:=ops.size - 5) (n:=5) (step:=1);simp only[Nat.zero_add,Nat.one_mul] at this;exact this.symm
 rw[hr];refine ZtQ (P:=P) (ops:=ops) _ (List.range' (ops.size - 5) 5) _ 0 _ σ act hs [] C _ (λj x hj=> ?_) okσ hrep (by rw[hH];exact e0) k2 ?_
 ·rw[ycd] at hj;split at hj
  ·simpa using hj
  ·cases hj
 ·intro a' σ' e1 to1 ok1 hrep1;refine j4 _ a' σ' ok1 e1 hrep1 λa'' σ'' e2 to2 ok2 hrep2=> ?_;exact⟨rfl,σ'',rfl,e2,to1.trans to2,ok2,hrep2⟩
end
end Go.Ev
end
