/- Parts of the proof, in one file. -/
import Derived.Test.YtdhclndplbopgaaGreatKc
open Bool renaming and_eq_true → yj, false_eq_true → yby, or_eq_true → ycj
open Go renaming TypeId → yc, Program → yg, Operand → yn, FuncId → yu
open List renaming length_append → yo, getElem?_eq_some_iff → yq, range → yv, nil_append → yw, replicate → yx, length_map → yy, cons_append → yz, getElem?_eq_getElem → yab, append_assoc → yad, map_cons → yag, length_cons → yaj, getElem?_map → yal, take_length → yao, getElem?_eq_none → yaq, getElem?_append_left → yar, map_append → yas, getElem?_append_right → yat, mem_cons_self → yaw, getElem?_cons_succ → yax, mem_cons_of_mem → yay, append_nil → yaz, getElem?_cons_zero → ybb, map_map → ybe, all_eq_true → ybg, map_set → ybp, length_set → ybq, ext_getElem? → ybr, getElem?_set → ybv, map_take → ycd, map_nil → yce, map_congr_left → ycn, length_nil → yco, length_replicate → yct, getElem?_set_self → ycv, getD_eq_getElem?_getD → ycx
open Nat renaming le_refl → ym, add_zero → ybw
open Option renaming bind_some → ya, bind_eq_some_iff → yf, map_eq_some_iff → yp, map_some → yaa
open Option.some renaming injEq → yi
set_option linter.unusedVariables false
set_option linter.unusedSimpArgs false
section
namespace Go.Ev
section
variable{P:yg}{o:Oper}{ts all:yL TD}{H:yL TEnt}{O:Type}{K:Kn O}{out:O}
theorem same_set{id:Nat}{e x:TEnt}(hx:H[id]? =some x)(h1:x.isLog=false)(h2:e.isLog=false):TD.ers (lk (H.set id e)) all=TD.ers (lk H) all:=by rw[Zas hx h1 h2]
def ZB3(P:yg)(t:yc)(all:yL TD)(H:yL TEnt)(K:Kn O)(kd vd:yc->yO TD):TD->yO O
 |.mp id=>match P.underlying t with
  |some (.map kt et)=>(ZAJ H id).bind λm=>(kd kt).bind λx=>(ZIb x m.k).bind λkey=>((vd et).bind (TD.flat (lk H))).bind λz=>(TP.to ZnN z m.v).bind λy=>
   if Zsn P kt m.k=true then K all .junk (H.set id (.map m.tid m.k m.v (@ZvG m.k.den m.v.den (Ty.deq m.k) m.l key y))) [.kvs (kvl m.k.enc m.v.enc (@ZvG m.k.den m.v.den (Ty.deq m.k) m.l key y))] 2 else none
  |_=>none
 |_=>none
theorem ZB4{t:yc}{x k v:yn}{xd:TD}(ho:o.op=.mapUpdate t x k v)(hx:arT P ts t x=some xd)(h:ZB3 P t all H K (λkt=>arT P ts kt k) (λet=>arT P ts et v) xd=some out):
 ∃a d H' hs c,K a d H' hs c=some out/\Good P o ts all H a d H' hs c:=by
 have hv:=ZA (L:=lk H) hx;unfold ZB3 at h;split at h
 ·rename_i id;split at h
  ·rename_i kt et hu;obtain⟨m,h1,h⟩:=yf.1 h;obtain⟨kd,h2,h⟩:=yf.1 h;obtain⟨key,h3,h⟩:=yf.1 h;obtain⟨z,h4,h⟩:=yf.1 h;obtain⟨zd,h40,h41⟩:=yf.1 h4;obtain⟨y,h6,h⟩:=yf.1 h;obtain⟨h5,h⟩:=Za h;obtain⟨e1,e2⟩:=Zln h1;have hk:=ZA (L:=lk H) h2;rw[Zxm h3] at hk;have hz:=ZA (L:=lk H) h40
   letI:=Ty.deq m.k
   refine⟨_,_,_,_,_,h,same_set e1 rfl rfl,rfl,or3 (⟨rfl,λyK=> ?_,λyK=> ?_,[fitP P 20 kt (m.k.enc key),ZiJ P kt (kvl m.k.enc m.v.enc m.l),Zqu (kvl m.k.enc m.v.enc m.l) (m.k.enc key) z.pe.soft (kvl m.k.enc m.v.enc (ZvG m.l key y))],
    ⟨ZiY h5 key,Zpm (ZiY h5) _,by rw[ZiT z m.v y h6];exact Zxd (Zwr h5) _ _ _,ytt⟩,λyK=> ?_⟩)⟩
   ·unfold evN;rw[ho]
   ·unfold evR;rw[ho]
   ·unfold evE;rw[ho];dsimp only;rw[hu,hv];dsimp only[TD.er];rw[hk,hz,ZEn h41,e2]
    try dsimp only
    rw[yz,yw]
    try dsimp only
    rw[yW (ZBY h5),Vn (Zas e1 rfl rfl)];rfl
  ·cases h
 ·cases h
def ZB5(P:yg)(t:yc)(all:yL TD)(H:yL TEnt)(K:Kn O)(kd:yO TD):TD->yO O
 |.mp id=>match P.underlying t with
  |some (.map kt et)=>(ZAJ H id).bind λm=>kd.bind λx=>(ZIb x m.k).bind λkey=>
   if Zsn P kt m.k=true then K all (.tup []) (H.set id (.map m.tid m.k m.v (@ZJy m.k.den m.v.den (Ty.deq m.k) m.l key))) [.kvs (kvl m.k.enc m.v.enc (@ZJy m.k.den m.v.den (Ty.deq m.k) m.l key))] 2 else none
  |_=>none
 |_=>none
theorem ZB6{t u:yc}{x k:yn}{c:Call}{xd:TD}(ho:o.op=.call c)(hc:c.callee=.builtin .delete)(ha:c.args.toList=[x,k])(ht:c.argTypes.toList=[t,u])(hx:arT P ts t x=some xd)
 (h:ZB5 P t all H K (arT P ts u k) xd=some out):∃a d H' hs c,K a d H' hs c=some out/\Good P o ts all H a d H' hs c:=by
 have hv:=ZA (L:=lk H) hx;unfold ZB5 at h;split at h
 ·rename_i id;split at h
  ·rename_i kt et hu;obtain⟨m,h1,h⟩:=yf.1 h;obtain⟨kd,h2,h⟩:=yf.1 h;obtain⟨key,h3,h⟩:=yf.1 h;obtain⟨h5,h⟩:=Za h;obtain⟨e1,e2⟩:=Zln h1;have hk:=ZA (L:=lk H) h2;rw[Zxm h3] at hk
   letI:=Ty.deq m.k
   refine⟨_,_,_,_,_,h,same_set e1 rfl rfl,rfl,or3 (⟨rfl,λyK=> ?_,λyK=> ?_,[fitP P 20 kt (m.k.enc key),ZiJ P kt (kvl m.k.enc m.v.enc m.l),Zqv (kvl m.k.enc m.v.enc m.l) (m.k.enc key) (kvl m.k.enc m.v.enc (ZJy m.l key))],
    ⟨ZiY h5 key,Zpm (ZiY h5) _,Zxe (Zwr h5) _ _,ytt⟩,λyK=> ?_⟩)⟩
   ·unfold evN;rw[ho];dsimp only;rw[hc]
   ·unfold evR;rw[ho];dsimp only;rw[hc]
   ·unfold evE;rw[ho];dsimp only;rw[hc];dsimp only;rw[ha,ht];dsimp only;rw[hu,hv];dsimp only[TD.er];rw[hk,e2]
    try dsimp only
    rw[yz,yw]
    try dsimp only
    rw[yW (ZBY h5),Vn (Zas e1 rfl rfl)];rfl
  ·cases h
 ·cases h
def TP.nilT(x:TP)(T:Ty):Bool:=
 match x with
 |.sl (some false) t []=>decide (t.size=T.size)
 |_=>false
theorem ZIc{x:TP}{T:Ty}(h:x.nilT T=true):x.pe=.sl (some false) T.size []:=by
 unfold TP.nilT at h;split at h
 ·rename_i t;show Pl.sl (some false) t.size []=_;rw[yF h]
 ·cases h
def Zlo(T:Ty)(new:TD):yL Nat->TD->yO TD
 |[],.p x=>if x.nilT T then some new else none
 |i::r,.p x=>x.parts.bind λl=>(l[i]?).bind λz=>(Zlo T new r (.p z)).map λy=>.agg ((l.map .p).set i y)
 |i::r,.agg ds=>(ds[i]?).bind λz=>(Zlo T new r z).map λy=>.agg (ds.set i y)
 |_,_=>none
theorem Zps{L:Lk}{T:Ty}{new:TD}:∀(yQ:yL Nat)(d d':TD),Zlo T new yQ d=some d'->X7 (d.er L) yQ T.size (new.er L)=some (d'.er L)
 |[],d,d',h=>by
  cases d with
  |p x=>
   simp only[Zlo] at h;split at h
   ·rename_i hn;cases h;rw[TD.er,ZIc hn];simp[X7]
   ·cases h
  |_=>cases h
 |i::r,d,d',h=>by
  cases d with
  |p x=>
   simp only[Zlo] at h;obtain⟨l,h1,h⟩:=yf.1 h;obtain⟨z,h2,h⟩:=yf.1 h;obtain⟨y,h3,rfl⟩:=Zd h;have:=Zps (L:=L) r (.p z) y h3;rw[TD.er,ZEk h1];unfold X7;rw[show(TP.pes l)[i]? =some z.pe by rw[Zeu,yal,h2];rfl];dsimp only;rw[TD.er] at this
   rw[this,yaa,TD.er,ZN,ybp, <-ZN,ZLc]
  |agg ds=>
   simp only[Zlo] at h;obtain⟨z,h2,h⟩:=yf.1 h;obtain⟨y,h3,rfl⟩:=Zd h;have:=Zps (L:=L) r z y h3;rw[TD.er];unfold X7;rw[ZiS h2];dsimp only
   rw[this,yaa,TD.er,ZN,ZN,ybp]
  |_=>cases h
def Zsp(d:TD)(n:Nat):yL (yL Nat×Ty×yc)->yO (TD×yL (Ty×yc))
 |[]=>some (d,[])
 |q::r=>(Zlo q.2.1 (.own n none q.2.1 none) q.1 d).bind λd'=>(Zsp d' (n+1) r).map λz=>(z.1,(q.2.1,q.2.2)::z.2)
def ghH(l:yL (yL Nat×Ty×yc)):yL Hint:=l.map λq=>.ghost q.1 q.2.1.size q.2.2
def ZEz(l:yL (Ty×yc)):yL TEnt:=l.map λq=>.log q.1 q.2 []
def ZLi(L:Lk)(n:Nat):Prop:=∀id t,n<=id->Yb L id t none=[]
theorem Zrm{L:Lk}:∀(l:yL (yL Nat×Ty×yc))(d:TD)(n:Nat)(z:TD×yL (Ty×yc)),ZLi L n->Zsp d n l=some z->∀yK,
 YB (d.er L) n (ghH l++.raw::yK)=(z.1.er L,z.2.map (λq=>Ent.log q.1.size q.2 []),.raw::yK)
 |[],d,n,z,hN,h,yK=>by cases h;rfl
 |q::r,d,n,z,hN,h,yK=>by
  simp only[Zsp] at h;obtain⟨d',h1,h⟩:=yf.1 h;obtain⟨w,h2,rfl⟩:=Zd h;have e:=Zps (L:=L) q.1 d d' h1;rw[TD.er,hN n q.2.1 (ym _)] at e;have ih:=Zrm r d' (n+1) w (λid t h=>hN id t (by omega)) h2 yK;show YB (d.er L) n (.ghost q.1 q.2.1.size q.2.2::(ghH r++.raw::yK))=_;unfold YB;rw[show X7 (d.er L) q.1 q.2.1.size (Dv.own n none q.2.1.size [])=some (d'.er L) from e]
  dsimp only;rw[ih];rfl
theorem ZLj(H:yL TEnt):ZLi (lk H) H.length:=λid t h=>by
 unfold Yb lk;rw[yaq h];rfl
theorem ZtO:∀(l:yL (Ty×yc))(H:yL TEnt),(∀id t,Yb (lk H) id t none=Yb (lk (H++ZEz l)) id t none)/\erH (H++ZEz l)=erH H++l.map (λq=>Ent.log q.1.size q.2 [])
 |[],H=>by simp[ZEz]
 |q::l,H=>by
  have e:H++ZEz (q::l)=(H++[.log q.1 q.2 []])++ZEz l:=by simp[ZEz]
  obtain⟨h1,h2⟩:=ZtO l (H++[.log q.1 q.2 []]);rw[e];refine⟨λid t=>(Zsm id t).trans (h1 id t), ?_⟩;rw[h2,ZBX];simp
def newVar(hi:HI)(dst:yO Tmp)(d:TD)(all:yL TD)(H:yL TEnt)(K:Kn O):yO O:=
 match dst with
 |some t=>match hi.ghost.lookup t with
  |some l=>(Zsp d (H.length+1) l).bind λz=>K all (.ref H.length []) (H++[.var z.1 true]++ZEz z.2) (ghH l++[.raw]) 2
  |none=>K all (.ref H.length []) (H++[.var d true]) [.raw] 2
 |none=>none
theorem Zu0{hi:HI}{dst:yO Tmp}{d:TD}(h:newVar hi dst d all H K=some out):
 ∃H' hs gd gl,K all (.ref H.length []) H' hs 2=some out/\TD.ers (lk H') all=TD.ers (lk H) all/\erH H'=erH H++Ent.var gd true::gl/\∀yK,YB (d.er (lk H)) ((erH H).length+1) (hs++yK)=(gd,gl,.raw::yK):=by
 unfold newVar at h;split at h
 ·rename_i t;split at h
  ·rename_i l hl;obtain⟨z,h1,h⟩:=yf.1 h;obtain⟨c1,c2⟩:=ZtO z.2 (H++[.var z.1 true]);have hL:lk (H++[.var z.1 true])=lk H:=ZgI rfl;refine⟨_,_,z.1.er (lk H),z.2.map (λq=>Ent.log q.1.size q.2 []),h, ?_, ?_,λyK=> ?_⟩
   ·rw[<-ers_cont c1 all,hL]
   ·rw[c2,ZeT hL];simp[TEnt.er]
   ·rw[ZS,yad];exact Zrm l d _ z (λid t hh=>ZLj H id t (by omega)) h1 yK
  ·refine⟨_,_,d.er (lk H),[],h,Zd7 rfl, ?_,λyK=> ?_⟩
   ·rw[ZeT (ZgI rfl)];rfl
   ·rfl
 ·cases h
def ZGK(P:yg)(hi:HI)(dst:yO Tmp)(t:yc)(all:yL TD)(H:yL TEnt)(K:Kn O):yO O:=
 (P.info? t).bind λi=>(ZAK P t).bind λz=>if(zOk i&&okT P t (Wt P t)&&(Wt P t).solid)=true then newVar hi dst (.p z) all H K else none
theorem ZEA{hi:HI}{t:yc}(ho:o.op=.alloc t)(h:ZGK P hi o.dst t all H K=some out):∃a d H' hs c,K a d H' hs c=some out/\Good P o ts all H a d H' hs c:=by
 unfold ZGK at h;obtain⟨i,h1,h⟩:=yf.1 h;obtain⟨z,h2,h⟩:=yf.1 h;obtain⟨h3,h⟩:=Za h;obtain⟨H',hs,gd,gl,k1,k2,k3,k4⟩:=Zu0 h;refine⟨_,_,_,_,_,k1,k2,rfl,or3 (⟨rfl,λyK=> ?_,λyK=> ?_,[],zP,λyK=> ?_⟩)⟩
 ·unfold evN;rw[ho]
 ·unfold evR;rw[ho]
 ·have k5:=k4 yK;rw[TD.er, <-Zso h2] at k5;unfold evE;rw[ho];dsimp only;rw[h1];dsimp only;rw[k5];dsimp only;rw[yW h3,k3,ZS];rfl
def ZNY(L:Lk)(d:TD):TD:=
 match d.plain L with
 |some y=>.p y
 |none=>d
theorem ZNZ{L:Lk}(d:TD):(ZNY L d).er L=ZGa (d.er L):=by
 unfold ZNY ZGa
 cases h:d.plain L with
 |none=>rw[Zxl h]
 |some y=>rw[ZAF h];rfl
def ZPX(hi:HI)(dst:yO Tmp)(all:yL TD)(H:yL TEnt)(K:Kn O)(d:TD):yO O:=
 if((ZNY (lk H) d).er (lk H)).solid=true then newVar hi dst (ZNY (lk H) d) all H K else none
theorem ZJD{hi:HI}{t:yc}{x:yn}{xd:TD}(ho:o.op=.box t x)(hx:arT P ts t x=some xd)(h:ZPX hi o.dst all H K xd=some out):∃a d H' hs c,K a d H' hs c=some out/\Good P o ts all H a d H' hs c:=by
 have hv:=ZA (L:=lk H) hx;unfold ZPX at h;obtain⟨h3,h⟩:=Za h;obtain⟨H',hs,gd,gl,k1,k2,k3,k4⟩:=Zu0 h;refine⟨_,_,_,_,_,k1,k2,rfl,or3 (⟨rfl,λyK=> ?_,λyK=> ?_,[],zP,λyK=> ?_⟩)⟩
 ·unfold evN;rw[ho]
 ·unfold evR;rw[ho]
 ·have k5:=k4 yK;rw[ZNZ] at k5 h3;unfold evE;rw[ho];dsimp only;rw[hv,k5];dsimp only;rw[yW h3,k3,ZS];rfl
def TD.meltP(L:Lk)(v:TD):TD:=
 match v.flat L with
 |some x=>.p x
 |none=>v
theorem Zxo{L:Lk}(v:TD):(v.meltP L).er L=(v.er L).meltP:=by
 unfold TD.meltP Dv.meltP;rw[Zwq];cases v.flat L <;> rfl
def ZB7(L:Lk)(yQ:yL Stp)(d v:TD):yO TD:=
 match d,yQ with
 |.p _,_=>some (v.meltP L)
 |_,[]=>some (v.meltP L)
 |_,_=>some v
theorem ZtP{L:Lk}{yQ:yL Stp}{d v new:TD}(h:ZB7 L yQ d v=some new):Zhm (yQ.map Stp.i) (d.er L) (v.er L)=some (new.er L):=by
 unfold ZB7 at h;split at h
 ·cases h;unfold Zhm;rw[TD.er];dsimp only;rw[Zxo]
 ·cases h;unfold Zhm;split
  ·rw[Zxo]
  ·simp only[yce];rw[Zxo]
 ·rename_i h1 h2;cases h;unfold Zhm;split
  ·rename_i z hz;cases d <;> first|cases hz|skip
   rename_i q;exact absurd rfl (h1 q)
  ·cases yQ with
   |nil=>exact absurd rfl h2
   |cons _ _=>rfl
def Zpt(P:yg)(t:yc)(new sub:Dv):Bool:=new.solid&&new.size==sub.size&&P.cellsOf t==new.size&&(P.info? t).isSome&&new.isAgg==sub.isAgg
def ZRb(hi:HI):yn->yL (yL Nat×Ty×yc)
 |.tmp t=>(hi.gst.lookup t).getD []
 |_=>[]
def ZGL(P:yg)(gs:yL (yL Nat×Ty×yc))(t:yc)(all:yL TD)(H:yL TEnt)(K:Kn O)(v:TD):TD->yO O
 |.ref id yQ=>match H[id]? with
  |some (.var d true)=>gpT (lk H) yQ d λsub hs put=>(ZB7 (lk H) yQ d v).bind λnew=>(put new).bind λd'=>(Zsp d' H.length gs).bind λz=>
   if Zpt P t (new.er (lk H)) (sub.er (lk H))=true then K all .junk (H.set id (.var z.1 true)++ZEz z.2) (hs++(ghH gs++[.raw])) 2 else none
  |_=>none
 |.rref id v' yQ=>match H[id]? with
  |some (.row w s true e d)=>gpT (lk H) yQ d λsub hs put=>(ZB7 (lk H) yQ d v).bind λnew=>(put new).bind λd'=>
   if(Zpt P t (new.er (lk H)) (sub.er (lk H))&&w==v'&&rowN (d'.er (lk H)) s==rowN (d.er (lk H)) s)=true then K all .junk (H.set id (.row v' s true e d')) hs 2 else none
  |_=>none
 |_=>none
theorem ZEB{gs:yL (yL Nat×Ty×yc)}{t:yc}{x y:yn}{xd yd:TD}(ho:o.op=.store t x y)(hx:arT P ts 0 x=some xd)(hy:arT P ts t y=some yd)(h:ZGL P gs t all H K yd xd=some out):
 ∃a d H' hs c,K a d H' hs c=some out/\Good P o ts all H a d H' hs c:=by
 have hv:=ZA (L:=lk H) hx;have hw:=ZA (L:=lk H) hy;unfold ZGL at h;split at h
 ·rename_i id yQ;split at h
  ·rename_i d hd;obtain⟨sub,hs,put,C,k1,k2,k3,k4⟩:=Vc _ _ _ _ h;obtain⟨new,h1,h2⟩:=yf.1 k1;obtain⟨d',h3,h2⟩:=yf.1 h2;obtain⟨z,h5,h2⟩:=yf.1 h2;obtain⟨h4,h2⟩:=Za h2;unfold Zpt at h4;obtain⟨g1,g2⟩:=ZtO z.2 (H.set id (.var z.1 true));have hL:lk (H.set id (.var z.1 true))=lk H:=Zas hd rfl rfl;refine⟨_,_,_,_,_,h2, ?_,rfl,or3 (⟨rfl,λyK=> ?_,λyK=> ?_,C++[ZgJ yQ=VZ yQ],Zq.2 ⟨k2,(Vw _).symm,ytt⟩,λyK=> ?_⟩)⟩
   ·rw[<-ers_cont g1 all,hL]
   ·unfold evN;rw[ho]
   ·unfold evR;rw[ho]
   ·have k5:=Zrm gs d' H.length z (ZLj H) h5 yK;unfold evE;rw[ho];dsimp only;rw[hv,hw];dsimp only[TD.er];rw[Ym hd];dsimp only[TEnt.er];rw[yad,k3 (ghH gs++[Hint.raw]++yK)];dsimp only;rw[ZtP h1];dsimp only;rw[k4 new d' h3 _];dsimp only;rw[yW h4,ZS,yad];rw[show([Hint.raw]++yK)=.raw::yK from rfl,k5]
    dsimp only;rw[g2,Vn hL];rfl
  ·cases h
 ·rename_i id v' yQ;split at h
  ·rename_i w s e d hd;obtain⟨sub,hs,put,C,k1,k2,k3,k4⟩:=Vc _ _ _ _ h;obtain⟨new,h1,h2⟩:=yf.1 k1;obtain⟨d',h3,h2⟩:=yf.1 h2;obtain⟨h4,h2⟩:=Za h2;rw[yj,yj] at h4;obtain⟨⟨h4,h5⟩,h6⟩:=h4;have h4':=h4;unfold Zpt at h4';have hL:lk (H.set id (.row v' s true e d'))=lk H:=Zas hd rfl rfl;refine⟨_,_,_,_,_,h2,same_set hd rfl rfl,rfl,or3 (⟨rfl,λyK=> ?_,λyK=> ?_,C++[ZgJ yQ=VZ yQ],Zq.2 ⟨k2,(Vw _).symm,ytt⟩,λyK=> ?_⟩)⟩
   ·unfold evN;rw[ho]
   ·unfold evR;rw[ho]
   ·unfold evE;rw[ho];dsimp only;rw[hv,hw];dsimp only[TD.er];rw[Ym hd];dsimp only[TEnt.er];rw[k3 yK];dsimp only;rw[ZtP h1];dsimp only;rw[k4 new d' h3 _];dsimp only;rw[yW (by simp only[yj] at h4' ⊢;exact⟨⟨h4',h5⟩,h6⟩),Vn hL];rfl
  ·cases h
 ·cases h
def ZB8(P:yg)(ts:yL TD)(t:yc)(len:Nat)(parts:yL (Nat×yn))(all:yL TD)(H:yL TEnt)(K:Kn O):yO O:=
 ZGD (lk H) P ts t len parts λT l e=>K all (.rv H.length 0 T.size 0 len) (H++[.row 0 T.size true e (.p (.v (.arr len T) l))]) [.arr] 2
theorem ZB9{t:yc}{len:Nat}{parts:Array (Nat×yn)}(ho:o.op=.buildSlice t len parts)(h:ZB8 P ts t len parts.toList all H K=some out):
 ∃a d H' hs c,K a d H' hs c=some out/\Good P o ts all H a d H' hs c:=by
 unfold ZB8 at h;obtain⟨e,T,l,i,xs,h1,hu,hi,hl,hz,hs,hx⟩:=Zkg h;refine⟨_,_,_,_,_,h1,Zd7 rfl,rfl,or3 (⟨rfl,λyK=> ?_,λyK=> ?_,[],zP,λyK=> ?_⟩)⟩
 ·unfold evN;rw[ho];rfl
 ·unfold evR;rw[ho]
 ·unfold evE;rw[ho];dsimp only;rw[yz,yw];dsimp only;rw[hu];dsimp only;rw[hi,hl];dsimp only;rw[yW (by simpa using hz),hx,ZeT (ZgI rfl),ZS,hs];rfl
def ZLk(P:yg)(ts:yL TD)(e:yc):yL (Nat×yn)->yO (yL TD)
 |[]=>some []
 |q::r=>match arT P ts e q.2,ZLk P ts e r with
  |some d,some ds=>some (d::ds)
  |_,_=>none
theorem ZId{L:Lk}{e:yc}:∀{parts:yL (Nat×yn)}{ds:yL TD},ZLk P ts e parts=some ds->(parts.map λq=>ZC P (TD.ers L ts) e q.2)=TD.ers L ds
 |[],ds,h=>by cases h;rfl
 |q::r,ds,h=>by
  simp only[ZLk] at h;split at h
  ·rename_i d l h1 h2;cases h;rw[yag,ZA h1,ZId h2,TD.ers]
  ·cases h
def ZRc(P:yg)(ts:yL TD)(t:yc)(L:Lk)(parts:yL (Nat×yn)):Bool:=
 match P.underlying t with
 |some (.slice e)=>match ZLk P ts e parts with
  |some ds=>ds.all λd=>(d.flat L).isSome
  |none=>true
 |_=>true
def Zxp(P:yg)(ts:yL TD)(t:yc)(len:Nat)(parts:yL (Nat×yn))(all:yL TD)(H:yL TEnt)(K:Kn O):yO O:=
 match P.underlying t with
 |some (.slice e)=>(P.info? e).bind λi=>(ZLk P ts e parts).bind λds=>
  if((parts.map (·.1)==yv len)&&((TD.ers (lk H) ds).all λd=>d.solid&&d.size==P.cellsOf e)&&(zOk i&&i.size !=0&&decide (len*i.size<=16777216)))=true then
   K all (.rv H.length 0 i.size 0 len) (H++[.row 0 i.size true e (.arr len i.size ds)]) [.raw] 2 else none
 |_=>none
theorem Zzw{t:yc}{len:Nat}{parts:Array (Nat×yn)}(ho:o.op=.buildSlice t len parts)(h:Zxp P ts t len parts.toList all H K=some out):
 ∃a d H' hs c,K a d H' hs c=some out/\Good P o ts all H a d H' hs c:=by
 unfold Zxp at h;split at h
 ·rename_i e hu;obtain⟨i,hi,h⟩:=yf.1 h;obtain⟨ds,hd,h⟩:=yf.1 h;obtain⟨hk,h1⟩:=Za h;rw[yj,yj] at hk;refine⟨_,_,_,_,_,h1,Zd7 rfl,rfl,or3 (⟨rfl,λyK=> ?_,λyK=> ?_,[],zP,λyK=> ?_⟩)⟩
  ·unfold evN;rw[ho];rfl
  ·unfold evR;rw[ho]
  ·unfold evE;rw[ho];dsimp only;rw[yz,yw];dsimp only;rw[hu];dsimp only
   have hl:Zhd P (TD.ers (lk H) ts) e (P.cellsOf e) len parts.toList=some (TD.ers (lk H) ds):=by
    unfold Zhd;rw[yW hk.1.1,ZId hd,yW hk.1.2]
   rw[hi,hl];dsimp only;rw[yW (by simpa using hk.2),ZeT (ZgI rfl),ZS];rfl
 ·cases h
def ZCa(P:yg)(ts:yL TD)(t:yc)(len:Nat)(parts:yL (Nat×yn))(all:yL TD)(H:yL TEnt)(K:Kn O):yO O:=
 ZGD (lk H) P ts t len parts λT l e=>if(TD.frees H.length all&&H.all (TEnt.free H.length))=true then K all (.own H.length (some true) T none) (H++[.log T e l]) [.own] 2 else none
theorem ZCb{t:yc}{len:Nat}{parts:Array (Nat×yn)}(ho:o.op=.buildSlice t len parts)(h:ZCa P ts t len parts.toList all H K=some out):
 ∃a d H' hs c,K a d H' hs c=some out/\Good P o ts all H a d H' hs c:=by
 unfold ZCa at h;obtain⟨e,T,l,i,xs,h1,hu,hi,hl,hz,hs,hx⟩:=Zkg h;obtain⟨h2,h1⟩:=Za h1;rw[yj] at h2;refine⟨_,_,_,_,_,h1,Zki h2.1,rfl,or3 (⟨rfl,λyK=> ?_,λyK=> ?_,[],zP,λyK=> ?_⟩)⟩
 ·unfold evN;rw[ho];rfl
 ·unfold evR;rw[ho]
 ·unfold evE;rw[ho];dsimp only;rw[yz,yw];dsimp only;rw[hu];dsimp only;rw[hi,hl];dsimp only;rw[yW (by simpa using hz),hx,ZIa h2.2,ZS,TD.er,Zkj,hs]
def ZEC(P:yg)(T:Ty)(u:yc)(H:yL TEnt)(K:yL T.den->yL Hint->yO O)(x:TD):yO O:=
 match x with
 |.view id yQ s lo n=>match P.underlying u with
  |some (.slice _)=>(ZuY H id).bind λd=>gpT (lk H) yQ d λsub hs _=>sub.inner.bind λy=>y.arow.bind λr=>(Ty.castL r.t T r.l).bind λl=>
   if(decide (s=T.size))=true then if(decide (lo+n<=r.n))=true then K ((l.drop lo).take n) hs else none else none
  |_=>none
 |.rv id v s lo n=>match P.underlying u,H[id]? with
  |some (.slice _),some (.row w s' _ _ d)=>d.inner.bind λy=>y.arow.bind λr=>(Ty.castL r.t T r.l).bind λl=>
   if(decide (s=T.size)&&decide (s'=T.size)&&w==v)=true then if(decide (lo+n<=r.n))=true then K ((l.drop lo).take n) [] else none else none
  |_,_=>none
 |.rw id=>match P.underlying u,H[id]? with
  |some (.slice _),some (.rowT T' v st e l')=>(Ty.castL T' T l').bind λl=>K l []
  |_,_=>none
 |x=>(ZEu (lk H) P T u x).bind λl=>K l []
theorem Zrn{T:Ty}{u:yc}{x:TD}{K:yL T.den->yL Hint->yO O}(h:ZEC P T u H K x=some out):
 ∃l hs C,K l hs=some out/\AllP C/\∀yK,Zzl P T.size u (erH H) (hs++yK) (x.er (lk H))=some (C,l.map T.enc,yK):=by
 unfold ZEC at h;split at h
 ·rename_i id yQ s lo n;split at h
  ·rename_i e hu;obtain⟨d,h1,h⟩:=yf.1 h;obtain⟨st,h2,h3⟩:=Zhx h1;obtain⟨sub,hs,put,C,k1,k2,k3,_⟩:=Vc _ _ _ _ h;obtain⟨y,p1,k1⟩:=yf.1 k1;obtain⟨r,p2,k1⟩:=yf.1 k1;obtain⟨l,p3,k1⟩:=yf.1 k1;obtain⟨p4,k1⟩:=Za k1;obtain⟨p5,k1⟩:=Za k1;have p4:=yF p4;have p5:=yF p5
   have esub:sub.er (lk H)=.p (.arr r.n T.size (l.map T.enc)):=by
    rw[XN p1,TD.er,Zab p2];obtain⟨e,p3⟩:=ZI p3;obtain⟨n0,t0,l0⟩:=r;dsimp only at e p3 ⊢;subst e;subst p3;rfl
   refine⟨_,_,C++[ZgJ yQ=VZ yQ,lo+n<=r.n],k1,Zq.2 ⟨k2,(Vw _).symm,p5,ytt⟩,λyK=> ?_⟩;unfold Zzl;rw[TD.er];dsimp only;rw[hu,h3];dsimp only;rw[k3 yK,esub];dsimp only;rw[yW (by simp[p4]),ycd,List.map_drop]
  ·cases h
 ·rename_i id v s lo n;split at h
  ·rename_i e w s' st e' d hu hd;obtain⟨y,p1,k1⟩:=yf.1 h;obtain⟨r,p2,k1⟩:=yf.1 k1;obtain⟨l,p3,k1⟩:=yf.1 k1;obtain⟨p4,k1⟩:=Za k1;obtain⟨p5,k1⟩:=Za k1;simp only[yj,yP] at p4;have p5:=yF p5
   have esub:d.er (lk H)=.p (.arr r.n T.size (l.map T.enc)):=by
    rw[XN p1,TD.er,Zab p2];obtain⟨e,p3⟩:=ZI p3;obtain⟨n0,t0,l0⟩:=r;dsimp only at e p3 ⊢;subst e;subst p3;rfl
   refine⟨_,_,[lo+n<=r.n],k1,⟨p5,ytt⟩,λyK=> ?_⟩;unfold Zzl;rw[TD.er];dsimp only;rw[hu,Ym hd,TEnt.er,esub];dsimp only;rw[yW (by simp[p4]),ycd,List.map_drop];rfl
  ·cases h
 ·rename_i id;split at h
  ·rename_i e T' v st e' l' hu hd;obtain⟨l,p3,k1⟩:=yf.1 h;obtain⟨eT,p3⟩:=ZI p3;subst eT;subst p3;refine⟨l,[],[0+l.length<=l.length],k1,⟨by omega,ytt⟩,λyK=> ?_⟩;unfold Zzl;rw[(Zdf hd).1];dsimp only;rw[hu,Ym hd,TEnt.er];dsimp only;rw[yW (by simp),List.drop_zero, <-yy (f:=T'.enc),yao];simp
  ·cases h
 ·rename_i hx hx2 hx3;obtain⟨l,h1,h⟩:=yf.1 h;refine⟨l,[],[],h,zP,λyK=> ?_⟩;rw[yw];unfold Zzl;split
  ·rename_i e;cases x <;> first|cases e|skip
   exact absurd rfl (hx _ _ _ _ _)
  ·rename_i e;cases x <;> first|cases e|skip
   ·exact absurd rfl (hx2 _ _ _ _ _)
   ·exact absurd rfl (hx3 _)
  ·rw[Zpq h1];rfl
structure LogE where
 t:Ty
 e:yc
 l:List t.den
def ZLl(H:yL TEnt)(id:Nat):yO LogE:=
 match H[id]? with
 |some (.log t e l)=>some ⟨t,e,l⟩
 |_=>none
theorem ZGM{id:Nat}{m:LogE}(h:ZLl H id=some m):H[id]? =some (.log m.t m.e m.l):=by
 unfold ZLl at h;split at h
 ·rename_i hd;cases h;exact hd
 ·cases h
def apB(n m b:Nat):Bool:=decide ((n+m)*b<=Zw)&&decide (n+m<=maxLen)
def ZCc(P:yg)(own row:Bool)(t u:yc)(all:yL TD)(H:yL TEnt)(K:Kn O)(y:TD):TD->yO O
 |.own id nn T none=>match P.underlying t with
  |some (.slice e)=>(P.info? e).bind λi=>(ZLl H id).bind λm=>(Ty.castL m.t T m.l).bind λzs=>ZEC P T u H (λys hs=>
   if(zOk i&&decide (i.size=T.size)&&decide (m.e=e)&&decide (T.size≠0))=true then if apB zs.length ys.length i.bytes=true then
    K (TD.stales (lk H) id all) (.own id none T none) ((H.map (TEnt.stale (lk H) id)).set id (.log T e (zs++ys))) hs 2 else none else none) y
  |_=>none
 |.rv id v s lo n=>match P.underlying t with
  |some (.slice e)=>(P.info? e).bind λi=>(ZnO P tyD e).bind λT=>ZEC P T u H (λys hs=>if ys.isEmpty=true then
    if(zOk i&&decide (P.cellsOf e=T.size))=true then K all (.rv id v s lo n) H (.bare::hs) 2 else none
   else match H[id]? with
    |some (.row w s' true e' d)=>d.inner.bind λy0=>y0.arow.bind λr=>(Ty.castL r.t T r.l).bind λxs=>
     if(zOk i&&decide (i.size=T.size)&&decide (s'=T.size)&&decide (e'=e)&&decide (T.size≠0)&&w==v&&decide (lo=0)&&decide (s=T.size))=true then if(decide (n<=r.n)&&apB n ys.length i.bytes)=true then
      K all (.rv id (v+1) s 0 (n+ys.length)) (H.set id (.row (v+1) s true e (.p (.v (.arr (n+ys.length) T) (xs.take n++ys))))) (.raw::hs) 2 else none else none
    |_=>none) y
  |_=>none
 |.p (.sl (some false) _ [])=>if row then match P.underlying t with
  |some (.slice e)=>(P.info? e).bind λi=>(ZnO P tyD e).bind λT=>(ZEu (lk H) P T u y).bind λys=>
   if(zOk i&&i.size !=0&&decide (i.size=T.size)&&decide (P.cellsOf e=T.size))=true then if ZGs ys.length i.bytes=true then
    K all (.rv H.length 0 i.size 0 ys.length) (H++[.row 0 i.size true e (.p (.v (.arr ys.length T) ys))]) [.arr] 2 else none else none
  |_=>none else if own then match P.underlying t with
  |some (.slice e)=>(P.info? e).bind λi=>(ZnO P tyD e).bind λT=>(ZEu (lk H) P T u y).bind λys=>
   if(zOk i&&i.size !=0&&decide (i.size=T.size)&&decide (P.cellsOf e=T.size)&&TD.frees H.length all&&H.all (TEnt.free H.length))=true then if ZGs ys.length i.bytes=true then
    K all (.own H.length none T none) (H++[.log T e ys]) [.own] 2 else none else none
  |_=>none else none
 |_=>none
theorem ZLm{id:Nat}{T:Ty}{e:yc}{l:yL T.den}(H:yL TEnt)(h:id < H.length):Yb (lk (H.set id (.log T e l))) id T none=l:=by
 unfold Yb lk;dsimp only;rw[ycv h];show(Ty.castL T T l).getD []=l;unfold Ty.castL;split
 ·rfl
 ·rename_i h _;exact absurd rfl h
theorem Zhy{L:Lk}{n:Nat}:∀(l:yL TD),(TD.stales L n l).length=l.length
 |[]=>rfl
 |_::r=>by rw[TD.stales,yaj,yaj,Zhy r]
def ZGN(H:yL TEnt):TD->TD
 |.own id nn T (some zs)=>match H[id]? with
  |some (.log t e l)=>match Ty.castL t T l with
   |some l'=>if@decide (l'=zs) (@instDecidableEqList T.den (Ty.deq T) l' zs)=true then .own id nn T none else .own id nn T (some zs)
   |none=>.own id nn T (some zs)
  |_=>.own id nn T (some zs)
 |d=>d
theorem ZJE(d:TD):(ZGN H d).er (lk H)=d.er (lk H):=by
 unfold ZGN;split
 ·rename_i id nn T zs;split
  ·rename_i t e l hd;split
   ·rename_i l' hc;split
    ·rename_i he;have he:=@of_decide_eq_true _ (@instDecidableEqList T.den (Ty.deq T) l' zs) he;rw[TD.er,TD.er]
     have:Yb (lk H) id T none=zs:=by
      unfold Yb lk;dsimp only;rw[hd];show(Ty.castL t T l).getD []=zs;rw[hc, <-he];rfl
     rw[this];rfl
    ·rfl
   ·rfl
  ·rfl
 ·rfl
theorem ZCd{own row:Bool}{t u:yc}{x y:yn}{c:Call}{xd yd:TD}(ho:o.op=.call c)(hc:c.callee=.builtin .append)(ha:c.args.toList=[x,y])(ht:c.argTypes.toList=[t,u])
 (hv:ZC P (TD.ers (lk H) ts) t x=xd.er (lk H)) (hy:arT P ts u y=some yd) (h:ZCc P own row t u all H K yd xd=some out):∃a d H' hs c,K a d H' hs c=some out/\Good P o ts all H a d H' hs c:=by
 have hw:=ZA (L:=lk H) hy;unfold ZCc at h;split at h
 ·rename_i id nn T;split at h
  ·rename_i e hu;obtain⟨i,h1,h⟩:=yf.1 h;obtain⟨m,h2,h⟩:=yf.1 h;obtain⟨zs,h3,h⟩:=yf.1 h;obtain⟨ys,hs,C,k1,k2,k3⟩:=Zrn h;obtain⟨k4,k6⟩:=Za k1;obtain⟨k5,kk⟩:=Za k6;clear k1 k6;simp only[yj,yP] at k4;obtain⟨⟨⟨g1,g2⟩,g3⟩,g4⟩:=k4;simp only[apB,yj,yP] at k5;have hl:=ZGM h2;obtain⟨mt,me,ml⟩:=m;dsimp only at h3 g3 hl;obtain⟨eT,h3⟩:=ZI h3;subst eT;subst h3;subst g3;have hlt:id < H.length:=(yq.1 hl).1
   have ec:Yb (lk H) id mt none=zs:=by
    unfold Yb lk;dsimp only;rw[hl];show(Ty.castL mt mt zs).getD []=zs;unfold Ty.castL;split
    ·rfl
    ·rename_i h _;exact absurd rfl h
   refine⟨_,_,_,_,_,kk,ers_stale (λid' t hn=>Zca (lk H) id' t hn) all,Zhy all,or3 (⟨rfl,λyK=> ?_,λyK=> ?_,
    C++[zs.map mt.enc=zs.map mt.enc,((zs.map mt.enc).length+(ys.map mt.enc).length)*i.bytes<=Zw,(zs.map mt.enc).length+(ys.map mt.enc).length<=maxLen],Zq.2 ⟨k2,rfl,by simpa using k5.1,by simpa using k5.2,ytt⟩,λyK=> ?_⟩)⟩
   ·unfold evN;rw[ho];dsimp only;rw[hc];dsimp only;rw[ha,ht];split
    ·rename_i e1 e2 e3;simp only[List.cons.injEq,and_true] at e1 e2;obtain⟨rfl,rfl⟩:=e1;obtain⟨rfl,rfl⟩:=e2;rw[hu,hv];rfl
    ·rfl
   ·unfold evR;rw[ho];dsimp only;rw[hc]
   ·unfold evE;rw[ho];dsimp only;rw[hc];dsimp only;rw[ha,ht];dsimp only;rw[hu,hv,hw];dsimp only[TD.er];rw[ec,h1,k3 yK,Ym hl];dsimp only[TEnt.er];rw[yW (by simp[g1,g2,g4]),ZLg,ZLm _ (by rw[yy];exact hlt),yas]
  ·cases h
 ·rename_i id v s lo n;split at h
  ·rename_i e hu;obtain⟨i,h1,h⟩:=yf.1 h;obtain⟨T,h2,h⟩:=yf.1 h;obtain⟨ys,hs,C,k1,k2,k3⟩:=Zrn h
   have nN:∀hs,evN P o (TD.ers (lk H) ts) hs=none:=λhs=>by
    unfold evN;rw[ho];dsimp only;rw[hc];dsimp only;rw[ha,ht]
    cases hs with
    |nil=>rfl
    |cons h0 hr=>cases h0 <;> first|rfl|(dsimp only;rw[hu,hv];rfl)
   have nR:∀hs,evR P o (TD.ers (lk H) ts) (erH H) hs=none:=λhs=>by
    unfold evR;rw[ho];dsimp only;rw[hc]
   split at k1
   ·rename_i hemp;obtain⟨k4,k5⟩:=Za k1;simp only[yj,yP] at k4;have hys:ys=[]:=by simpa using hemp
    refine⟨_,_,_,_,_,k5,rfl,rfl,or3 (⟨rfl,λyK=>nN _,λyK=>nR _,C++[ys.map T.enc=[]],Zq.2 ⟨k2,by rw[hys];rfl,ytt⟩,λyK=> ?_⟩)⟩;unfold evE;rw[ho];dsimp only;rw[hc];dsimp only;rw[ha,ht];dsimp only;rw[hu,hv,hw];dsimp only[TD.er];rw[yz];dsimp only;rw[h1,k4.2,k3 yK];dsimp only;rw[yW k4.1]
   ·split at k1
    ·rename_i w s' e' d hd;obtain⟨y0,p1,q1⟩:=yf.1 k1;obtain⟨r,p2,q2⟩:=yf.1 q1;obtain⟨xs,p3,q3⟩:=yf.1 q2;obtain⟨p4,q4⟩:=Za q3;obtain⟨p5,q5⟩:=Za q4;simp only[yj,yP,yT] at p4;obtain⟨⟨⟨⟨⟨⟨⟨g1,g2⟩,g3⟩,g4⟩,g5⟩,g6⟩,g7⟩,g8⟩:=p4;simp only[apB,yj,yP] at p5
     have esub:d.er (lk H)=.p (.arr r.n T.size (xs.map T.enc)):=by
      rw[XN p1,TD.er,Zab p2];obtain⟨e,p3⟩:=ZI p3;obtain⟨n0,t0,l0⟩:=r;dsimp only at e p3 ⊢;subst e;subst p3;rfl
     refine⟨_,_,_,_,_,q5,same_set hd rfl rfl,rfl,or3 (⟨rfl,λyK=>nN _,λyK=>nR _,C++[n<=r.n,(n+(ys.map T.enc).length)*i.bytes<=Zw,n+(ys.map T.enc).length<=maxLen,true=true\/n=r.n],
      Zq.2 ⟨k2,p5.1,by simpa using p5.2.1,by simpa using p5.2.2,.inl rfl,ytt⟩,λyK=> ?_⟩)⟩
     unfold evE;rw[ho];dsimp only;rw[hc];dsimp only;rw[ha,ht];dsimp only;rw[hu,hv,hw];dsimp only[TD.er];rw[yz];dsimp only;rw[h1,g8,k3 yK,Ym hd,TEnt.er,esub];dsimp only;rw[yW (by simp[g1,g2,g3,g4,g5,g6,g7]),Vn (Zas hd rfl rfl)];simp only[TEnt.er,TD.er,TP.pe,ZBL,yy,yas,ycd]
    ·cases k1
  ·cases h
 ·rename_i T0;split at h
  ·split at h
   ·rename_i e hu;obtain⟨i,h1,h⟩:=yf.1 h;obtain⟨T,h2,h⟩:=yf.1 h;obtain⟨ys,h3,h⟩:=yf.1 h;obtain⟨k4,h⟩:=Za h;obtain⟨k5,h⟩:=Za h;simp only[yj,yP] at k4;obtain⟨⟨⟨g1,g2⟩,g3⟩,g4⟩:=k4;obtain⟨g7,g8⟩:=ZeS k5;refine⟨_,_,_,_,_,h,Zd7 rfl,rfl,or3 (⟨rfl,λyK=> ?_,λyK=> ?_,[(ys.map T.enc).length*i.bytes<=Zw,(ys.map T.enc).length<=maxLen],⟨by rw[yy];exact g7,by rw[yy];exact g8,ytt⟩,λyK=> ?_⟩)⟩
    ·unfold evN;rw[ho];dsimp only;rw[hc];dsimp only;rw[ha,ht];rfl
    ·unfold evR;rw[ho];dsimp only;rw[hc]
    ·unfold evE;rw[ho];dsimp only;rw[hc];dsimp only;rw[ha,ht];dsimp only;rw[hu,hv,hw,show(TD.p (TP.sl (some false) T0 [])).er (lk H)=Dv.p (.sl (some false) T0.size []) from rfl]
     dsimp only;rw[h1,g4,Zpq h3,yz,yw];dsimp only;rw[yW (by simp only[yj];exact⟨g1,g2⟩),ZeT (ZgI rfl),ZS];simp only[TEnt.er,TD.er,TP.pe,ZBL,yy,g3]
   ·cases h
  split at h
  ·split at h
   ·rename_i e hu;obtain⟨i,h1,h⟩:=yf.1 h;obtain⟨T,h2,h⟩:=yf.1 h;obtain⟨ys,h3,h⟩:=yf.1 h;obtain⟨k4,h⟩:=Za h;obtain⟨k5,h⟩:=Za h;simp only[yj,yP] at k4;obtain⟨⟨⟨⟨⟨g1,g2⟩,g3⟩,g4⟩,g5⟩,g6⟩:=k4;obtain⟨g7,g8⟩:=ZeS k5;refine⟨_,_,_,_,_,h,Zki g5,rfl,or3 (⟨rfl,λyK=> ?_,λyK=> ?_,[(ys.map T.enc).length*i.bytes<=Zw,(ys.map T.enc).length<=maxLen],⟨by rw[yy];exact g7,by rw[yy];exact g8,ytt⟩,λyK=> ?_⟩)⟩
    ·unfold evN;rw[ho];dsimp only;rw[hc];dsimp only;rw[ha,ht];rfl
    ·unfold evR;rw[ho];dsimp only;rw[hc]
    ·unfold evE;rw[ho];dsimp only;rw[hc];dsimp only;rw[ha,ht];dsimp only;rw[hu,hv,hw,show(TD.p (TP.sl (some false) T0 [])).er (lk H)=Dv.p (.sl (some false) T0.size []) from rfl]
     dsimp only;rw[h1,g4,Zpq h3,yz,yw];dsimp only;rw[yW (by simp only[yj];exact⟨g1,g2⟩),ZIa g6,ZS,TD.er,Zkj,g3]
   ·cases h
  ·cases h
 ·cases h
def ZGO(P:yg)(t:yc)(all:yL TD)(H:yL TEnt)(K:Kn O):TD->yO O
 |.rv id v s lo n=>match P.underlying t,H[id]? with
  |some (.slice e),some (.row w s' true e' d)=>(P.info? e).bind λi=>(ZAK P e).bind λz=>d.inner.bind λy=>y.arow.bind λr=>(TP.to ZnN z r.t).bind λz'=>
   if(zOk i&&decide (i.size=s)&&decide (s'=s)&&decide (r.t.size=s)&&w==v&&s !=0&&z.pe.size==s&&decide (n=1))=true then if decide (lo+1<=r.n)=true then
    K all (.tup []) (H.set id (.row v s true e' (.p (.v (.arr r.n r.t) (r.l.set lo z'))))) [] 2 else none else none
  |_,_=>none
 |_=>none
theorem ZED{t:yc}{x:yn}{c:Call}{xd:TD}(ho:o.op=.call c)(hc:c.callee=.builtin .clear)(ha:c.args.toList=[x])(ht:c.argTypes.toList=[t])
 (hx:arT P ts t x=some xd) (h:ZGO P t all H K xd=some out):∃a d H' hs c,K a d H' hs c=some out/\Good P o ts all H a d H' hs c:=by
 have hv:=ZA (L:=lk H) hx;unfold ZGO at h;split at h
 ·rename_i id v s lo n;split at h
  ·rename_i e w s' e' d hu hd;obtain⟨i,h1,h⟩:=yf.1 h;obtain⟨z,h2,h⟩:=yf.1 h;obtain⟨y,p1,q1⟩:=yf.1 h;obtain⟨r,p2,q2⟩:=yf.1 q1;obtain⟨z',p3,q3⟩:=yf.1 q2;obtain⟨p4,q4⟩:=Za q3;obtain⟨p5,k1⟩:=Za q4;clear q1 q2 q3 q4 h;simp only[yj,yP] at p4;obtain⟨⟨⟨⟨⟨⟨⟨g1,g2⟩,g3⟩,g4⟩,g5⟩,g6⟩,g7⟩,g8⟩:=p4;have g8':=g8;subst g8;have p5:=yF p5;have esub:d.er (lk H)=.p (.arr r.n r.t.size (r.l.map r.t.enc)):=by rw[XN p1,TD.er,Zab p2]
   refine⟨_,_,_,_,_,k1,same_set hd rfl rfl,rfl,or3 (⟨rfl,λyK=> ?_,λyK=> ?_,[lo+1<=r.n],⟨p5,ytt⟩,λyK=> ?_⟩)⟩
   ·unfold evN;rw[ho];dsimp only;rw[hc]
   ·unfold evR;rw[ho];dsimp only;rw[hc]
   ·unfold evE;rw[ho];dsimp only;rw[hc];dsimp only;rw[ha,ht];dsimp only;rw[hu,hv];dsimp only[TD.er];rw[h1,Zso h2,Ym hd,TEnt.er,esub];dsimp only;rw[yW (by simp only[yj,yP];exact⟨⟨⟨⟨⟨⟨⟨g1,g2⟩,g3⟩,g4⟩,g5⟩,g6⟩,g7⟩,ytt⟩),Vn (Zas hd rfl rfl),ZiT z r.t z' p3];have eset:(r.l.set lo z').map r.t.enc=(r.l.map r.t.enc).set lo (r.t.enc z'):=ybp ..;show some ([lo+1<=r.n],Dv.tup [],(erH H).set id (Ent.row v s true e' (.p (.arr r.n s ((r.l.map r.t.enc).set lo (r.t.enc z'))))),yK)=some ([lo+1<=r.n],Dv.tup [],(erH H).set id (Ent.row v s true e' (.p (.arr r.n r.t.size ((r.l.set lo z').map r.t.enc)))),yK);rw[eset,g4]
  ·cases h
 ·cases h
def ZLn(P:yg)(t u:yc)(all:yL TD)(H:yL TEnt)(K:Kn O)(y:TD):TD->yO O
 |.view id yQ s lo n=>match P.underlying t,H[id]? with
  |some (.slice e),some (.var d true)=>gpT (lk H) yQ d λsub hs put=>sub.inner.bind λy0=>y0.arow.bind λr=>(ZEu (lk H) P r.t u y).bind λys=>
   (put (.p (.v (.arr r.n r.t) (r.l.take lo++(ys++r.l.drop (lo+ys.length)))))).bind λd'=>
     if(decide (r.t.size=s)&&decide (P.cellsOf e=s)&&(P.info? e).isSome&&decide (ys.length<=n)&&decide (lo+n<=r.n))=true then K all (.p (.v (.int .i64) (ys.length:Int))) (H.set id (.var d' true)) hs 2 else none
  |_,_=>none
 |_=>none
theorem ZGP{t u:yc}{x y:yn}{c:Call}{xd yd:TD}(ho:o.op=.call c)(hc:c.callee=.builtin .copy)(ha:c.args.toList=[x,y])(ht:c.argTypes.toList=[t,u])
 (hx:arT P ts t x=some xd) (hy:arT P ts u y=some yd) (h:ZLn P t u all H K yd xd=some out):∃a d H' hs c,K a d H' hs c=some out/\Good P o ts all H a d H' hs c:=by
 have hv:=ZA (L:=lk H) hx;have hw:=ZA (L:=lk H) hy;unfold ZLn at h;split at h
 ·rename_i id yQ s lo n;split at h
  ·rename_i e d hu hd;obtain⟨sub,hs,put,C,k1,k2,k3,k4⟩:=Vc _ _ _ _ h;obtain⟨y0,p1,k1⟩:=yf.1 k1;obtain⟨r,p2,k1⟩:=yf.1 k1;obtain⟨ys,p3,k1⟩:=yf.1 k1;obtain⟨d',p4,k1⟩:=yf.1 k1;obtain⟨p5,k1⟩:=Za k1;simp only[yj,yP] at p5;obtain⟨⟨⟨⟨g1,g2⟩,g3⟩,g4⟩,g5⟩:=p5;have esub:sub.er (lk H)=.p (.arr r.n r.t.size (r.l.map r.t.enc)):=by rw[XN p1,TD.er,Zab p2]
   refine⟨_,_,_,_,_,k1,same_set hd rfl rfl,rfl,or3 (⟨rfl,λyK=> ?_,λyK=> ?_,C++[ZgJ yQ=VZ yQ,(ys.map r.t.enc).length<=n,lo+n<=r.n],Zq.2 ⟨k2,(Vw _).symm,by rw[yy];exact g4,g5,ytt⟩,λyK=> ?_⟩)⟩
   ·unfold evN;rw[ho];dsimp only;rw[hc]
   ·unfold evR;rw[ho];dsimp only;rw[hc]
   ·unfold evE;rw[ho];dsimp only;rw[hc];dsimp only;rw[ha,ht];dsimp only;rw[hu,hv,hw];dsimp only[TD.er];rw[<-g1,Zpq p3,Ym hd];dsimp only[TEnt.er];rw[k3 yK,esub];dsimp only;have:=k4 _ _ p4 yK
    have e1:(TD.p (.v (.arr r.n r.t) (r.l.take lo++(ys++r.l.drop (lo+ys.length))))).er (lk H)=.p (.arr r.n r.t.size (Ztw (r.l.map r.t.enc) (ys.map r.t.enc) lo)):=by
     show Dv.p (Pl.arr r.n r.t.size ((r.l.take lo++(ys++r.l.drop (lo+ys.length))).map r.t.enc))=_;unfold Ztw;rw[yas,yas,ycd,List.map_drop,yy]
    rw[e1] at this;rw[this];dsimp only;rw[yW (by simp only[yj,yP];exact⟨⟨zP,by rw[g1];exact g2⟩,g3⟩),Vn (Zas hd rfl rfl),yy];rfl
  ·cases h
 ·cases h
def ZGQ(H:yL TEnt)(id:Nat):Bool:=
 match H[id]? with
 |some (.var _ false)=>true
 |_=>false
def ZPY(P:yg)(t:yc)(lo hi:yO Int)(all:yL TD)(H:yL TEnt)(K:Kn O):TD->yO O
 |.ref id yQ=>match P.underlying t with
  |some (.array n e)=>(ZuY H id).bind λd=>gpT (lk H) yQ d λsub hs _=>sub.inner.bind λy=>y.arow.bind λr=>
   if(decide (n=r.n)&&okB P e r.t.size&&decide (n<=maxLen))=true then if Zbp n lo hi=true then(if ZGQ H id=true then K all (.p (.sl (some true) r.t (Qy r.l lo hi))) H (.frz::hs) 1 else
    K all (.p (.sl (some true) r.t (Qy r.l lo hi))) (H.set id (.var d false)) (.frz::hs) 2) else none else none
  |_=>none
 |_=>none
theorem ZJF{t:yc}{x:yn}{lo hi:yO yn}{l h':yO Int}{xd:TD}(ho:o.op=.slice t x lo hi none)(hx:arT P ts t x=some xd)(hl:Ziz P ts lo=some l)(hh:Ziz P ts hi=some h')
 (h:ZPY P t l h' all H K xd=some out):∃a d H' hs c,K a d H' hs c=some out/\Good P o ts all H a d H' hs c:=by
 have hv:=ZA (L:=lk H) hx;have hl:=Zcz (L:=lk H) hl;have hh:=Zcz (L:=lk H) hh;unfold ZPY at h;split at h
 ·rename_i id yQ;split at h
  ·rename_i n e hu;obtain⟨d,h1,h⟩:=yf.1 h;obtain⟨st,h2,h3⟩:=Zhx h1;obtain⟨sub,hs,put,C,k1,k2,k3,_⟩:=Vc _ _ _ _ h;obtain⟨y,p1,k1⟩:=yf.1 k1;obtain⟨r,p2,k1⟩:=yf.1 k1;obtain⟨p4,k1⟩:=Za k1;obtain⟨p5,k1⟩:=Za k1;have esub:sub.er (lk H)=.p (.arr r.n r.t.size (r.l.map r.t.enc)):=by rw[XN p1,TD.er,Zab p2]
   have nN:∀yK,evN P o (TD.ers (lk H) ts) (.frz::hs++yK)=none:=λyK=>by
    unfold evN;rw[ho];dsimp only;rw[hu,hv,hl,hh];rfl
   split at k1
   ·rename_i hst
    have hst':st=false:=by
     unfold ZGQ at hst;rw[h2] at hst
     cases st with
     |false=>rfl
     |true=>cases hst
    subst hst';refine⟨_,_,_,_,_,k1,rfl,rfl,.inr (.inl ⟨rfl,rfl,nN,C++[ZgJ yQ=VZ yQ]++Xv n l h',Zq.2 ⟨Zq.2 ⟨k2,(Vw _).symm,ytt⟩,Zhw p5⟩,λyK=> ?_⟩)⟩;unfold evR;rw[ho];dsimp only;rw[hu,hv,hl,hh];dsimp only[TD.er];rw[yz];dsimp only;rw[h3];dsimp only;rw[k3 yK,esub];dsimp only;rw[yW (by simpa[okB,and_assoc] using p4),TP.pe,ZiU]
   rename_i hst
   have hst':st=true:=by
    unfold ZGQ at hst;rw[h2] at hst
    cases st with
    |true=>rfl
    |false=>exact absurd rfl hst
   subst hst';refine⟨_,_,_,_,_,k1,same_set h2 rfl rfl,rfl,or3 (⟨rfl,nN,λyK=> ?_,C++[ZgJ yQ=VZ yQ]++Xv n l h',Zq.2 ⟨Zq.2 ⟨k2,(Vw _).symm,ytt⟩,Zhw p5⟩,λyK=> ?_⟩)⟩
   ·unfold evR;rw[ho];dsimp only;rw[hu,hv,hl,hh];dsimp only[TD.er];rw[yz];dsimp only;rw[h3]
   ·unfold evE;rw[ho];dsimp only;rw[hu,hv,hl,hh];dsimp only[TD.er];rw[yz];dsimp only;rw[h3];dsimp only;rw[k3 yK,esub];dsimp only;rw[yW (by simpa[okB,and_assoc] using p4),Vn (Zas h2 rfl rfl),TP.pe,ZiU];rfl
  ·cases h
 ·cases h
def ZCe(dst:Tmp)(all:yL TD)(H:yL TEnt)(K:Kn O):TD->yO O
 |.view id yQ s lo n=>(ZuY H id).bind λd=>gpT (lk H) yQ d λsub hs _=>sub.inner.bind λy=>y.arow.bind λr=>
  if(decide (r.t.size=s))=true then if(decide (lo+n<=r.n))=true then K all (.p (.sl (some true) r.t ((r.l.drop lo).take n))) (H.set id (.var d false)) (.still dst::hs) 2 else none else none
 |.rv id v s lo n=>match H[id]? with
  |some (.row w s' _ e d)=>d.inner.bind λy=>y.arow.bind λr=>
   if(decide (r.t.size=s)&&decide (s'=s)&&w==v)=true then if(decide (lo+n<=r.n))=true then K all (.p (.sl none r.t ((r.l.drop lo).take n))) (H.set id (.row v s false e d)) [.still dst] 2 else none else none
  |_=>none
 |_=>none
theorem ZEE{dst:Tmp}{xd:TD}(h:ZCe dst all H K xd=some out):∃a d H' hs,K a d H' (.still dst::hs) 2=some out/\TD.ers (lk H') a=TD.ers (lk H) all/\a.length=all.length/\
 ∃C,AllP C/\∀yK,Zhn (xd.er (lk H)) (erH H) (hs++yK)=some (C,d.er (lk H'),erH H',yK):=by
 unfold ZCe at h;split at h
 ·rename_i id yQ s lo n;obtain⟨d,h1,h⟩:=yf.1 h;obtain⟨st,h2,h3⟩:=Zhx h1;obtain⟨sub,hs,put,C,k1,k2,k3,_⟩:=Vc _ _ _ _ h;obtain⟨y,p1,k1⟩:=yf.1 k1;obtain⟨r,p2,k1⟩:=yf.1 k1;obtain⟨p4,k1⟩:=Za k1;obtain⟨p5,k1⟩:=Za k1;have p4:=yF p4;have p5:=yF p5;have esub:sub.er (lk H)=.p (.arr r.n r.t.size (r.l.map r.t.enc)):=by rw[XN p1,TD.er,Zab p2]
  refine⟨_,_,_,_,k1,same_set h2 rfl rfl,rfl,C++[ZgJ yQ=VZ yQ,lo+n<=r.n],Zq.2 ⟨k2,(Vw _).symm,p5,ytt⟩,λyK=> ?_⟩;unfold Zhn;rw[show(TD.view id yQ s lo n).er (lk H)=Dv.view id (VZ yQ) (yQ.map Stp.i) s lo n from rfl]
  try dsimp only
  rw[h3]
  try dsimp only
  rw[k3 yK,esub]
  try dsimp only
  rw[yW p4,Vn (Zas h2 rfl rfl),TD.er,TP.pe,ycd,List.map_drop,p4]
  try rfl
 ·rename_i id v s lo n;split at h
  ·rename_i w s' st e d hd;obtain⟨y,p1,k1⟩:=yf.1 h;obtain⟨r,p2,k1⟩:=yf.1 k1;obtain⟨p4,k1⟩:=Za k1;obtain⟨p5,k1⟩:=Za k1;simp only[yj,yP] at p4;have p5:=yF p5;have esub:d.er (lk H)=.p (.arr r.n r.t.size (r.l.map r.t.enc)):=by rw[XN p1,TD.er,Zab p2]
   refine⟨_,_,_,[],k1,same_set hd rfl rfl,rfl,[lo+n<=r.n],⟨p5,ytt⟩,λyK=> ?_⟩;rw[yw];unfold Zhn;rw[show(TD.rv id v s lo n).er (lk H)=Dv.rv id v s lo n from rfl]
   dsimp only;rw[Ym hd,TEnt.er,esub];dsimp only;rw[yW (by simp[p4]),Vn (Zas hd rfl rfl),TEnt.er,esub,TD.er,TP.pe,ycd,List.map_drop,p4.1.1]
  ·cases h
 ·cases h
theorem ZEF{x:yn}{dst:Tmp}{xd:TD}(ho:o.op=.assign x\/o.op=.move x)(hd:o.dst=some dst)(hx:arT P ts o.type x=some xd)(h:ZCe dst all H K xd=some out):
 ∃a d H' hs c,K a d H' hs c=some out/\Good P o ts all H a d H' hs c:=by
 have hv:=ZA (L:=lk H) hx;obtain⟨a,d,H',hs,k1,k2,k3,C,k4,k5⟩:=ZEE h;refine⟨_,_,_,_,_,k1,k2,k3,or3 (⟨rfl,λyK=> ?_,λyK=> ?_,C,k4,λyK=> ?_⟩)⟩
 ·rcases ho with ho|ho <;> (unfold evN;rw[ho];rfl)
 ·rcases ho with ho|ho <;> (unfold evR;rw[ho])
 ·rcases ho with ho|ho
  ·unfold evE;rw[ho];dsimp only;rw[yz];dsimp only;rw[yW hd,hv];exact k5 yK
  ·unfold evE;rw[ho];dsimp only;rw[yz];dsimp only;rw[yW hd,hv];exact k5 yK
def TD.isRw:TD->Bool
 |.rw _=>true
 |_=>false
def TD.isRp:TD->Bool
 |.rp _ _=>true
 |_=>false
theorem ZIe{id:Nat}{T:Ty}{v:yL Unit}{st st':Bool}{e e':yc}{l l':yL T.den}(hd:H[id]? =some (.rowT T v st e l))(hl:l'.length=l.length):lk (H.set id (.rowT T v st' e' l'))=lk H:=by
 funext j;unfold lk;by_cases hj:id=j
 ·subst hj;rw[getElem?_set_eq' hd,hd];show some _=some _;rw[hl]
 ·rw[getElem?_set_ne' hj]
def ZCf(P:yg)(t:yc)(i:Int)(all:yL TD)(H:yL TEnt)(K:Kn O):TD->yO O
 |.rw id=>match P.underlying t,H[id]? with
  |some (.slice e),some (.rowT T v st e' l)=>if okB P e T.size=true then if inB i l.length=true then K all (.rp id [.ix i.toNat T.size]) H [] 0 else none else none
  |_,_=>none
 |_=>none
theorem ZCg{t:yc}{x ix:yn}{xd:TD}{q:IntKind×Int}{ip:TP}(ho:o.op=.indexAddr t x ix)(hx:arT P ts t x=some xd)(hi:arT P ts 0 ix=some (.p ip))(hq:ZBM ip=some q)(h:ZCf P t q.2 all H K xd=some out):
 ∃a d H' hs c,K a d H' hs c=some out/\Good P o ts all H a d H' hs c:=by
 have hv:=ZA (L:=lk H) hx;have hw:=ZA (L:=lk H) hi;rw[TD.er,(Zwp hq).1] at hw;unfold ZCf at h;split at h
 ·rename_i id;split at h
  ·rename_i e T v st e' l hu hd;obtain⟨h3,h⟩:=Za h;obtain⟨h4,h⟩:=Za h;refine⟨_,_,_,_,_,h,rfl,rfl,.inl ⟨rfl,rfl,[0<=q.2,q.2 < (l.length:Int)],⟨(ZbA h4).1,(ZbA h4).2,ytt⟩,λyK=> ?_⟩⟩;simp only[yw];unfold evN;rw[ho];dsimp only;rw[hu,hv,hw,(Zdf hd).1,(Zdf hd).2];dsimp only;rw[yW (by simpa[okB] using h3)];simp[VZ,Stp.o,Stp.i]
  ·cases h
 ·cases h
def ZLo(P:yg)(t:yc)(all:yL TD)(H:yL TEnt)(K:Kn O):TD->yO O
 |.rw id=>match P.underlying t,H[id]? with
  |some (.slice _),some (.rowT T v st e' l)=>K all (.p (.v (.int .i64) (l.length:Int))) H [] 0
  |_,_=>none
 |_=>none
theorem ZGR{t:yc}{x:yn}{c:Call}{xd:TD}(ho:o.op=.call c)(hc:c.callee=.builtin .len)(ha:c.args.toList=[x])(ht:c.argTypes.toList=[t])(hx:arT P ts t x=some xd)(h:ZLo P t all H K xd=some out):
 ∃a d H' hs c,K a d H' hs c=some out/\Good P o ts all H a d H' hs c:=by
 have hv:=ZA (L:=lk H) hx;unfold ZLo at h;split at h
 ·rename_i id;split at h
  ·rename_i e T v st e' l hu hd;refine⟨_,_,_,_,_,h,rfl,rfl,.inl ⟨rfl,rfl,[],zP,λyK=> ?_⟩⟩;simp only[yw];unfold evN;rw[ho];dsimp only;rw[hc];dsimp only;rw[ha,ht];dsimp only;rw[hu,hv,(Zdf hd).1];rfl
  ·cases h
 ·cases h
def ZGS(P:yg)(t:yc)(all:yL TD)(H:yL TEnt)(K:Kn O):TD->yO O
 |.rp id yQ=>match H[id]? with
  |some (.rowT T v st e l)=>gpT (lk H) yQ (.p (.v (.arr l.length T) l)) λsub hs _=>if okT P t (sub.er (lk H))=true then K all sub H hs 1 else none
  |_=>none
 |_=>none
theorem ZEG{t:yc}{x:yn}{xd:TD}(ho:o.op=.load t x)(hx:arT P ts 0 x=some xd)(h:ZGS P t all H K xd=some out):∃a d H' hs c,K a d H' hs c=some out/\Good P o ts all H a d H' hs c:=by
 have hv:=ZA (L:=lk H) hx;unfold ZGS at h;split at h
 ·rename_i id yQ;split at h
  ·rename_i T v st e l hd;obtain⟨sub,hs,put,C,k1,k2,k3,_⟩:=Vc _ _ _ _ h;obtain⟨k4,k5⟩:=Za k1;refine⟨_,_,_,_,_,k5,rfl,rfl,.inr (.inl ⟨rfl,rfl,λyK=> ?_,C++[ZgJ yQ=VZ yQ],Zq.2 ⟨k2,(Vw _).symm,ytt⟩,λyK=> ?_⟩)⟩
   ·unfold evN;rw[ho];dsimp only;rw[hv];rfl
   ·unfold evR;rw[ho];dsimp only;rw[hv,(Zdf hd).2];dsimp only;rw[Ym hd];dsimp only[TEnt.er];have k6:Yy (.p (.arr l.length T.size (l.map T.enc))) (yQ.map Stp.i) (hs++yK)=some (C,ZgJ yQ,sub.er (lk H),yK):=k3 yK;rw[k6];dsimp only;rw[yW (by rw[yj];exact⟨k4,by simp⟩)]
  ·cases h
 ·cases h
def ZCh(P:yg)(t:yc)(all:yL TD)(H:yL TEnt)(K:Kn O)(v:TD):TD->yO O
 |.rp id (.ix i s::r)=>match H[id]? with
  |some (.rowT T u true e l)=>if s=T.size then(l[i]?).bind λy=>gpT (lk H) r (.p (.v T y)) λsub hs put=>(put (v.meltP (lk H))).bind λd1=>d1.inner.bind λz=>(TP.to ZnN z T).bind λy'=>
   if Zpt P t ((v.meltP (lk H)).er (lk H)) (sub.er (lk H))=true then K all .junk (H.set id (.rowT T u true e (l.set i y'))) (.el (T.enc y)::hs) 2 else none else none
  |_=>none
 |_=>none
theorem ZCi{t:yc}{x y:yn}{xd yd:TD}(ho:o.op=.store t x y)(hx:arT P ts 0 x=some xd)(hy:arT P ts t y=some yd)(h:ZCh P t all H K yd xd=some out):
 ∃a d H' hs c,K a d H' hs c=some out/\Good P o ts all H a d H' hs c:=by
 have hv:=ZA (L:=lk H) hx;have hw:=ZA (L:=lk H) hy;unfold ZCh at h;split at h
 ·rename_i id i s r;split at h
  ·rename_i T u e l hd;split at h
   ·rename_i hs0;obtain⟨y0,h2,h⟩:=yf.1 h;obtain⟨sub,hs,put,C,k1,k2,k3,k4⟩:=Vc r (.p (.v T y0)) _ out h;obtain⟨d1,p1,k1⟩:=yf.1 k1;obtain⟨z,p2,k1⟩:=yf.1 k1;obtain⟨y',p3,k1⟩:=yf.1 k1;obtain⟨h4,k1⟩:=Za k1;have h4':=h4;unfold Zpt at h4';have hL:lk (H.set id (.rowT T u true e (l.set i y')))=lk H:=ZIe hd (by rw[ybq])
    have hg:∀yK,Yy (.p (.arr l.length T.size (l.map T.enc))) (i::r.map Stp.i) (.el (T.enc y0)::(hs++yK))=some (((l.map T.enc)[i]? =some (T.enc y0))::C,i*T.size+ZgJ r,sub.er (lk H),yK):=by
     intro yK;unfold Yy;dsimp only;have:=k3 yK;rw[TD.er,TP.pe] at this;rw[this,yaa]
    have hp:∀yK,Qk ((yd.meltP (lk H)).er (lk H)) (.p (.arr l.length T.size (l.map T.enc))) (i::r.map Stp.i) (.el (T.enc y0)::(hs++yK))=some (.p (.arr l.length T.size ((l.set i y').map T.enc))):=by
     intro yK;have:=k4 _ d1 p1 yK;rw[TD.er,TP.pe] at this;unfold Qk;dsimp only;rw[this,XN p2,TD.er];dsimp only;rw[ZiT z T y' p3, <-ybp]
    refine⟨_,_,_,_,_,k1,by rw[hL],rfl,or3 (⟨rfl,λyK=> ?_,λyK=> ?_,(((l.map T.enc)[i]? =some (T.enc y0))::C)++[i*T.size+ZgJ r=VZ (.ix i s::r)],
     Zq.2 ⟨⟨Zsf h2,k2⟩,by rw[Vw,ZgJ,Stp.o,hs0],ytt⟩,λyK=> ?_⟩)⟩
    ·unfold evN;rw[ho]
    ·unfold evR;rw[ho]
    ·unfold evE;rw[ho];dsimp only;rw[hv,hw,(Zdf hd).2];dsimp only;rw[Ym hd];dsimp only[TEnt.er];rw[yag,show(Stp.ix i s).i=i from rfl,yz,hg yK]
     dsimp only;have hst:Zhm (i::r.map Stp.i) (.p (.arr l.length T.size (l.map T.enc))) (yd.er (lk H))=some ((yd.meltP (lk H)).er (lk H)):=ZtP (yQ:=.ix i s::r) (d:=.p (.v (.arr l.length T) l)) (v:=yd) (new:=yd.meltP (lk H)) (L:=lk H) rfl;rw[hst];dsimp only;rw[hp yK];dsimp only;rw[yW (by simp only[yj] at h4' ⊢;exact⟨⟨h4',by simp⟩,by simp[rowN]⟩),Vn hL];simp only[TEnt.er,ybq];rfl
   ·cases h
  ·cases h
 ·cases h
def ZCj(dst:Tmp)(all:yL TD)(H:yL TEnt)(K:Kn O):TD->yO O
 |.rw id=>match H[id]? with
  |some (.rowT T v st e l)=>K all (.p (.sl none T l)) (H.set id (.rowT T v false e l)) [.still dst] 2
  |_=>none
 |_=>none
theorem ZCk{x:yn}{dst:Tmp}{xd:TD}(ho:o.op=.assign x\/o.op=.move x)(hd:o.dst=some dst)(hx:arT P ts o.type x=some xd)(h:ZCj dst all H K xd=some out):
 ∃a d H' hs c,K a d H' hs c=some out/\Good P o ts all H a d H' hs c:=by
 have hv:=ZA (L:=lk H) hx;unfold ZCj at h;split at h
 ·rename_i id;split at h
  ·rename_i T v st e l hr;have hL:lk (H.set id (.rowT T v false e l))=lk H:=ZIe hr rfl
   have k5:∀yK,Zhn ((TD.rw id).er (lk H)) (erH H) yK=some ([0+l.length<=l.length],.p (.sl none T.size (l.map T.enc)),erH (H.set id (.rowT T v false e l)),yK):=by
    intro yK;unfold Zhn;rw[(Zdf hr).1];dsimp only;rw[Ym hr,TEnt.er];dsimp only;rw[yW (by simp),Vn hL,TEnt.er,List.drop_zero, <-yy (f:=T.enc),yao]
   refine⟨_,_,_,_,_,h,by rw[hL],rfl,or3 (⟨rfl,λyK=> ?_,λyK=> ?_,[0+l.length<=l.length],⟨by omega,ytt⟩,λyK=> ?_⟩)⟩
   ·rcases ho with ho|ho <;> (unfold evN;rw[ho];rfl)
   ·rcases ho with ho|ho <;> (unfold evR;rw[ho])
   ·rcases ho with ho|ho
    ·unfold evE;rw[ho];dsimp only;rw[yz];dsimp only;rw[yW hd,hv];exact k5 yK
    ·unfold evE;rw[ho];dsimp only;rw[yz];dsimp only;rw[yW hd,hv];exact k5 yK
  ·cases h
 ·cases h
theorem ZEH{L M:Lk}{n:Nat}(h:∀id t,id≠n->Yb L id t none=Yb M id t none)(x:TEnt)(hf:x.free n=true):x.er L=x.er M:=by
 cases x with
 |var d st=>rw[TEnt.er,TEnt.er,ZgH h d hf]
 |row v s st e d=>rw[TEnt.er,TEnt.er,ZgH h d hf]
 |rowM t np v st e pre d post=>rw[TEnt.er,TEnt.er,ZgH h d hf]
 |_=>rfl
theorem Zsq{T:Ty}{v:yL Unit}{st:Bool}{e:yc}{l:yL T.den}(h:H.all (TEnt.free H.length)=true):erH (H++[.rowT T v st e l])=erH H++[.row v.length T.size st e (.p (.arr l.length T.size (l.map T.enc)))]:=by
 unfold erH;rw[yas];congr 1;refine ycn λx hx=> ?_;have hf:=ybg.1 h x hx;exact(ZEH (λid t hn=>ZeU id t hn) x hf).symm
theorem Zws{T:Ty}{v:yL Unit}{st:Bool}{e:yc}{l:yL T.den}:(TD.rw H.length).er (lk (H++[.rowT T v st e l]))=.rv H.length v.length T.size 0 l.length:=
 (Zdf (H:=H++[.rowT T v st e l]) (List.getElem?_concat_length ..)).1
def Zxq(P:yg)(row:Bool)(t u:yc)(all:yL TD)(H:yL TEnt)(K:Kn O)(y:TD):TD->yO O
 |.rw id=>match P.underlying t,H[id]? with
  |some (.slice e),some (.rowT T v st e' l)=>(P.info? e).bind λi=>ZEC P T u H (λys hs=>
   if(zOk i&&decide (i.size=T.size)&&decide (P.cellsOf e=T.size)&&decide (e'=e)&&decide (T.size≠0))=true then if apB l.length ys.length i.bytes=true then
    K (TD.stales (lk H) id all) (.rw id) ((H.map (TEnt.stale (lk H) id)).set id (.rowT T (()::v) st e (l++ys))) (.raw::hs) 2 else none else none) y
  |_,_=>none
 |.p (.sl (some false) _ [])=>match P.underlying t with
  |some (.slice e)=>(P.info? e).bind λi=>(ZnO P tyD e).bind λT=>(ZEu (lk H) P T u y).bind λys=>
   if(zOk i&&i.size !=0&&decide (i.size=T.size)&&decide (P.cellsOf e=T.size)&&TD.frees H.length all&&H.all (TEnt.free H.length))=true then if ZGs ys.length i.bytes=true then
    K all (.rw H.length) (H++[.rowT T [] true e ys]) [.arr] 2 else none else none
  |_=>none
 |_=>none
theorem Zzx{row:Bool}{t u:yc}{x y:yn}{c:Call}{xd yd:TD}(ho:o.op=.call c)(hc:c.callee=.builtin .append)(ha:c.args.toList=[x,y])(ht:c.argTypes.toList=[t,u])
 (hv:ZC P (TD.ers (lk H) ts) t x=xd.er (lk H)) (hy:arT P ts u y=some yd) (h:Zxq P row t u all H K yd xd=some out):∃a d H' hs c,K a d H' hs c=some out/\Good P o ts all H a d H' hs c:=by
 have hw:=ZA (L:=lk H) hy;unfold Zxq at h;split at h
 ·rename_i id;split at h
  ·rename_i e T v st e' l hu hd;obtain⟨i,h1,h⟩:=yf.1 h;obtain⟨ys,hs,C,k1,k2,k3⟩:=Zrn h;obtain⟨k4,k6⟩:=Za k1;obtain⟨k5,kk⟩:=Za k6;clear k1 k6;simp only[yj,yP] at k4;obtain⟨⟨⟨⟨g1,g2⟩,g3⟩,g4⟩,g5⟩:=k4;subst g4;simp only[apB,yj,yP] at k5;have hlt:id < H.length:=(yq.1 hd).1
   refine⟨_,_,_,_,_,kk,ers_stale (λid' t hn=>Zca (lk H) id' t hn) all,Zhy all,or3 (⟨rfl,λyK=> ?_,λyK=> ?_,
    C++[l.length<=l.length,(l.length+(ys.map T.enc).length)*i.bytes<=Zw,l.length+(ys.map T.enc).length<=maxLen,st=true\/l.length=l.length],Zq.2 ⟨k2,ym _,by simpa using k5.1,by simpa using k5.2,.inr rfl,ytt⟩,λyK=> ?_⟩)⟩
   ·unfold evN;rw[ho];dsimp only;rw[hc];dsimp only;rw[ha,ht,yz]
   ·unfold evR;rw[ho];dsimp only;rw[hc]
   ·unfold evE;rw[ho];dsimp only;rw[hc];dsimp only;rw[ha,ht];dsimp only;rw[hu,hv,hw,(Zdf hd).1];rw[yz];dsimp only;rw[h1,k3 yK,Ym hd];dsimp only[TEnt.er]
    have hnew:((H.map (TEnt.stale (lk H) id)).set id (.rowT T (()::v) st e' (l++ys)))[id]? =some (.rowT T (()::v) st e' (l++ys)):=by
     rw[ycv (by rw[yy];exact hlt)]
    have hH:erH ((H.map (TEnt.stale (lk H) id)).set id (.rowT T (()::v) st e' (l++ys)))=(erH H).set id (.row (v.length+1) T.size st e' (.p (.arr (l.length+ys.length) T.size (l.map T.enc++ys.map T.enc)))):=by
     unfold erH;rw[ybp,ybe]
     have:(TEnt.rowT T (()::v) st e' (l++ys)).er (lk ((H.map (TEnt.stale (lk H) id)).set id (.rowT T (()::v) st e' (l++ys))))=.row (v.length+1) T.size st e' (.p (.arr (l.length+ys.length) T.size (l.map T.enc++ys.map T.enc))):=by
      simp only[TEnt.er,yaj,yo,yas]
     rw[this];congr 1;refine ycn λx hx=> ?_;exact Zpr (λid t hn=>Zca (lk H) id t hn) x
    rw[yW (by simp[g1,g2,g5]),hH,(Zdf hnew).1];simp only[yy,yaj,yo];rw[show(l.map T.enc).take l.length=l.map T.enc by rw[<-yy (f:=T.enc),yao]]
  ·cases h
 ·rename_i T0;split at h
  ·rename_i e hu;obtain⟨i,h1,h⟩:=yf.1 h;obtain⟨T,h2,h⟩:=yf.1 h;obtain⟨ys,h3,h⟩:=yf.1 h;obtain⟨k4,h⟩:=Za h;obtain⟨k5,h⟩:=Za h;simp only[yj,yP] at k4;obtain⟨⟨⟨⟨⟨g1,g2⟩,g3⟩,g4⟩,g5⟩,g6⟩:=k4;obtain⟨g7,g8⟩:=ZeS k5;refine⟨_,_,_,_,_,h,Zki g5,rfl,or3 (⟨rfl,λyK=> ?_,λyK=> ?_,[(ys.map T.enc).length*i.bytes<=Zw,(ys.map T.enc).length<=maxLen],⟨by rw[yy];exact g7,by rw[yy];exact g8,ytt⟩,λyK=> ?_⟩)⟩
   ·unfold evN;rw[ho];dsimp only;rw[hc];dsimp only;rw[ha,ht];rfl
   ·unfold evR;rw[ho];dsimp only;rw[hc]
   ·unfold evE;rw[ho];dsimp only;rw[hc];dsimp only;rw[ha,ht];dsimp only;rw[hu,hv,hw,show(TD.p (TP.sl (some false) T0 [])).er (lk H)=Dv.p (.sl (some false) T0.size []) from rfl]
    dsimp only;rw[h1,g4,Zpq h3,yz,yw];dsimp only;rw[yW (by simp only[yj];exact⟨g1,g2⟩),Zsq g6,ZS,Zws,g3];simp only[yy,yco]
  ·cases h
 ·cases h
def ZLp(P:yg)(ts:yL TD)(t:yc)(len:Nat)(parts:yL (Nat×yn))(all:yL TD)(H:yL TEnt)(K:Kn O):yO O:=
 ZGD (lk H) P ts t len parts λT l e=>if(decide (l.length=len)&&TD.frees H.length all&&H.all (TEnt.free H.length))=true then K all (.rw H.length) (H++[.rowT T [] true e l]) [.arr] 2 else none
theorem ZGT{t:yc}{len:Nat}{parts:Array (Nat×yn)}(ho:o.op=.buildSlice t len parts)(h:ZLp P ts t len parts.toList all H K=some out):
 ∃a d H' hs c,K a d H' hs c=some out/\Good P o ts all H a d H' hs c:=by
 unfold ZLp at h;obtain⟨e,T,l,i,xs,h1,hu,hi,hl,hz,hs,hx⟩:=Zkg h;obtain⟨h2,h1⟩:=Za h1;simp only[yj,yP] at h2;obtain⟨⟨h2,g5⟩,g6⟩:=h2;refine⟨_,_,_,_,_,h1,Zki g5,rfl,or3 (⟨rfl,λyK=> ?_,λyK=> ?_,[],zP,λyK=> ?_⟩)⟩
 ·unfold evN;rw[ho];rfl
 ·unfold evR;rw[ho]
 ·unfold evE;rw[ho];dsimp only;rw[yz,yw];dsimp only;rw[hu];dsimp only;rw[hi,hl];dsimp only;rw[yW (by simpa using hz),hx,Zsq g6,Zws,ZS,hs,h2];rfl
def ZGU(P:yg)(ts:yL TD)(t:yc)(len:Nat)(parts:yL (Nat×yn))(id:Nat)(all:yL TD)(H:yL TEnt)(K:Kn O):yO O:=
 ZGD (lk H) P ts t len parts λT l e=>match H[id]? with
  |some (.rowT T' v _ e' _)=>if(decide (l.length=len)&&decide (e'=e)&&decide (T'.size=T.size))=true then K (TD.stales (lk H) id all) (.rw id) ((H.map (TEnt.stale (lk H) id)).set id (.rowT T (()::v) true e l)) [.fresh id] 2 else none
  |_=>none
theorem ZEI{t:yc}{len id:Nat}{parts:Array (Nat×yn)}(ho:o.op=.buildSlice t len parts)(h:ZGU P ts t len parts.toList id all H K=some out):
 ∃a d H' hs c,K a d H' hs c=some out/\Good P o ts all H a d H' hs c:=by
 unfold ZGU at h;obtain⟨e,T,l,i,xs,h1,hu,hi,hl,hz,hs,hx⟩:=Zkg h;split at h1
 case h_2=>cases h1
 rename_i T0 v st e' l0 hd;obtain⟨h2,h1⟩:=Za h1;simp only[yj,yP] at h2;obtain⟨⟨h2,rfl⟩,h3⟩:=h2;have hlt:id < H.length:=(yq.1 hd).1
 have hnew:((H.map (TEnt.stale (lk H) id)).set id (.rowT T (()::v) true e' l))[id]? =some (.rowT T (()::v) true e' l):=by
  rw[ycv (by rw[yy];exact hlt)]
 have hH:erH ((H.map (TEnt.stale (lk H) id)).set id (.rowT T (()::v) true e' l))=(erH H).set id (.row (v.length+1) T.size true e' (.p (.arr l.length T.size (l.map T.enc)))):=by
  unfold erH;rw[ybp,ybe]
  have:(TEnt.rowT T (()::v) true e' l).er (lk ((H.map (TEnt.stale (lk H) id)).set id (.rowT T (()::v) true e' l)))=.row (v.length+1) T.size true e' (.p (.arr l.length T.size (l.map T.enc))):=by
   simp only[TEnt.er,yaj]
  rw[this];congr 1;refine ycn λx hx=> ?_;exact Zpr (λid t hn=>Zca (lk H) id t hn) x
 refine⟨_,_,_,_,_,h1,ers_stale (λid' t hn=>Zca (lk H) id' t hn) all,Zhy all,or3 (⟨rfl,λyK=> ?_,λyK=> ?_,[],zP,λyK=> ?_⟩)⟩
 ·unfold evN;rw[ho];rfl
 ·unfold evR;rw[ho]
 ·unfold evE;rw[ho];dsimp only;rw[yz,yw];dsimp only;rw[hu,Ym hd];dsimp only[TEnt.er];rw[hi,hl];dsimp only;rw[yW (by rw[yj,yj,yT,yT];exact⟨⟨hz,rfl⟩,h3.trans hs.symm⟩),hx,hH,(Zdf hnew).1,hs, <-h2];simp only[yaj]
def ZGV(P:yg)(t:yc)(n n':Int)(all:yL TD)(H:yL TEnt)(K:Kn O):yO O:=
 match P.underlying t with
 |some (.slice e)=>(P.info? e).bind λi=>(ZnO P tyD e).bind λT=>
  if(zOk i&&i.size !=0&&decide (i.size=T.size)&&TD.frees H.length all&&H.all (TEnt.free H.length))=true then if(decide (n=0)&&ZuZ n' i.bytes)=true then K all (.rw H.length) (H++[.rowT T [] true e []]) [.arr] 2 else none else none
 |_=>none
theorem ZEJ{t:yc}{l c:yn}{n n':Num}(ho:o.op=.makeSlice t l c)(hl:(arT P ts 0 l).bind TD.num=some n)(hc:(arT P ts 0 c).bind TD.num=some n')(hk:n.k=.i64)(hk':n'.k=.i64)
 (h:ZGV P t n.n n'.n all H K=some out):∃a d H' hs c,K a d H' hs c=some out/\Good P o ts all H a d H' hs c:=by
 obtain⟨ld,l1,l2⟩:=yf.1 hl;obtain⟨cd,c1,c2⟩:=yf.1 hc;have hv:=ZA (L:=lk H) l1;have hw:=ZA (L:=lk H) c1;rw[ZgG l2,hk] at hv;rw[ZgG c2,hk'] at hw;unfold ZGV at h;have nN:∀hs,evN P o (TD.ers (lk H) ts) hs=none:=λhs=>by unfold evN;rw[ho]
 have nR:∀hs,evR P o (TD.ers (lk H) ts) (erH H) hs=none:=λhs=>by unfold evR;rw[ho]
 split at h
 ·rename_i e hu;obtain⟨i,h1,h⟩:=yf.1 h;obtain⟨T,h2,h⟩:=yf.1 h;obtain⟨h3,h⟩:=Za h;obtain⟨h4,h⟩:=Za h;simp only[yj,yP] at h3;obtain⟨⟨⟨g0,h3⟩,g5⟩,g6⟩:=h3;simp only[ZuZ,yj,yP] at h4;obtain⟨g1,g2⟩:=ZeS h4.2.2;refine⟨_,_,_,_,_,h,Zki g5,rfl,or3 (⟨rfl,λyK=>nN _,λyK=>nR _,[n.n=0,0<=n'.n,n'.n.toNat*i.bytes<=Zw,n'.n.toNat<=maxLen],⟨h4.1,h4.2.1,g1,g2,ytt⟩,λyK=> ?_⟩)⟩;unfold evE;rw[ho];dsimp only;rw[hu,hv,hw];dsimp only;rw[h1,yz,yw];dsimp only;rw[yW (by simpa using g0),Zsq g6,Zws,ZS,h3];rfl
 ·cases h
def ZCl(P:yg)(t:yc)(dst:Tmp)(all:yL TD)(H:yL TEnt)(K:Kn O):TD->yO O
 |.p (.sl (some false) T [])=>match P.underlying t with
  |some (.slice e)=>(P.info? e).bind λi=>if(zOk i&&i.size !=0&&decide (i.size=T.size)&&TD.frees H.length all&&H.all (TEnt.free H.length))=true then K all (.rw H.length) (H++[.rowT T [] true e []]) [.freshR dst] 2 else none
  |_=>none
 |_=>none
theorem ZCm{x:yn}{dst:Tmp}{xd:TD}(ho:o.op=.assign x)(hd:o.dst=some dst)(hx:arT P ts o.type x=some xd)(h:ZCl P o.type dst all H K xd=some out):
 ∃a d H' hs c,K a d H' hs c=some out/\Good P o ts all H a d H' hs c:=by
 have hv:=ZA (L:=lk H) hx;unfold ZCl at h;split at h
 ·rename_i T;split at h
  ·rename_i e hu;obtain⟨i,h1,h⟩:=yf.1 h;obtain⟨h2,h⟩:=Za h;simp only[yj,yP] at h2;obtain⟨⟨⟨g0,g3⟩,g5⟩,g6⟩:=h2;refine⟨_,_,_,_,_,h,Zki g5,rfl,or3 (⟨rfl,λyK=> ?_,λyK=> ?_,[],zP,λyK=> ?_⟩)⟩
   ·unfold evN;rw[ho];rfl
   ·unfold evR;rw[ho]
   ·unfold evE;rw[ho];dsimp only;rw[yz,yw];dsimp only;rw[yW hd,hu,hv,show(TD.p (TP.sl (some false) T [])).er (lk H)=Dv.p (.sl (some false) T.size []) from rfl]
    dsimp only;rw[h1];dsimp only;rw[yW (by simpa using g0),Zsq g6,Zws,ZS,g3];rfl
  ·cases h
 ·cases h
def Zxr(P:yg)(t:yc)(lo hi:yO Int)(all:yL TD)(H:yL TEnt)(K:Kn O):TD->yO O
 |.rw id=>match P.underlying t,H[id]?,lo,hi with
  |some (.slice e),some (.rowT T v true e' l),none,some h=>if(okB P e T.size&&decide (T.size≠0))=true then if(decide (0<=h)&&decide (h.toNat<=l.length))=true then
    K (TD.stales (lk H) id all) (.rw id) ((H.map (TEnt.stale (lk H) id)).set id (.rowT T v true e' (l.take h.toNat))) [.arr] 2 else none else none
  |_,_,_,_=>none
 |_=>none
theorem Zzy{t:yc}{x:yn}{lo hi:yO yn}{l h':yO Int}{xd:TD}(ho:o.op=.slice t x lo hi none)(hx:arT P ts t x=some xd)(hl:Ziz P ts lo=some l)(hh:Ziz P ts hi=some h')(h:Zxr P t l h' all H K xd=some out):
 ∃a d H' hs c,K a d H' hs c=some out/\Good P o ts all H a d H' hs c:=by
 have hv:=ZA (L:=lk H) hx;have hl2:=Zcz (L:=lk H) hl;have hh2:=Zcz (L:=lk H) hh;unfold Zxr at h;split at h
 ·rename_i id;split at h
  ·rename_i e T v e' xs h2 hu hd;obtain⟨h3,h⟩:=Za h;obtain⟨h4,h⟩:=Za h;simp only[yj,yP] at h3 h4;obtain⟨h3a,h3b⟩:=ZNK h3.1;have hlt:id < H.length:=(yq.1 hd).1
   have hnew:((H.map (TEnt.stale (lk H) id)).set id (.rowT T v true e' (xs.take h2.toNat)))[id]? =some (.rowT T v true e' (xs.take h2.toNat)):=by
    rw[ycv (by rw[yy];exact hlt)]
   have zW:(xs.take h2.toNat).length=h2.toNat:=by rw[List.length_take];omega
   have hH:erH ((H.map (TEnt.stale (lk H) id)).set id (.rowT T v true e' (xs.take h2.toNat)))=(erH H).set id (.row v.length T.size true e' (.p (.arr h2.toNat T.size ((xs.map T.enc).take h2.toNat)))):=by
    unfold erH;rw[ybp,ybe]
    have:(TEnt.rowT T v true e' (xs.take h2.toNat)).er (lk ((H.map (TEnt.stale (lk H) id)).set id (.rowT T v true e' (xs.take h2.toNat))))=.row v.length T.size true e' (.p (.arr h2.toNat T.size ((xs.map T.enc).take h2.toNat))):=by
     simp only[TEnt.er,zW,ycd]
    rw[this];congr 1;refine ycn λx hx=> ?_;exact Zpr (λid t hn=>Zca (lk H) id t hn) x
   refine⟨_,_,_,_,_,h,ers_stale (λid' t hn=>Zca (lk H) id' t hn) all,Zhy all,or3 (⟨rfl,λyK=> ?_,λyK=> ?_,[0<=h2,h2.toNat<=xs.length],⟨h4.1,h4.2,ytt⟩,λyK=> ?_⟩)⟩
   ·unfold evN;rw[ho];dsimp only;rw[hu,hv,(Zdf hd).1,hl2,hh2];rfl
   ·unfold evR;rw[ho];dsimp only;rw[hu,hv,(Zdf hd).1,hl2,hh2];rfl
   ·unfold evE;rw[ho];dsimp only;rw[hu,hv,(Zdf hd).1,hl2,hh2];dsimp only;rw[yz,yw];dsimp only;rw[Ym hd,TEnt.er];dsimp only;rw[yW (by simp[h3a,h3b,h3.2]),hH,(Zdf hnew).1,zW]
  ·cases h
 ·cases h
def TEnt.rowQ:TEnt->yO (Nat×Nat×Nat)
 |.rowN t _ v _ _ pre post=>some (v.length,t.size,pre.length+post.length)
 |.rowM t _ v _ _ pre _ post=>some (v.length,t.size,pre.length+(post.length+1))
 |_=>none
theorem ZCn{L:Lk}{id:Nat}{v:yL Unit}{s N:Nat}(h:Yb L id (.sl (.st [])) none=([v,yx s (),yx N ()]:yL (yL Unit))):
 (TD.rw id).er L=.rv id v.length s 0 N/\∀yQ,(TD.rp id yQ).er L=.rref id v.length (VZ yQ) (yQ.map Stp.i):=by
 refine⟨?_,λyQ=> ?_⟩
 ·rw[TD.er];unfold Zde;rw[h];show Dv.rv id v.length (yx s ()).length 0 (yx N ()).length=_;rw[yct,yct]
 ·rw[TD.er];unfold Zde;rw[h];rfl
theorem ZN0{id:Nat}{x:TEnt}{q:Nat×Nat×Nat}(hd:H[id]? =some x)(h:x.rowQ=some q):(TD.rw id).er (lk H)=.rv id q.1 q.2.1 0 q.2.2/\∀yQ,(TD.rp id yQ).er (lk H)=.rref id q.1 (VZ yQ) (yQ.map Stp.i):=by
 cases x <;> first|cases h|skip
 all_goals
  refine ZCn ?_;unfold Yb lk;dsimp only;rw[hd];rfl
end
end Go.Ev
end
section
namespace Go.Ev
abbrev TV:=Σ t:Ty,t.den
inductive Sh where
 |v (t:Ty)
 |elem (t:Ty)
 |nil (t:Ty)
 |sl (nn:Bool) (t:Ty)
 |own (j:Nat) (t:Ty)
 |ref (j:Nat) (yQ:List Stp)
 |mp (j:Nat)
 |rw(j:Nat)
 |rp (j s:Nat) (yQ:List Stp)
 |view (j:Nat) (yQ:List Stp) (s lo n:Nat)
 |fn (g:yu) (l:List Sh)
 |agg (l:List Sh)
 |arr (n s:Nat) (l:List Sh)
 |tup (l:List Sh)
 |iface (t:yc) (x:Sh)
 |ptr0|fn0|if0|map0
 |junk
instance:Inhabited Sh:=⟨.junk⟩
def Stp.beq:Stp->Stp->Bool
 |.fld i o,.fld j p=>decide (i=j)&&decide (o=p)
 |.ix i o,.ix j p=>decide (i=j)&&decide (o=p)
 |_,_=>false
def Zpu:yL Stp->yL Stp->Bool
 |[],[]=>true
 |q::r,p::s=>q.beq p&&Zpu r s
 |_,_=>false
theorem Zhz:∀{l m:yL Stp},Zpu l m=true->l=m
 |[],[],_=>rfl
 |[],_::_,h=>by cases h
 |_::_,[],h=>by cases h
 |q::r,p::s,h=>by
  simp only[Zpu,yj] at h;rw[Zhz h.2];congr 1;cases q <;> cases p <;> simp[Stp.beq] at h <;> simp[h.1]
def TD.toT(L:Lk)(t:Ty):TD->yO t.den
 |.p x=>TP.to ZnN x t
 |.own id _ u c=>match t with
  |.sl w=>Ty.castL u w (Yb L id u c)
  |_=>none
 |_=>none
theorem ZPZ{L:Lk}{t:Ty}{d:TD}{y:t.den}(h:d.toT L t=some y):Wk (d.er L) (.p (t.enc y)):=by
 cases d with
 |p x=>exact Wk.p (ZEl (show TP.to ZnN x t=some y from h))
 |own id nn u c=>
  cases t with
  |sl w=>
   obtain⟨e,h2⟩:=ZI (show Ty.castL u w (Yb L id u c)=some y from h)
   subst e;subst h2
   exact Wk.own_sl (PlsWk.refl _)
  |_=>cases h
 |_=>cases h
def ZRd(t:Ty):TD->yO t.den
 |.elem x=>TP.to ZnN x t
 |_=>none
theorem Wk.elem{x y:Pl}(h:PlWk x y):Wk (.elem x) (.elem y):=⟨rfl,rfl,λσ vs r=>by
 simp only[yH] at r ⊢;obtain⟨b,o,us,e,r1,r2⟩:=r;exact⟨b,o,us,e,h.rep _ _ _ r1,r2⟩⟩
theorem WkL.fn{f:yu}{ds es:yL Dv}(h:WkL ds es):Wk (.fn f ds) (.fn f es):=⟨rfl,rfl,λσ vs r=>by
 simp only[yH] at r ⊢;obtain⟨fs,cs,e,e0,r⟩:=r;exact⟨fs,cs,e,e0,h.vs r⟩⟩
theorem WkL.sizes{ds es:yL Dv}(h:WkL ds es)(s:Nat):(∀x,x∈ds->x.size=s)->∀x,x∈es->x.size=s:=by
 induction h with
 |nil=>intro _ x hx;cases hx
 |cons h k ih=>
  intro hh x hx;rcases List.mem_cons.1 hx with rfl|hx
  ·rw[<-h.size];exact hh _ (yaw ..)
  ·exact ih (λy hy=>hh y (yay _ hy)) x hx
theorem WkL.arr{n s:Nat}{ds es:yL Dv}(h:WkL ds es):Wk (.arr n s ds) (.arr n s es):=⟨rfl,rfl,λσ vs r=>by
 simp only[yH] at r ⊢;obtain⟨r1,r2,r3⟩:=r;have:=(WkL.agg h).rep σ vs (by simp only[yH];exact r3);simp only[yH] at this;exact⟨by rw[<-h.len];exact r1,h.sizes s r2,this⟩⟩
theorem Wk.iface{t:yc}{x y:Dv}(h:Wk x y):Wk (.iface t x) (.iface t y):=⟨rfl,rfl,λσ vs r=>by
 simp only[yH] at r ⊢;obtain⟨v,e,r1,r2⟩:=r;refine⟨v,e,λha=> ?_,λha=>h.rep _ _ (r2 (by rw[h.agg];exact ha))⟩;obtain⟨cs,e1,e2⟩:=r1 (by rw[h.agg];exact ha);exact⟨cs,e1,h.rep _ _ e2⟩⟩
mutual
def Sh.mt(L:Lk):Sh->TD->yO (TD×yL TV)
 |.v t,d=>(d.toT L t).map λy=>(.p (.v t y),[⟨t,y⟩])
 |.elem t,d=>(ZRd t d).map λy=>(.elem (.v t y),[⟨t,y⟩])
 |.nil t,d=>match d with
  |.p x=>if x.nilT t=true then some (.p (.sl (some false) t []),[]) else none
  |_=>none
 |.sl nn t,d=>match d with
  |.p (.sl (some b) u xs)=>if b=nn then(Ty.castL u t xs).map λy=>(.p (.sl (some nn) t y),[⟨.sl t,y⟩]) else none
  |_=>none
 |.own j t,d=>match d with
  |.own id _ u none=>if id=j/\u=t then some (.own j none t none,[]) else none
  |_=>none
 |.ref j p,d=>match d with
  |.ref id q=>if id=j/\Zpu p q=true then some (.ref j p,[]) else none
  |_=>none
 |.mp j,d=>match d with
  |.mp id=>if id=j then some (.mp j,[]) else none
  |_=>none
 |.rw j,d=>match d with
  |.rw id=>if id=j then some (.rw j,[]) else none
  |_=>none
 |.rp j s p,d=>match d with
  |.rp id (.ix i s'::q)=>if id=j/\s'=s/\Zpu p q=true then some (.rp j (.ix i s::p),[⟨.int .i64,(i:Int)⟩]) else none
  |_=>none
 |.view j p s lo n,d=>match d with
  |.view id q s' lo' n'=>if id=j/\Zpu p q=true/\s=s'/\lo=lo'/\n=n' then some (.view j p s lo n,[]) else none
  |_=>none
 |.fn g l,d=>match d with
  |.fn f ds=>if f=g then(Sh.mts L l ds).map λq=>(.fn g q.1,q.2) else none
  |_=>none
 |.agg l,d=>match d with
  |.agg ds=>(Sh.mts L l ds).map λq=>(.agg q.1,q.2)
  |_=>none
 |.arr n s l,d=>match d with
  |.arr m s' ds=>if m=n/\s'=s then(Sh.mts L l ds).map λq=>(.arr n s q.1,q.2) else none
  |_=>none
 |.tup l,d=>match d with
  |.tup ds=>(Sh.mts L l ds).map λq=>(.tup q.1,q.2)
  |_=>none
 |.iface t x,d=>match d with
  |.iface u y=>if u=t then(Sh.mt L x y).map λq=>(.iface t q.1,q.2) else none
  |_=>none
 |.ptr0,d=>match d with
  |.p .ptr0=>some (.p .ptr0,[])
  |_=>none
 |.fn0,d=>match d with
  |.p .fn0=>some (.p .fn0,[])
  |_=>none
 |.if0,d=>match d with
  |.p .if0=>some (.p .if0,[])
  |_=>none
 |.map0,d=>match d with
  |.p .map0=>some (.p .map0,[])
  |_=>none
 |.junk,d=>if(d.er L).size=1/\(d.er L).isAgg=false then some (.junk,[]) else none
def Sh.mts(L:Lk):yL Sh->yL TD->yO (yL TD×yL TV)
 |[],ds=>match ds with
  |[]=>some ([],[])
  |_=>none
 |s::r,ds=>match ds with
  |d::q=>match Sh.mt L s d,Sh.mts L r q with
   |some a,some b=>some (a.1::b.1,a.2++b.2)
   |_,_=>none
  |[]=>none
end
mutual
def Sh.fill:Sh->yL TV->yO (TD×yL TV)
 |.v t,vs=>match vs with
  |x::r=>(Ty.cast x.1 t x.2).map λy=>(.p (.v t y),r)
  |[]=>none
 |.elem t,vs=>match vs with
  |x::r=>(Ty.cast x.1 t x.2).map λy=>(.elem (.v t y),r)
  |[]=>none
 |.nil t,vs=>some (.p (.sl (some false) t []),vs)
 |.sl nn t,vs=>match vs with
  |x::r=>(Ty.cast x.1 (.sl t) x.2).map λ(y:yL t.den)=>(.p (.sl (some nn) t y),r)
  |[]=>none
 |.own j t,vs=>some (.own j none t none,vs)
 |.ref j p,vs=>some (.ref j p,vs)
 |.mp j,vs=>some (.mp j,vs)
 |.rw j,vs=>some (.rw j,vs)
 |.rp j s p,vs=>match vs with
  |x::r=>(Ty.cast x.1 (.int .i64) x.2).map λ(i:Int)=>(.rp j (.ix i.toNat s::p),r)
  |[]=>none
 |.view j p s lo n,vs=>some (.view j p s lo n,vs)
 |.fn g l,vs=>(Sh.fills l vs).map λq=>(.fn g q.1,q.2)
 |.agg l,vs=>(Sh.fills l vs).map λq=>(.agg q.1,q.2)
 |.arr n s l,vs=>(Sh.fills l vs).map λq=>(.arr n s q.1,q.2)
 |.tup l,vs=>(Sh.fills l vs).map λq=>(.tup q.1,q.2)
 |.iface t x,vs=>(Sh.fill x vs).map λq=>(.iface t q.1,q.2)
 |.ptr0,vs=>some (.p .ptr0,vs)
 |.fn0,vs=>some (.p .fn0,vs)
 |.if0,vs=>some (.p .if0,vs)
 |.map0,vs=>some (.p .map0,vs)
 |.junk,vs=>some (.junk,vs)
def Sh.fills:yL Sh->yL TV->yO (yL TD×yL TV)
 |[],vs=>some ([],vs)
 |s::r,vs=>(Sh.fill s vs).bind λa=>(Sh.fills r a.2).map λb=>(a.1::b.1,b.2)
end
theorem Xw(t:Ty)(x:t.den):Ty.cast t t x=some x:=by
 unfold Ty.cast;split
 ·rfl
 ·rename_i h _;exact absurd rfl h
mutual
theorem Zpv{L:Lk}:∀(s:Sh)(d:TD)(q:TD×yL TV),s.mt L d=some q->∀yK,s.fill (q.2++yK)=some (q.1,yK)
 |.v t,d,q,h,yK=>by
  simp only[Sh.mt] at h;obtain⟨y,_,rfl⟩:=Zd h
  simp[Sh.fill,Xw]
 |.elem t,d,q,h,yK=>by
  simp only[Sh.mt] at h;obtain⟨y,_,rfl⟩:=Zd h
  simp[Sh.fill,Xw]
 |.nil t,d,q,h,yK=>by
  simp only[Sh.mt] at h;split at h
  ·split at h <;> cases h;rfl
  ·cases h
 |.sl nn t,d,q,h,yK=>by
  simp only[Sh.mt] at h;split at h
  ·split at h
   ·obtain⟨w,h1,rfl⟩:=Zd h;exact congrArg (Option.map λ(y:yL t.den)=>(TD.p (.sl (some nn) t y),yK)) (Xw (.sl t) w)
   ·cases h
  ·cases h
 |.own j t,d,q,h,yK=>by
  simp only[Sh.mt] at h;split at h
  ·split at h <;> cases h;rfl
  ·cases h
 |.ref j p,d,q,h,yK=>by
  simp only[Sh.mt] at h;split at h
  ·split at h <;> cases h;rfl
  ·cases h
 |.mp j,d,q,h,yK=>by
  simp only[Sh.mt] at h;split at h
  ·split at h <;> cases h;rfl
  ·cases h
 |.rw j,d,q,h,yK=>by
  simp only[Sh.mt] at h;split at h
  ·split at h <;> cases h;rfl
  ·cases h
 |.rp j s p,d,q,h,yK=>by
  simp only[Sh.mt] at h;split at h
  ·rename_i id i s' q';split at h
   ·cases h;exact congrArg (Option.map λ(i:Int)=>(TD.rp j (.ix i.toNat s::p),yK)) (Xw (.int .i64) (i:Int))
   ·cases h
  ·cases h
 |.view j p s lo n,d,q,h,yK=>by
  simp only[Sh.mt] at h;split at h
  ·split at h <;> cases h;rfl
  ·cases h
 |.fn g l,d,q,h,yK=>by
  simp only[Sh.mt] at h;split at h
  ·split at h
   ·obtain⟨w,h1,rfl⟩:=Zd h;simp only[Sh.fill,mts_fills l _ w h1 yK,yaa]
   ·cases h
  ·cases h
 |.agg l,d,q,h,yK=>by
  simp only[Sh.mt] at h;split at h
  ·obtain⟨w,h1,rfl⟩:=Zd h;simp only[Sh.fill,mts_fills l _ w h1 yK,yaa]
  ·cases h
 |.arr n s l,d,q,h,yK=>by
  simp only[Sh.mt] at h;split at h
  ·split at h
   ·obtain⟨w,h1,rfl⟩:=Zd h;simp only[Sh.fill,mts_fills l _ w h1 yK,yaa]
   ·cases h
  ·cases h
 |.tup l,d,q,h,yK=>by
  simp only[Sh.mt] at h;split at h
  ·obtain⟨w,h1,rfl⟩:=Zd h;simp only[Sh.fill,mts_fills l _ w h1 yK,yaa]
  ·cases h
 |.iface t x,d,q,h,yK=>by
  simp only[Sh.mt] at h;split at h
  ·split at h
   ·obtain⟨w,h1,rfl⟩:=Zd h;simp only[Sh.fill,Zpv x _ w h1 yK,yaa]
   ·cases h
  ·cases h
 |.ptr0,d,q,h,yK=>by
  simp only[Sh.mt] at h
  split at h <;> cases h;rfl
 |.fn0,d,q,h,yK=>by
  simp only[Sh.mt] at h
  split at h <;> cases h;rfl
 |.if0,d,q,h,yK=>by
  simp only[Sh.mt] at h
  split at h <;> cases h;rfl
 |.map0,d,q,h,yK=>by
  simp only[Sh.mt] at h
  split at h <;> cases h;rfl
 |.junk,d,q,h,yK=>by
  simp only[Sh.mt] at h;split at h <;> cases h;rfl
theorem mts_fills{L:Lk}:∀(l:yL Sh)(ds:yL TD)(q:yL TD×yL TV),Sh.mts L l ds=some q->∀yK,Sh.fills l (q.2++yK)=some (q.1,yK)
 |[],ds,q,h,yK=>by
  simp only[Sh.mts] at h
  split at h <;> cases h;rfl
 |s::r,ds,q,h,yK=>by
  simp only[Sh.mts] at h;split at h
  ·split at h
   ·rename_i a b h1 h2;cases h;simp only[Sh.fills,yad,Zpv s _ a h1,ya,mts_fills r _ b h2,yaa]
   ·cases h
  ·cases h
end
mutual
theorem Zxs{L M:Lk}(hL:∀id t,Yb L id t none=Yb M id t none):∀(s:Sh)(d:TD)(q:TD×yL TV),s.mt L d=some q->Wk (d.er L) (q.1.er M)
 |.v t,d,q,h=>by
  simp only[Sh.mt] at h;obtain⟨y,h1,rfl⟩:=Zd h
  exact ZPZ h1
 |.elem t,d,q,h=>by
  simp only[Sh.mt] at h;obtain⟨y,h1,rfl⟩:=Zd h;cases d <;> first|cases h1|skip
  exact Wk.elem (ZEl h1)
 |.nil t,d,q,h=>by
  simp only[Sh.mt] at h;split at h
  ·split at h
   ·rename_i hn;cases h;refine Wk.of_eq ?_;rw[TD.er,ZIc hn];rfl
   ·cases h
  ·cases h
 |.sl nn t,d,q,h=>by
  simp only[Sh.mt] at h;split at h
  ·split at h
   ·rename_i e;subst e;obtain⟨w,h1,rfl⟩:=Zd h;obtain⟨e,h2⟩:=ZI h1;subst e;subst h2;exact Wk.refl _
   ·cases h
  ·cases h
 |.own j t,d,q,h=>by
  simp only[Sh.mt] at h;split at h
  ·split at h
   ·rename_i e;obtain⟨rfl,rfl⟩:=e;cases h;rw[TD.er,TD.er,hL];exact Wk.own rfl
   ·cases h
  ·cases h
 |.ref j p,d,q,h=>by
  simp only[Sh.mt] at h;split at h
  ·split at h
   ·rename_i e;obtain⟨rfl,e⟩:=e;cases h;rw[Zhz e];exact Wk.refl _
   ·cases h
  ·cases h
 |.mp j,d,q,h=>by
  simp only[Sh.mt] at h;split at h
  ·split at h
   ·rename_i e;subst e;cases h;exact Wk.refl _
   ·cases h
  ·cases h
 |.rw j,d,q,h=>by
  simp only[Sh.mt] at h;split at h
  ·split at h
   ·rename_i e;subst e;cases h;refine Wk.of_eq ?_;rw[TD.er,TD.er];simp only[Zde,hL]
   ·cases h
  ·cases h
 |.rp j s p,d,q,h=>by
  simp only[Sh.mt] at h;split at h
  ·split at h
   ·rename_i e;obtain⟨rfl,rfl,e⟩:=e;cases h;rw[Zhz e];refine Wk.of_eq ?_;rw[TD.er,TD.er];simp only[Zde,hL]
   ·cases h
  ·cases h
 |.view j p s lo n,d,q,h=>by
  simp only[Sh.mt] at h;split at h
  ·split at h
   ·rename_i e;obtain⟨rfl,e,rfl,rfl,rfl⟩:=e;cases h;rw[Zhz e];exact Wk.refl _
   ·cases h
  ·cases h
 |.fn g l,d,q,h=>by
  simp only[Sh.mt] at h;split at h
  ·split at h
   ·rename_i e;subst e;obtain⟨w,h1,rfl⟩:=Zd h;exact WkL.fn (mts_wk hL l _ w h1)
   ·cases h
  ·cases h
 |.agg l,d,q,h=>by
  simp only[Sh.mt] at h;split at h
  ·obtain⟨w,h1,rfl⟩:=Zd h;exact WkL.agg (mts_wk hL l _ w h1)
  ·cases h
 |.arr n s l,d,q,h=>by
  simp only[Sh.mt] at h;split at h
  ·split at h
   ·rename_i e;obtain⟨rfl,rfl⟩:=e;obtain⟨w,h1,rfl⟩:=Zd h;exact WkL.arr (mts_wk hL l _ w h1)
   ·cases h
  ·cases h
 |.tup l,d,q,h=>by
  simp only[Sh.mt] at h;split at h
  ·obtain⟨w,h1,rfl⟩:=Zd h;exact WkL.tup (mts_wk hL l _ w h1)
  ·cases h
 |.iface t x,d,q,h=>by
  simp only[Sh.mt] at h;split at h
  ·split at h
   ·rename_i e;subst e;obtain⟨w,h1,rfl⟩:=Zd h;exact Wk.iface (Zxs hL x _ w h1)
   ·cases h
  ·cases h
 |.ptr0,d,q,h=>by
  simp only[Sh.mt] at h
  split at h <;> cases h;exact Wk.refl _
 |.fn0,d,q,h=>by
  simp only[Sh.mt] at h
  split at h <;> cases h;exact Wk.refl _
 |.if0,d,q,h=>by
  simp only[Sh.mt] at h
  split at h <;> cases h;exact Wk.refl _
 |.map0,d,q,h=>by
  simp only[Sh.mt] at h
  split at h <;> cases h;exact Wk.refl _
 |.junk,d,q,h=>by
  simp only[Sh.mt] at h;split at h
  ·rename_i e;cases h;exact Wk.junk e.2 e.1
  ·cases h
theorem mts_wk{L M:Lk}(hL:∀id t,Yb L id t none=Yb M id t none):∀(l:yL Sh)(ds:yL TD)(q:yL TD×yL TV),Sh.mts L l ds=some q->WkL (TD.ers L ds) (TD.ers M q.1)
 |[],ds,q,h=>by
  simp only[Sh.mts] at h
  split at h <;> cases h;exact .nil
 |s::r,ds,q,h=>by
  simp only[Sh.mts] at h;split at h
  ·split at h
   ·rename_i a b h1 h2;cases h;exact .cons (Zxs hL s _ a h1) (mts_wk hL r _ b h2)
   ·cases h
  ·cases h
end
inductive ESh where
 |var (s:Sh) (st:Bool)
 |log (t:Ty) (e:yc)
 |map (tid:yc) (k v:Ty)
 |row (t:Ty) (st:Bool) (e:yc)
 |rowN (t:Ty) (np:List Nat) (st:Bool) (e:yc)
 |rowM (t:Ty) (np:List Nat) (st:Bool) (e:yc) (s:Sh)
 |gone
def ZvK(k v:Ty):Ty:=.sl (.st [k,v])
def ZP0(L:Lk)(t:Ty)(d:TD):yO t.den:=(d.flat L).bind λx=>TP.to ZnN x t
theorem ZIf{L:Lk}{t:Ty}{d:TD}{y:t.den}(h:ZP0 L t d=some y):Wk (d.er L) (.p (t.enc y)):=by
 obtain⟨x,h1,h2⟩:=yf.1 h;have hf:(d.er L).flat=some x.pe:=by rw[Zwq,h1];rfl
 have hw:Wk (d.er L) (.p x.pe):=⟨(ZtB _ _ hf).symm,(ZDO hf).symm,λσ vs r=>by simp only[yH];exact Zpi _ _ _ hf r⟩;have hz:=ZEl h2;exact⟨hw.size.trans hz.size,hw.agg.trans hz.agg,λσ vs r=>(Wk.p hz).rep σ vs (hw.rep σ vs r)⟩
def ESh.mt(L:Lk):ESh->TEnt->yO (TEnt×yL TV)
 |.var s st,.var d st'=>if st=st'\/st=false then(s.mt L d).map λq=>(.var q.1 st,q.2) else none
 |.log t e,.log u e' xs=>if e=e' then(Ty.castL u t xs).map λys=>(.log t e ys,[⟨.sl t,ys⟩]) else none
 |.map tid k v,.map tid' k' v' l=>if tid=tid' then(Ty.cast (ZvK k' v') (ZvK k v) l).map λ(m:yL (k.den×v.den))=>(.map tid k v m,[⟨ZvK k v,m⟩]) else none
 |.row t st e,.rowT u v st' e' xs=>if(st=st'\/st=false)/\e=e' then(Ty.castL u t xs).map λys=>(.rowT t v st e ys,[⟨.sl (.st []),v⟩,⟨.sl t,ys⟩]) else none
 |.rowN t np st e,.rowN u np' v st' e' pre post=>if(st=st'\/st=false)/\e=e'/\np=np' then(Ty.castL u t pre).bind λys=>(Ty.castL u t post).map λzs=>
   (.rowN t np v st e ys zs,[⟨.sl (.st []),v⟩,⟨.sl t,ys⟩,⟨.sl t,zs⟩]) else none
 |.rowN t np st e,.rowM u np' v st' e' pre mid post=>if st=st'/\e=e'/\np=np' then(Ty.castL u t pre).bind λys=>(Ty.castL u t post).bind λzs=>(ZP0 L t mid).map λy=>
   (.rowN t np v st e (ys++[y]) zs,[⟨.sl (.st []),v⟩,⟨.sl t,ys++[y]⟩,⟨.sl t,zs⟩]) else none
 |.rowM t np st e s,.rowM u np' v st' e' pre mid post=>if st=st'/\e=e'/\np=np' then(Ty.castL u t pre).bind λys=>(Ty.castL u t post).bind λzs=>(s.mt L mid).map λq=>
   (.rowM t np v st e ys q.1 zs,[⟨.sl (.st []),v⟩,⟨.sl t,ys⟩,⟨.sl t,zs⟩]++q.2) else none
 |.gone,.gone=>some (.gone,[])
 |_,_=>none
def ESh.fill:ESh->yL TV->yO (TEnt×yL TV)
 |.var s st,vs=>(s.fill vs).map λq=>(.var q.1 st,q.2)
 |.log t e,vs=>match vs with
  |x::r=>(Ty.cast x.1 (.sl t) x.2).map λ(y:yL t.den)=>(.log t e y,r)
  |[]=>none
 |.map tid k v,vs=>match vs with
  |x::r=>(Ty.cast x.1 (ZvK k v) x.2).map λ(y:yL (k.den×v.den))=>(.map tid k v y,r)
  |[]=>none
 |.row t st e,vs=>match vs with
  |x::y::r=>(Ty.cast x.1 (.sl (.st [])) x.2).bind λ(v:yL Unit)=>(Ty.cast y.1 (.sl t) y.2).map λ(l:yL t.den)=>(.rowT t v st e l,r)
  |_=>none
 |.rowN t np st e,vs=>match vs with
  |x::y::z::r=>(Ty.cast x.1 (.sl (.st [])) x.2).bind λ(v:yL Unit)=>(Ty.cast y.1 (.sl t) y.2).bind λ(l:yL t.den)=>(Ty.cast z.1 (.sl t) z.2).bind λ(m:yL t.den)=>some (.rowN t np v st e l m,r)
  |_=>none
 |.rowM t np st e s,vs=>match vs with
  |x::y::z::r=>(Ty.cast x.1 (.sl (.st [])) x.2).bind λ(v:yL Unit)=>(Ty.cast y.1 (.sl t) y.2).bind λ(l:yL t.den)=>(Ty.cast z.1 (.sl t) z.2).bind λ(m:yL t.den)=>
   (s.fill r).map λq=>(.rowM t np v st e l q.1 m,q.2)
  |_=>none
 |.gone,vs=>some (.gone,vs)
def ESh.mts(L:Lk):yL ESh->yL TEnt->yO (yL TEnt×yL TV)
 |[],[]=>some ([],[])
 |s::r,d::q=>match ESh.mt L s d,ESh.mts L r q with
  |some a,some b=>some (a.1::b.1,a.2++b.2)
  |_,_=>none
 |_,_=>none
def ESh.fills:yL ESh->yL TV->yO (yL TEnt×yL TV)
 |[],vs=>some ([],vs)
 |s::r,vs=>(ESh.fill s vs).bind λa=>(ESh.fills r a.2).map λb=>(a.1::b.1,b.2)
theorem ZLq{O:Type}{t:Ty}(v:yL Unit)(a b:yL t.den)(k:yL Unit->yL t.den->yL t.den->yO O):
 ((Ty.cast (.sl (.st [])) (.sl (.st [])) v).bind λ(v:yL Unit)=>(Ty.cast (.sl t) (.sl t) a).bind λ(l:yL t.den)=>(Ty.cast (.sl t) (.sl t) b).bind λ(m:yL t.den)=>k v l m)=k v a b:=by
 have e1:=Xw (.sl (.st [])) v;have e2:=Xw (.sl t) a;have e3:=Xw (.sl t) b;rw[e1,e2,e3];rfl
theorem ZLr{L:Lk}{s:ESh}{d:TEnt}{q:TEnt×yL TV}(h:s.mt L d=some q)(yK:yL TV):s.fill (q.2++yK)=some (q.1,yK):=by
 unfold ESh.mt at h;split at h
 ·split at h
  ·obtain⟨w,h1,rfl⟩:=Zd h;simp only[ESh.fill,Zpv _ _ w h1 yK,yaa]
  ·cases h
 ·split at h
  ·obtain⟨w,h1,rfl⟩:=Zd h;rename_i t e _ _ _ _;exact congrArg (Option.map λ(y:yL t.den)=>(TEnt.log t e y,yK)) (Xw (.sl t) w)
  ·cases h
 ·split at h
  ·obtain⟨w,h1,rfl⟩:=Zd h;rename_i tid k v _ _ _ _ _;exact congrArg (Option.map λ(y:yL (k.den×v.den))=>(TEnt.map tid k v y,yK)) (Xw (ZvK k v) w)
  ·cases h
 ·split at h
  ·obtain⟨w,h1,rfl⟩:=Zd h;rename_i t st e _ v _ _ _ _;have e1:=Xw (.sl (.st [])) v;have e2:=Xw (.sl t) w;show((Ty.cast (.sl (.st [])) (.sl (.st [])) v).bind λ(v:yL Unit)=>(Ty.cast (.sl t) (.sl t) w).map λ(l:yL t.den)=>(TEnt.rowT t v st e l,yK))=_;rw[e1,e2];rfl
  ·cases h
 ·rename_i t np st e u np' v st' e' pre post;split at h
  ·obtain⟨a,h1,h⟩:=yf.1 h;obtain⟨b,h2,rfl⟩:=Zd h;exact ZLq v a b (λv l m=>some (TEnt.rowN t np v st e l m,yK))
  ·cases h
 ·rename_i t np st e u np' v st' e' pre mid post;split at h
  ·obtain⟨a,h1,h⟩:=yf.1 h;obtain⟨b,h2,h⟩:=yf.1 h;obtain⟨c,h3,rfl⟩:=Zd h;exact ZLq v (a++[c]) b (λv l m=>some (TEnt.rowN t np v st e l m,yK))
  ·cases h
 ·rename_i t np st e s u np' v st' e' pre mid post;split at h
  ·obtain⟨a,h1,h⟩:=yf.1 h;obtain⟨b,h2,h⟩:=yf.1 h;obtain⟨c,h3,rfl⟩:=Zd h;have:=ZLq v a b (λv l m=>(s.fill (c.2++yK)).map λq=>(TEnt.rowM t np v st e l q.1 m,q.2));refine this.trans ?_;rw[Zpv _ _ c h3 yK];rfl
  ·cases h
 ·cases h;rfl
 ·cases h
theorem ZbT{L:Lk}:∀{l:yL ESh}{H:yL TEnt}{q:yL TEnt×yL TV},ESh.mts L l H=some q->∀yK,ESh.fills l (q.2++yK)=some (q.1,yK)
 |[],[],q,h,yK=>by cases h;rfl
 |[],_::_,q,h,yK=>by cases h
 |_::_,[],q,h,yK=>by cases h
 |s::r,d::H,q,h,yK=>by
  simp only[ESh.mts] at h;split at h
  ·rename_i a b h1 h2;cases h;simp only[ESh.fills,yad,ZLr h1,ya,ZbT h2,yaa]
  ·cases h
theorem ZP1{L:Lk}{s:ESh}{d:TEnt}{q:TEnt×yL TV}(h:s.mt L d=some q):lkE (some q.1)=lkE (some d):=by
 unfold ESh.mt at h;split at h
 ·split at h
  ·obtain⟨w,h1,rfl⟩:=Zd h;rfl
  ·cases h
 ·split at h
  ·obtain⟨w,h1,rfl⟩:=Zd h;obtain⟨e,h2⟩:=ZI h1;subst e;subst h2;rfl
  ·cases h
 ·split at h
  ·obtain⟨w,h1,rfl⟩:=Zd h;rfl
  ·cases h
 ·split at h
  ·obtain⟨w,h1,rfl⟩:=Zd h;obtain⟨e,h2⟩:=ZI h1;subst e;subst h2;rfl
  ·cases h
 ·split at h
  ·obtain⟨a,h1,h⟩:=yf.1 h;obtain⟨b,h2,rfl⟩:=Zd h;obtain⟨e,h3⟩:=ZI h1;subst e;obtain⟨_,h4⟩:=ZI h2;subst h3;subst h4;rfl
  ·cases h
 ·split at h
  ·obtain⟨a,h1,h⟩:=yf.1 h;obtain⟨b,h2,h⟩:=yf.1 h;obtain⟨c,h3,rfl⟩:=Zd h;obtain⟨e,h4⟩:=ZI h1;subst e;obtain⟨_,h5⟩:=ZI h2;subst h4;subst h5;simp only[lkE,yo,yaj,yco];rw[Nat.add_assoc,Nat.add_comm (0+1)]
  ·cases h
 ·split at h
  ·obtain⟨a,h1,h⟩:=yf.1 h;obtain⟨b,h2,h⟩:=yf.1 h;obtain⟨c,h3,rfl⟩:=Zd h;obtain⟨e,h4⟩:=ZI h1;subst e;obtain⟨_,h5⟩:=ZI h2;subst h4;subst h5;rfl
  ·cases h
 ·cases h;rfl
 ·cases h
theorem Zkk{L:Lk}:∀{l:yL ESh}{H:yL TEnt}{q:yL TEnt×yL TV},ESh.mts L l H=some q->q.1.length=H.length/\lk q.1=lk H
 |[],[],q,h=>by cases h;exact⟨rfl,rfl⟩
 |[],_::_,q,h=>by cases h
 |_::_,[],q,h=>by cases h
 |s::r,d::H,q,h=>by
  simp only[ESh.mts] at h;split at h
  ·rename_i a b h1 h2;cases h;obtain⟨e1,e2⟩:=Zkk h2;refine⟨by simp[e1],funext λi=> ?_⟩
   cases i with
   |zero=>exact ZP1 h1
   |succ i=>exact congrFun e2 i
  ·cases h
theorem ZIg:∀(l:yL Dv){m m':yL Dv},WkL m m'->WkL (l++m) (l++m')
 |[],_,_,h=>h
 |x::l,_,_,h=>.cons (Wk.refl x) (ZIg l h)
theorem ZIh{l m:yL Dv}{d d':Dv}(h:Wk d d'):WkL (l++d::m) (l++d'::m):=ZIg l (.cons h (WkL.refl m))
theorem ZLs{n s:Nat}(xs:yL Pl):Wk (.arr n s (xs.map .p)) (.p (.arr n s xs)):=⟨rfl,rfl,λσ vs r=>by
 simp only[yH,repC] at r ⊢;obtain⟨h1,h2,h3⟩:=r;exact⟨by simpa using h1,λx hx=>h2 (.p x) (List.mem_map_of_mem hx),Zk9.1 h3⟩⟩
theorem ZP2{n s:Nat}{d:Dv}{x:Pl}(l m:yL Pl)(h:Wk d (.p x)):Wk (.arr n s (l.map .p++d::m.map .p)) (.p (.arr n s (l++x::m))):=by
 have h1:Wk (.arr n s (l.map .p++d::m.map .p)) (.arr n s (l.map .p++.p x::m.map .p)):=WkL.arr (ZIh h);have h2:=ZLs (n:=n) (s:=s) (l++x::m);rw[yas,yag] at h2;exact⟨rfl,rfl,λσ vs r=>h2.rep σ vs (h1.rep σ vs r)⟩
theorem ZIi{L M:Lk}{t:Ty}{np:yL Nat}{v:yL Unit}{st:Bool}{e:yc}{a b:yL t.den}{mid:TD}{c:t.den}(hw:Wk (mid.er L) (.p (t.enc c))):
 WkE ((TEnt.rowM t np v st e a mid b).er L) ((TEnt.rowN t np v st e (a++[c]) b).er M):=by
 have h:=ZP2 (a.map t.enc) (b.map λx=>(ZAE np (.v t x)).pe) (n:=a.length+(b.length+1)) (s:=t.size) hw;rw[ybe,ybe] at h;have e1:(a++[c]).length+b.length=a.length+(b.length+1):=by rw[yo,yaj,yco];omega
 have e2:(a++[c]).map t.enc++(b.map λx=>(ZAE np (.v t x)).pe)=a.map t.enc++t.enc c::b.map λx=>(ZAE np (.v t x)).pe:=by rw[yas,yad];rfl
 rw[TEnt.er,TEnt.er,e1,e2];exact .row ⟨h,rfl⟩
theorem ZP3{L M:Lk}(hL:∀id t,Yb L id t none=Yb M id t none){s:ESh}{d:TEnt}{q:TEnt×yL TV}(h:s.mt L d=some q):WkE (d.er L) (q.1.er M):=by
 unfold ESh.mt at h;split at h
 ·split at h
  ·rename_i e;obtain⟨w,h1,rfl⟩:=Zd h;rcases e with e|e
   ·subst e;exact .var (Zxs hL _ _ w h1)
   ·subst e;exact .varz (Zxs hL _ _ w h1)
  ·cases h
 ·split at h
  ·rename_i e;subst e;obtain⟨w,h1,rfl⟩:=Zd h;obtain⟨e,h2⟩:=ZI h1;subst e;subst h2;exact .refl _
  ·cases h
 ·split at h
  ·rename_i e;subst e;obtain⟨w,h1,rfl⟩:=Zd h;obtain⟨e,h2⟩:=Zb8 h1;unfold ZvK at e;simp only[Ty.sl.injEq,Ty.st.injEq,List.cons.injEq,and_true] at e;obtain⟨e1,e2⟩:=e;subst e1;subst e2;subst h2;exact .refl _
  ·cases h
 ·split at h
  ·rename_i e;obtain⟨e0,e1⟩:=e;subst e1;obtain⟨w,h1,rfl⟩:=Zd h;obtain⟨e,h2⟩:=ZI h1;subst e;subst h2;rcases e0 with e0|e0
   ·subst e0;exact .refl _
   ·subst e0;exact .lock
  ·cases h
 ·split at h
  ·rename_i e;obtain⟨e0,e1,e2⟩:=e;subst e1;subst e2;obtain⟨a,h1,h⟩:=yf.1 h;obtain⟨b,h2,rfl⟩:=Zd h;obtain⟨e,h3⟩:=ZI h1;subst e;obtain⟨_,h4⟩:=ZI h2;subst h3;subst h4;rcases e0 with e0|e0
   ·subst e0;exact .refl _
   ·subst e0;exact .lock
  ·cases h
 ·rename_i _ _ _ _ _ _ _ _ _ pre mid post;split at h
  ·rename_i e;obtain⟨e0,e1,e2⟩:=e;subst e0;subst e1;subst e2;obtain⟨a,h1,h⟩:=yf.1 h;obtain⟨b,h2,h⟩:=yf.1 h;obtain⟨c,h3,rfl⟩:=Zd h;obtain⟨e,h4⟩:=ZI h1;subst e;obtain⟨_,h5⟩:=ZI h2;subst h4;subst h5;exact ZIi (ZIf h3)
  ·cases h
 ·split at h
  ·rename_i e;obtain⟨e0,e1,e2⟩:=e;subst e0;subst e1;subst e2;obtain⟨a,h1,h⟩:=yf.1 h;obtain⟨b,h2,h⟩:=yf.1 h;obtain⟨c,h3,rfl⟩:=Zd h;obtain⟨e,h4⟩:=ZI h1;subst e;obtain⟨_,h5⟩:=ZI h2;subst h4;subst h5;rw[TEnt.er,TEnt.er];exact .row ⟨WkL.arr (ZIh (Zxs hL _ _ c h3)),rfl⟩
  ·cases h
 ·cases h;exact .refl _
 ·cases h
theorem Zpw{L M:Lk}(hL:∀id t,Yb L id t none=Yb M id t none):∀{l:yL ESh}{H:yL TEnt}{q:yL TEnt×yL TV},ESh.mts L l H=some q->WkH (H.map (TEnt.er L)) (q.1.map (TEnt.er M))
 |[],[],q,h=>by cases h;exact .nil
 |[],_::_,q,h=>by cases h
 |_::_,[],q,h=>by cases h
 |s::r,d::H,q,h=>by
  simp only[ESh.mts] at h;split at h
  ·rename_i a b h1 h2;cases h;exact .cons (ZP3 hL h1) (Zpw hL h2)
  ·cases h
def ofD:(ts:yL Ty)->Ty.dens ts->yL TV
 |[],_=>[]
 |[t],x=>[⟨t,x⟩]
 |t::u::r,x=>⟨t,x.1⟩::ofD (u::r) x.2
def toD:(ts:yL Ty)->yL TV->yO (Ty.dens ts)
 |[],[]=>some ()
 |[t],[x]=>Ty.cast x.1 t x.2
 |t::u::r,x::l=>Zqy (Ty.cast x.1 t x.2) (toD (u::r) l)
 |_,_=>none
theorem Zev:∀(ts:yL Ty)(l:yL TV)(x:Ty.dens ts),toD ts l=some x->ofD ts x=l
 |[],[],x,h=>rfl
 |[],_::_,x,h=>by cases h
 |[t],[],x,h=>by cases h
 |[t],[y],x,h=>by
  obtain⟨e,h2⟩:=Zb8 (show Ty.cast y.1 t y.2=some x from h)
  obtain⟨u,y⟩:=y;dsimp only at e h2;subst e;subst h2
  rfl
 |[t],_::_::_,x,h=>by cases h
 |t::u::r,[],x,h=>by cases h
 |t::u::r,y::l,x,h=>by
  obtain⟨h1,h2⟩:=ZbR (α:=t.den) (β:=Ty.dens (u::r)) (show Zqy (Ty.cast y.1 t y.2) (toD (u::r) l)=some x from h)
  obtain⟨e,h3⟩:=Zb8 h1;obtain⟨u',y⟩:=y;dsimp only at e h3;subst e;have:=Zev (u::r) l x.2 h2;show(⟨u',x.1⟩:TV)::ofD (u::r) x.2=_;rw[this,h3]
abbrev Slots:=yL (Nat×Sh)
def shs(sl:Slots)(n:Nat):yL Sh:=(yv n).map λi=>(sl.lookup i).getD .junk
def Zba(n:Nat)(sl:Slots)(es:yL ESh)(vs:yL TV):yO (yL TD×yL TEnt):=
 (Sh.fills (shs sl n) vs).bind λq=>(ESh.fills es q.2).bind λw=>if w.2.isEmpty then some (q.1,w.1) else none
theorem Zpx:∀{l:yL Sh}{vs:yL TV}{q:yL TD×yL TV},Sh.fills l vs=some q->q.1.length=l.length
 |[],vs,q,h=>by simp only[Sh.fills] at h;cases h;rfl
 |s::r,vs,q,h=>by
  simp only[Sh.fills] at h;obtain⟨a,h1,h⟩:=yf.1 h;obtain⟨b,h2,rfl⟩:=Zd h;simp[Zpx h2]
theorem Zpy{n:Nat}{sl:Slots}{es:yL ESh}{vs:yL TV}{q:yL TD×yL TEnt}(h:Zba n sl es vs=some q):q.1.length=n:=by
 unfold Zba at h;obtain⟨a,h1,h⟩:=yf.1 h;obtain⟨b,h2,h⟩:=yf.1 h;split at h
 ·cases h;rw[Zpx h1];simp[shs]
 ·cases h
structure XSh where
 ex:Ex
 sl:Slots
 es:List ESh
 ty:List Ty
def XSh.sum:yL XSh->Type
 |[]=>Empty
 |[e]=>Ty.dens e.ty
 |e::f::r=>Ty.dens e.ty⊕XSh.sum (f::r)
abbrev Kc(O:Type):=Ex->yL TD->yL TEnt->yO O
def xT{O:Type}(n:Nat):(l:yL XSh)->XSh.sum l->Kc O->yO O
 |[],_,_=>none
 |[e],o,K=>(Zba n e.sl e.es (ofD e.ty o)).bind λs=>K e.ex s.1 s.2
 |e::f::r,o,K=>match (o:Ty.dens e.ty⊕XSh.sum (f::r)) with
  |.inl o=>(Zba n e.sl e.es (ofD e.ty o)).bind λs=>K e.ex s.1 s.2
  |.inr o=>xT n (f::r) o K
def ZEK:(l:yL XSh)->XSh.sum l->XSh->yL TV->Prop
 |[],_,_,_=>False
 |[e],o,x,vs=>x=e/\vs=ofD e.ty o
 |e::f::r,o,x,vs=>match (o:Ty.dens e.ty⊕XSh.sum (f::r)) with
  |.inl o=>x=e/\vs=ofD e.ty o
  |.inr o=>ZEK (f::r) o x vs
theorem Zwt{O:Type}{n:Nat}{K:Kc O}{out:O}:∀{l:yL XSh}{o:XSh.sum l},xT n l o K=some out->∃e vs s,ZEK l o e vs/\Zba n e.sl e.es vs=some s/\K e.ex s.1 s.2=some out
 |[],_,h=>by cases h
 |[e],o,h=>by
  obtain⟨s,h1,h2⟩:=yf.1 (show(Zba n e.sl e.es (ofD e.ty o)).bind (λs=>K e.ex s.1 s.2)=some out from h)
  exact⟨e,_,s,⟨rfl,rfl⟩,h1,h2⟩
 |e::f::r,.inl o,h=>by
  obtain⟨s,h1,h2⟩:=yf.1 (show(Zba n e.sl e.es (ofD e.ty o)).bind (λs=>K e.ex s.1 s.2)=some out from h)
  exact⟨e,_,s,⟨rfl,rfl⟩,h1,h2⟩
 |e::f::r,.inr o,h=>by
  obtain⟨e',vs,s,h1,h2,h3⟩:=Zwt (l:=f::r) (o:=o) h;exact⟨e',vs,s,h1,h2,h3⟩
mutual
def TD.rn(f:Nat->yO Nat):TD->yO TD
 |.p x=>some (.p x)
 |.elem x=>some (.elem x)
 |.ref id yQ=>(f id).map λi=>.ref i yQ
 |.own id nn t c=>(f id).map λi=>.own i nn t c
 |.view id yQ s lo n=>(f id).map λi=>.view i yQ s lo n
 |.agg xs=>(TD.rns f xs).map .agg
 |.arr n s xs=>(TD.rns f xs).map (.arr n s)
 |.fn g cap=>(TD.rns f cap).map (.fn g)
 |.iface t x=>(TD.rn f x).map (.iface t)
 |.tup xs=>(TD.rns f xs).map .tup
 |.mp id=>(f id).map .mp
 |.rv id v s lo n=>(f id).map λi=>.rv i v s lo n
 |.rref id v yQ=>(f id).map λi=>.rref i v yQ
 |.rw id=>(f id).map .rw
 |.rp id yQ=>(f id).map λi=>.rp i yQ
 |.junk=>some .junk
def TD.rns(f:Nat->yO Nat):yL TD->yO (yL TD)
 |[]=>some []
 |x::r=>match TD.rn f x,TD.rns f r with
  |some y,some ys=>some (y::ys)
  |_,_=>none
end
def TEnt.rn(f:Nat->yO Nat):TEnt->yO TEnt
 |.var d st=>(d.rn f).map λd'=>.var d' st
 |.row v s st e d=>(d.rn f).map λd'=>.row v s st e d'
 |.rowM t np v st e pre d post=>(d.rn f).map λd'=>.rowM t np v st e pre d' post
 |e=>some e
def TEnt.rns(f:Nat->yO Nat):yL TEnt->yO (yL TEnt)
 |[]=>some []
 |x::r=>match TEnt.rn f x,TEnt.rns f r with
  |some y,some ys=>some (y::ys)
  |_,_=>none
def Rc(f:Nat->yO Nat)(L M:Lk):Prop:=∀id j t,f id=some j->Yb L id t none=Yb M j t none
theorem ZN1{f:Nat->yO Nat}{L M:Lk}(h:Rc f L M){id j:Nat}(e:f id=some j)(t:Ty)(c:yO (yL t.den)):Yb L id t c=Yb M j t c:=by
 cases c with
 |none=>exact h id j t e
 |some _=>rfl
mutual
theorem ZhA{f:Nat->yO Nat}{L M:Lk}(h:Rc f L M):∀(d d':TD),d.rn f=some d'->Dv.rn f (d.er L)=some (d'.er M)
 |.p x,d',e=>by cases e;rfl
 |.elem x,d',e=>by cases e;rfl
 |.ref id yQ,d',e=>by
  obtain⟨i,h1,rfl⟩:=Zd e
  simp only[TD.er,Dv.rn,h1,yaa]
 |.own id nn t c,d',e=>by
  obtain⟨i,h1,rfl⟩:=Zd e
  simp only[TD.er,Dv.rn,h1,yaa,ZN1 h h1]
 |.view id yQ s lo n,d',e=>by
  obtain⟨i,h1,rfl⟩:=Zd e
  simp only[TD.er,Dv.rn,h1,yaa]
 |.agg xs,d',e=>by
  obtain⟨i,h1,rfl⟩:=Zd e
  simp only[TD.er,Dv.rn,rns_er h xs i h1,yaa]
 |.arr n s xs,d',e=>by
  obtain⟨i,h1,rfl⟩:=Zd e
  simp only[TD.er,Dv.rn,rns_er h xs i h1,yaa]
 |.fn g xs,d',e=>by
  obtain⟨i,h1,rfl⟩:=Zd e
  simp only[TD.er,Dv.rn,rns_er h xs i h1,yaa]
 |.iface t x,d',e=>by
  obtain⟨i,h1,rfl⟩:=Zd e
  simp only[TD.er,Dv.rn,ZhA h x i h1,yaa]
 |.tup xs,d',e=>by
  obtain⟨i,h1,rfl⟩:=Zd e
  simp only[TD.er,Dv.rn,rns_er h xs i h1,yaa]
 |.mp id,d',e=>by
  obtain⟨i,h1,rfl⟩:=Zd e
  simp only[TD.er,Dv.rn,h1,yaa]
 |.rv id v s lo n,d',e=>by
  obtain⟨i,h1,rfl⟩:=Zd e
  simp only[TD.er,Dv.rn,h1,yaa]
 |.rref id v yQ,d',e=>by
  obtain⟨i,h1,rfl⟩:=Zd e
  simp only[TD.er,Dv.rn,h1,yaa]
 |.rw id,d',e=>by
  obtain⟨i,h1,rfl⟩:=Zd e
  simp only[TD.er,Dv.rn,h1,yaa,Zde,h _ _ _ h1]
 |.rp id yQ,d',e=>by
  obtain⟨i,h1,rfl⟩:=Zd e
  simp only[TD.er,Dv.rn,h1,yaa,Zde,h _ _ _ h1]
 |.junk,d',e=>by cases e;rfl
theorem rns_er{f:Nat->yO Nat}{L M:Lk}(h:Rc f L M):∀(ds es:yL TD),TD.rns f ds=some es->Dv.rns f (TD.ers L ds)=some (TD.ers M es)
 |[],es,e=>by cases e;rfl
 |x::r,es,e=>by
  simp only[TD.rns] at e;split at e
  ·rename_i y ys h1 h2;cases e;simp only[TD.ers,Dv.rns,ZhA h x y h1,rns_er h r ys h2]
  ·cases e
end
theorem ZGW{α:Type}(f:Nat->yO Nat)(g:α->Pl):∀(l:yL α)(m:yL Dv),Dv.rns f ((l.map λx=>.p (g x))++m)=(Dv.rns f m).map λq=>(l.map λx=>.p (g x))++q
 |[],m=>by cases h:Dv.rns f m <;> simp[h]
 |x::l,m=>by
  rw[yag,yz,Dv.rns,Dv.rn,ZGW f g l m];cases Dv.rns f m <;> rfl
theorem ZN2{α β:Type}{f:Nat->yO Nat}{g:α->Pl}{g':β->Pl}{l:yL α}{d d':Dv}{m:yL β}(h:Dv.rn f d=some d'):
 Dv.rns f ((l.map λx=>.p (g x))++d::m.map λx=>.p (g' x))=some ((l.map λx=>.p (g x))++d'::m.map λx=>.p (g' x)):=by
 have e:=ZGW f g' m [];rw[yaz] at e;rw[ZGW,Dv.rns,h,e];simp[Dv.rns]
theorem ZLt{f:Nat->yO Nat}{L M:Lk}(h:Rc f L M){e e':TEnt}(k:e.rn f=some e'):Ent.rn f (e.er L)=some (e'.er M):=by
 cases e with
 |var d st=>
  obtain⟨i,h1,rfl⟩:=Zd k
  simp only[TEnt.er,Ent.rn,ZhA h d i h1,yaa]
 |row v s st e d=>
  obtain⟨i,h1,rfl⟩:=Zd k
  simp only[TEnt.er,Ent.rn,ZhA h d i h1,yaa]
 |rowM t np v st e pre d post=>
  obtain⟨i,h1,rfl⟩:=Zd k
  simp only[TEnt.er,Ent.rn,Dv.rn,ZN2 (ZhA h d i h1),yaa]
 |_=>cases k;rfl
theorem ZIj{f:Nat->yO Nat}{L M:Lk}(h:Rc f L M):∀(ds es:yL TEnt),TEnt.rns f ds=some es->Ent.rns f (ds.map (TEnt.er L))=some (es.map (TEnt.er M))
 |[],es,e=>by cases e;rfl
 |x::r,es,e=>by
  simp only[TEnt.rns] at e;split at e
  ·rename_i y ys h1 h2;cases e;simp only[yag,Ent.rns,ZLt h h1,ZIj h r ys h2]
  ·cases e
theorem ZLu{f:Nat->yO Nat}{e e':TEnt}(k:e.rn f=some e'):lkE (some e')=lkE (some e):=by
 cases e with
 |var d st=>obtain⟨i,h1,rfl⟩:=Zd k;rfl
 |row v s st e d=>obtain⟨i,h1,rfl⟩:=Zd k;rfl
 |rowM t np v st e pre d post=>obtain⟨i,h1,rfl⟩:=Zd k;rfl
 |_=>cases k;rfl
theorem ZEL{f:Nat->yO Nat}:∀{ds es:yL TEnt},TEnt.rns f ds=some es->es.length=ds.length/\∀(j:Nat),lkE (es[j]?)=lkE (ds[j]?)
 |[],es,e=>by cases e;exact⟨rfl,λ_=>rfl⟩
 |x::r,es,e=>by
  simp only[TEnt.rns] at e;split at e
  ·rename_i y ys h1 h2;cases e;obtain⟨g1,g2⟩:=ZEL h2;refine⟨by simp[g1],λj=> ?_⟩
   cases j with
   |zero=>exact ZLu h1
   |succ j=>exact g2 j
  ·cases e
def Vd(H:yL TEnt)(all:yL Nat):yL Nat->yO (yL TEnt)
 |[]=>some []
 |id::r=>match (H[id]?).bind (TEnt.rn (toIds all)),Vd H all r with
  |some e,some es=>some (e::es)
  |_,_=>none
theorem ZgK{H:yL TEnt}{all:yL Nat}:∀{ids:yL Nat}{Hin:yL TEnt},Vd H all ids=some Hin->Hin.length=ids.length/\∀(j id:Nat),ids[j]? =some id->id < H.length/\lkE (Hin[j]?)=lkE (H[id]?)
 |[],Hin,h=>by cases h;exact⟨rfl,λj id e=>by simp at e⟩
 |i::r,Hin,h=>by
  simp only[Vd] at h;split at h
  ·rename_i e es h1 h2;cases h;obtain⟨g1,g2⟩:=ZgK h2;obtain⟨e0,h3,h4⟩:=yf.1 h1;refine⟨by simp[g1],λj id hj=> ?_⟩
   cases j with
   |zero=>
    cases hj
    exact⟨(yq.1 h3).1,by rw[h3];exact ZLu h4⟩
   |succ j=>exact g2 j id hj
  ·cases h
theorem W4{H:yL TEnt}{all:yL Nat}{M:Lk}(h:Rc (toIds all) (lk H) M):∀{ids:yL Nat}{Hin:yL TEnt},Vd H all ids=some Hin->subEnts (erH H) all ids=some (Hin.map (TEnt.er M))
 |[],Hin,e=>by cases e;rfl
 |i::r,Hin,e=>by
  simp only[Vd] at e;split at e
  ·rename_i e0 es h1 h2;cases e;obtain⟨e1,h3,h4⟩:=yf.1 h1;simp only[subEnts,Ym h3,ya,ZLt h h4,W4 h h2,yag]
  ·cases e
mutual
def TD.lay(L:Lk)(S:yL Nat):TD->TD
 |.own id nn t c=>if S.contains id then .own id nn t (some (Yb L id t c)) else .own id nn t c
 |.agg xs=>.agg (TD.lays L S xs)
 |.arr m s xs=>.arr m s (TD.lays L S xs)
 |.fn f xs=>.fn f (TD.lays L S xs)
 |.iface t x=>.iface t (TD.lay L S x)
 |.tup xs=>.tup (TD.lays L S xs)
 |.p x=>.p x
 |.elem x=>.elem x
 |.ref id yQ=>.ref id yQ
 |.view id yQ s lo n=>.view id yQ s lo n
 |.mp id=>.mp id
 |.rv id v s lo n=>.rv id v s lo n
 |.rref id v yQ=>.rref id v yQ
 |.rw id=>if S.contains id then .rv id (Zde L id 0) (Zde L id 1) 0 (Zde L id 2) else .rw id
 |.rp id yQ=>if S.contains id then .rref id (Zde L id 0) yQ else .rp id yQ
 |.junk=>.junk
def TD.lays(L:Lk)(S:yL Nat):yL TD->yL TD
 |[]=>[]
 |x::r=>TD.lay L S x::TD.lays L S r
end
mutual
def TD.under(n:Nat):TD->Bool
 |.own id _ _ c=>c.isSome || decide (id < n)
 |.rw id=>decide (id < n)
 |.rp id _=>decide (id < n)
 |.agg xs=>TD.unders n xs
 |.arr _ _ xs=>TD.unders n xs
 |.fn _ xs=>TD.unders n xs
 |.iface _ x=>TD.under n x
 |.tup xs=>TD.unders n xs
 |_=>true
def TD.unders(n:Nat):yL TD->Bool
 |[]=>true
 |x::r=>TD.under n x&&TD.unders n r
end
def TEnt.lay(L:Lk)(S:yL Nat):TEnt->TEnt
 |.var d st=>.var (d.lay L S) st
 |.row v s st e d=>.row v s st e (d.lay L S)
 |.rowM t np v st e pre d post=>.rowM t np v st e pre (d.lay L S) post
 |e=>e
def TEnt.under(n:Nat):TEnt->Bool
 |.var d _=>d.under n
 |.row _ _ _ _ d=>d.under n
 |.rowM _ _ _ _ _ _ d _=>d.under n
 |_=>true
def Lo(S:yL Nat)(n:Nat)(L M:Lk):Prop:=∀id t,S.contains id=false->id < n->Yb L id t none=Yb M id t none
mutual
theorem Zxt{L M:Lk}{S:yL Nat}{n:Nat}(h:Lo S n L M):∀(d:TD),d.under n=true->(d.lay L S).er M=d.er L
 |.p _,_=>rfl
 |.elem _,_=>rfl
 |.ref _ _,_=>rfl
 |.own id nn t c,hf=>by
  rw[TD.lay];split
  ·rfl
  ·rename_i hn
   cases c with
   |none=>
    have:id < n:=by simpa[TD.under] using hf
    rw[TD.er,TD.er,h id t (by simpa using hn) this]
   |some _=>rfl
 |.view _ _ _ _ _,_=>rfl
 |.agg xs,hf=>by rw[TD.lay,TD.er,TD.er,ers_lay h xs hf]
 |.arr _ _ xs,hf=>by rw[TD.lay,TD.er,TD.er,ers_lay h xs hf]
 |.fn _ xs,hf=>by rw[TD.lay,TD.er,TD.er,ers_lay h xs hf]
 |.iface _ x,hf=>by rw[TD.lay,TD.er,TD.er,Zxt h x hf]
 |.tup xs,hf=>by rw[TD.lay,TD.er,TD.er,ers_lay h xs hf]
 |.mp _,_=>rfl
 |.rv _ _ _ _ _,_=>rfl
 |.rref _ _ _,_=>rfl
 |.rw id,hf=>by
  rw[TD.lay];split
  ·rfl
  ·rename_i hn;have:id < n:=by simpa[TD.under] using hf
   simp only[TD.er,Zde,h id _ (by simpa using hn) this]
 |.rp id _,hf=>by
  rw[TD.lay];split
  ·rfl
  ·rename_i hn;have:id < n:=by simpa[TD.under] using hf
   simp only[TD.er,Zde,h id _ (by simpa using hn) this]
 |.junk,_=>rfl
theorem ers_lay{L M:Lk}{S:yL Nat}{n:Nat}(h:Lo S n L M):∀(ds:yL TD),TD.unders n ds=true->TD.ers M (TD.lays L S ds)=TD.ers L ds
 |[],_=>rfl
 |x::r,hf=>by
  simp only[TD.unders,yj] at hf;rw[TD.lays,TD.ers,TD.ers,Zxt h x hf.1,ers_lay h r hf.2]
end
theorem ZEM{L:Lk}{S:yL Nat}:∀(l:yL TD),(TD.lays L S l).length=l.length
 |[]=>rfl
 |_::r=>by rw[TD.lays,yaj,yaj,ZEM r]
theorem ZN3{L M:Lk}{S:yL Nat}{n:Nat}(h:Lo S n L M){e:TEnt}(hf:e.under n=true):(e.lay L S).er M=e.er L:=by
 cases e with
 |var d st=>rw[TEnt.lay,TEnt.er,TEnt.er,Zxt h d hf]
 |row v s st e d=>rw[TEnt.lay,TEnt.er,TEnt.er,Zxt h d hf]
 |rowM t np v st e pre d post=>rw[TEnt.lay,TEnt.er,TEnt.er,Zxt h d hf]
 |_=>rfl
theorem ZN4{L:Lk}{S:yL Nat}(e:yO TEnt):lkE (e.map (TEnt.lay L S))=lkE e:=by
 cases e with
 |none=>rfl
 |some e=>cases e <;> rfl
theorem Zu1{α β:Type}(f:α->β):∀(ids:yL Nat)(A B:yL α),(putBack A ids B).map f=putBack (A.map f) ids (B.map f)
 |[],A,B=>by simp[putBack]
 |id::r,A,[]=>by simp[putBack]
 |id::r,A,b::B=>by simp only[putBack,yag];rw[Zu1 f r,ybp]
def TD.argI(L:Lk)(ids:yL Nat):TD->TD
 |.own id nn t c=>if ids.contains id then .own id nn t c else .p (.sl nn t (Yb L id t c))
 |.agg ds=>if TD.ownss ids ds then .agg ds else TD.melt L ds
 |d=>d
theorem ZCo{L:Lk}{ids:yL Nat}(d:TD):(d.argI L ids).er L=Dv.argI ids (d.er L):=by
 cases d with
 |own id nn t c=>
  rw[TD.argI,TD.er,Dv.argI]
  split <;> rfl
 |p _=>rfl
 |elem _=>rfl
 |ref _ _=>rfl
 |view _ _ _ _ _=>rfl
 |agg ds=>
  rw[TD.argI,TD.er,Dv.argI,ownss_er];split
  ·rw[TD.er]
  ·exact ZH5 _
 |arr _ _ _=>rfl
 |fn _ _=>rfl
 |iface _ _=>rfl
 |tup _=>rfl
 |mp _=>rfl
 |rv _ _ _ _ _=>rfl
 |rref _ _ _=>rfl
 |rw _=>rfl
 |rp _ _=>rfl
 |junk=>rfl
def Zxu(P:yg)(ts:yL TD):yL yn->yL yc->yO (yL TD)
 |[],_=>some []
 |_,[]=>some []
 |x::r,t::q=>match arT P ts t x,Zxu P ts r q with
  |some a,some b=>some (a::b)
  |_,_=>none
theorem Zsr{P:yg}{ts:yL TD}{L:Lk}(ids:yL Nat):∀{l:yL yn}{ty:yL yc}{ds:yL TD},Zxu P ts l ty=some ds->
 ((l.zip ty).map λq=>(ZC P (TD.ers L ts) q.2 q.1).argI ids)=TD.ers L (ds.map (TD.argI L ids))
 |[],ty,ds,h=>by cases h;rfl
 |x::r,[],ds,h=>by cases h;rfl
 |x::r,t::q,ds,h=>by
  simp only[Zxu] at h;split at h
  ·rename_i a b h1 h2;cases h;simp only[List.zip_cons_cons,yag,TD.ers,ZA (L:=L) h1,ZCo,Zsr ids h2]
  ·cases h
theorem ZIk{L:Lk}(ids:yL Nat)(ds:yL TD):(TD.ers L ds).map (Dv.argI ids)=TD.ers L (ds.map (TD.argI L ids)):=by
 rw[ZN,ZN,ybe,ybe];exact ycn λx _=>(ZCo x).symm
structure Fs(P:yg)where
 g:yu
 ps:List Sh
 es:List ESh
 ins:List Ty
 xs:List XSh
 M:Ty.dens ins->Option (XSh.sum xs)
def Fs.Ok{P:yg}(s:Fs P):Prop:=
 ∀x o,s.M x=some o->∃args R H,Sh.fills s.ps (ofD s.ins x)=some (args,R)/\ESh.fills s.es R=some (H,[])/\
  ∀e vs s',ZEK s.xs o e vs->Zba 1 e.sl e.es vs=some s'->∃r,s'.1=[r]/\Con P s.g (TD.ers (lk H) args) (erH H) (r.er (lk s'.2)) (erH s'.2)
def AllOk{P:yg}:yL (Fs P)->Prop
 |[]=>True
 |s::r=>s.Ok/\AllOk r
mutual
def Sh.ids:Sh->TD->yL (Nat×Nat)
 |.own j _,d=>match d with
  |.own id _ _ none=>[(j,id)]
  |_=>[]
 |.ref j _,d=>match d with
  |.ref id _=>[(j,id)]
  |_=>[]
 |.mp j,d=>match d with
  |.mp id=>[(j,id)]
  |_=>[]
 |.rw j,d=>match d with
  |.rw id=>[(j,id)]
  |_=>[]
 |.rp j _ _,d=>match d with
  |.rp id _=>[(j,id)]
  |_=>[]
 |.view j _ _ _ _,d=>match d with
  |.view id _ _ _ _=>[(j,id)]
  |_=>[]
 |.fn _ l,d=>match d with
  |.fn _ ds=>Sh.idsL l ds
  |_=>[]
 |.agg l,d=>match d with
  |.agg ds=>Sh.idsL l ds
  |_=>[]
 |.arr _ _ l,d=>match d with
  |.arr _ _ ds=>Sh.idsL l ds
  |_=>[]
 |.tup l,d=>match d with
  |.tup ds=>Sh.idsL l ds
  |_=>[]
 |.iface _ x,d=>match d with
  |.iface _ y=>Sh.ids x y
  |_=>[]
 |_,_=>[]
def Sh.idsL:yL Sh->yL TD->yL (Nat×Nat)
 |[],_=>[]
 |s::r,ds=>match ds with
  |d::q=>Sh.ids s d++Sh.idsL r q
  |[]=>[]
end
def ZP4(H:yL TEnt):yL ESh->Nat->yL (Nat×Nat)->yL (Nat×Nat)
 |[],_,l=>l
 |e::r,j,l=>ZP4 H r (j+1) (match e,(l.lookup j).bind λid=>ZuY H id with
  |.var s _,some d=>l++Sh.ids s d
  |_,_=>l)
def ZO9(H:yL TEnt)(ps:yL Sh)(es:yL ESh)(ds:yL TD):yO (yL Nat):=
 let l:=ZP4 H es 0 (Sh.idsL ps ds)
 (yv es.length).mapM λj=>l.lookup j
def ZCp{P:yg}(s:Fs P)(H:yL TEnt)(args:yL TD)(ids:yL Nat):yO (Ty.dens s.ins):=
 if once ids then(TD.rns (toIds ids) (args.map (TD.argI (lk H) ids))).bind λa2=>(Vd H ids ids).bind λHin=>
  (Sh.mts (lk Hin) s.ps a2).bind λq=>(ESh.mts (lk Hin) s.es Hin).bind λw=>toD s.ins (q.2++w.2)
 else none
theorem Zbq{H Hin:yL TEnt}{ids:yL Nat}(h:Vd H ids ids=some Hin):Rc (toIds ids) (lk H) (lk Hin):=by
 intro id j t e;obtain⟨g1,g2⟩:=ZgK h;have hj:=idxOf?_some e;have:=(g2 j id hj).2;unfold Yb lk;dsimp only;rw[this]
theorem ZN5{P:yg}{s:Fs P}{H:yL TEnt}{args:yL TD}{ids:yL Nat}{x:Ty.dens s.ins}(h:ZCp s H args ids=some x):
 once ids=true/\∃Hin a2 a3 H3 R,Vd H ids ids=some Hin/\subEnts (erH H) ids ids=some (erH Hin)/\Dv.rns (toIds ids) (TD.ers (lk H) (args.map (TD.argI (lk H) ids)))=some (TD.ers (lk Hin) a2)/\
  Sh.fills s.ps (ofD s.ins x)=some (a3,R)/\ESh.fills s.es R=some (H3,[])/\WkL (TD.ers (lk Hin) a2) (TD.ers (lk H3) a3)/\WkH (erH Hin) (erH H3):=by
 unfold ZCp at h;split at h
 ·rename_i ho;obtain⟨a2,h1,h⟩:=yf.1 h;obtain⟨Hin,h2,h⟩:=yf.1 h;obtain⟨q,h3,h⟩:=yf.1 h;obtain⟨w,h4,h⟩:=yf.1 h;obtain⟨g1,g2⟩:=Zkk h4;have e:=Zev _ _ _ h;have hc:∀id t,Yb (lk Hin) id t none=Yb (lk w.1) id t none:=λid t=>by rw[g2]
  refine⟨ho,Hin,a2,q.1,w.1,w.2,h2,W4 (Zbq h2) h2,rns_er (Zbq h2) _ _ h1, ?_, ?_,mts_wk hc _ _ _ h3,Zpw hc h4⟩
  ·rw[e];exact mts_fills _ _ _ h3 _
  ·have:=ZbT h4 []
   rwa [yaz] at this
 ·cases h
section
variable{P:yg}{o:Oper}{ts all:yL TD}{H:yL TEnt}{O:Type}{K:Kn O}{out:O}
def ZN6(all:yL TD)(H:yL TEnt)(K:Kn O)(ids:yL Nat)(r:TD)(Hn:yL TEnt):yO O:=
 if(ids.isEmpty&&Hn.isEmpty)=true then(r.rn λ_=>none).bind λr'=>K all r' H [.call (r.er (lk [])) [] []] 0 else
 (r.rn (fromIds ids H.length)).bind λr'=>(TEnt.rns (fromIds ids H.length) Hn).bind λHb=>
   if(decide (ids.length<=Hn.length)&&TD.unders H.length all&&H.all (TEnt.under H.length))=true then
    K (TD.lays (lk H) ids all) r' (putBack (H.map (TEnt.lay (lk H) ids)) ids Hb) [.call (r.er (lk Hn)) (erH Hn) ids] 2
   else none
def Zxv(s:Fs P)(all:yL TD)(H:yL TEnt)(K:Kn O)(args:yL TD)(ids:yL Nat)(x:Ty.dens s.ins):yO O:=
 (s.M x).bind λy=>xT 1 s.xs y λ_ rs Hn=>match rs with
   |[r]=>ZN6 all H K ids r Hn
   |_=>none
def ZEN(g:yu)(all:yL TD)(H:yL TEnt)(K:Kn O)(args:yL TD)(yS:yO O):yL (Fs P)->yO O
 |[]=>yS
 |s::yK=>if s.g=g then match (ZO9 H s.ps s.es args).bind λids=>(ZCp s H args ids).map λx=>(ids,x) with
   |some q=>Zxv s all H K args q.1 q.2
   |none=>ZEN g all H K args yS yK
  else ZEN g all H K args yS yK
mutual
def Sh.exD:Sh->TD->Bool
 |.v t,d=>match d with
  |.p (.v u _)=>match Ty.dec u t with
   |isTrue _=>true
   |isFalse _=>false
  |_=>false
 |.own _ _,d=>match d with
  |.own _ none _ none=>true
  |_=>false
 |.ref _ _,d=>match d with
  |.ref _ _=>true
  |_=>false
 |.mp _,d=>match d with
  |.mp _=>true
  |_=>false
 |.rw _,d=>match d with
  |.rw _=>true
  |_=>false
 |.agg l,d=>match d with
  |.agg ds=>Sh.exDs l ds
  |_=>false
 |.arr _ _ l,d=>match d with
  |.arr _ _ ds=>Sh.exDs l ds
  |_=>false
 |.ptr0,_=>true
 |.fn0,_=>true
 |.if0,_=>true
 |.map0,_=>true
 |_,_=>false
def Sh.exDs:yL Sh->yL TD->Bool
 |[],[]=>true
 |s::r,d::q=>Sh.exD s d&&Sh.exDs r q
 |_,_=>false
end
theorem ZR2{L:Lk}{t:Ty}{d:TD}{q:TD×yL TV}(h:Sh.exD (.v t) d=true)(k:Sh.mt L (.v t) d=some q):q.1=d:=by
 unfold Sh.exD at h;split at h
 ·rename_i u y;split at h
  ·rename_i e _;subst e;unfold Sh.mt TD.toT TP.to at k;dsimp only at k;rw[Xw,yaa] at k;cases k;rfl
  ·cases h
 ·cases h
theorem ZP5{L:Lk}{j:Nat}{t:Ty}{d:TD}{q:TD×yL TV}(h:Sh.exD (.own j t) d=true)(k:Sh.mt L (.own j t) d=some q):q.1=d:=by
 unfold Sh.exD at h;split at h
 ·unfold Sh.mt at k;dsimp only at k;split at k
  ·rename_i e;obtain⟨rfl,rfl⟩:=e;cases k;rfl
  ·cases k
 ·cases h
theorem ZP6{L:Lk}{j:Nat}{p:yL Stp}{d:TD}{q:TD×yL TV}(h:Sh.exD (.ref j p) d=true)(k:Sh.mt L (.ref j p) d=some q):q.1=d:=by
 unfold Sh.exD at h;split at h
 ·unfold Sh.mt at k;dsimp only at k;split at k
  ·rename_i e;obtain⟨rfl,e2⟩:=e;have:=Zhz e2;subst this;cases k;rfl
  ·cases k
 ·cases h
theorem ZRe{L:Lk}{j:Nat}{d:TD}{q:TD×yL TV}(h:Sh.exD (.mp j) d=true)(k:Sh.mt L (.mp j) d=some q):q.1=d:=by
 unfold Sh.exD at h;split at h
 ·unfold Sh.mt at k;dsimp only at k;split at k
  ·rename_i e;subst e;cases k;rfl
  ·cases k
 ·cases h
theorem ZRf{L:Lk}{j:Nat}{d:TD}{q:TD×yL TV}(h:Sh.exD (.rw j) d=true)(k:Sh.mt L (.rw j) d=some q):q.1=d:=by
 unfold Sh.exD at h;split at h
 ·unfold Sh.mt at k;dsimp only at k;split at k
  ·rename_i e;subst e;cases k;rfl
  ·cases k
 ·cases h
mutual
theorem ZPa{L:Lk}:∀(s:Sh)(d:TD)(q:TD×yL TV),Sh.exD s d=true->Sh.mt L s d=some q->q.1=d
 |.v t,d,q,h,k=>ZR2 h k
 |.own j t,d,q,h,k=>ZP5 h k
 |.ref j p,d,q,h,k=>ZP6 h k
 |.mp j,d,q,h,k=>ZRe h k
 |.rw j,d,q,h,k=>ZRf h k
 |.agg l,.agg ds,q,h,k=>by
  have k:(Sh.mts L l ds).map (λq=>(TD.agg q.1,q.2))=some q:=by unfold Sh.mt at k;exact k
  have h:Sh.exDs l ds=true:=by unfold Sh.exD at h;exact h
  obtain⟨w,k1,k2⟩:=Zd k;rw[<-k2]
  exact congrArg TD.agg (exs_mts l ds w h k1)
 |.arr n s l,.arr m s2 ds,q,h,k=>by
  have k:(if m=n/\s2=s then(Sh.mts L l ds).map (λq=>(TD.arr n s q.1,q.2)) else none)=some q:=by unfold Sh.mt at k;exact k
  have h:Sh.exDs l ds=true:=by unfold Sh.exD at h;exact h
  split at k
  ·rename_i e;obtain⟨w,k1,k2⟩:=Zd k;rw[<-k2,e.1,e.2];exact congrArg (TD.arr n s) (exs_mts l ds w h k1)
  ·cases k
 |.ptr0,d,q,h,k=>by
  unfold Sh.mt at k
  split at k <;> first|(cases k;rfl)|cases k
 |.fn0,d,q,h,k=>by
  unfold Sh.mt at k
  split at k <;> first|(cases k;rfl)|cases k
 |.if0,d,q,h,k=>by
  unfold Sh.mt at k
  split at k <;> first|(cases k;rfl)|cases k
 |.map0,d,q,h,k=>by
  unfold Sh.mt at k;split at k <;> first|(cases k;rfl)|cases k
theorem exs_mts{L:Lk}:∀(l:yL Sh)(ds:yL TD)(q:yL TD×yL TV),Sh.exDs l ds=true->Sh.mts L l ds=some q->q.1=ds
 |[],[],q,_,k=>by
  simp only[Sh.mts] at k;cases k
  rfl
 |[],_::_,_,h,_=>by cases h
 |_::_,[],_,h,_=>by cases h
 |s::r,d::ds,q,h,k=>by
  simp only[Sh.exDs,yj] at h;simp only[Sh.mts] at k;split at k
  ·rename_i a b k1 k2;cases k;rw[ZPa s d a h.1 k1,exs_mts r ds b h.2 k2]
  ·cases k
end
def ESh.exE:ESh->TEnt->Bool
 |.var s st,.var d st'=>(st==st')&&s.exD d
 |.log t _,.log u _ _=>match Ty.dec u t with
  |isTrue _=>true
  |isFalse _=>false
 |.gone,.gone=>true
 |_,_=>false
theorem ZP7{L:Lk}{s:ESh}{d:TEnt}{q:TEnt×yL TV}(h:s.exE d=true)(k:s.mt L d=some q):q.1=d:=by
 unfold ESh.exE at h;split at h
 ·simp only[yj,yT] at h;obtain⟨rfl,h⟩:=h;simp only[ESh.mt] at k;split at k
  ·obtain⟨w,k1,rfl⟩:=Zd k;show TEnt.var w.1 _=_;rw[ZPa _ _ w h k1]
  ·cases k
 ·split at h
  ·rename_i e _;subst e;simp only[ESh.mt] at k;split at k
   ·rename_i e;subst e;obtain⟨w,k1,rfl⟩:=Zd k;obtain⟨e1,e2⟩:=ZI k1;cases e1;subst e2;rfl
   ·cases k
  ·cases h
 ·simp only[ESh.mt] at k;cases k;rfl
 ·cases h
def ESh.exs:yL ESh->yL TEnt->Bool
 |[],[]=>true
 |s::r,d::q=>s.exE d&&ESh.exs r q
 |_,_=>false
theorem ZEO{L:Lk}:∀{l:yL ESh}{ds:yL TEnt}{q:yL TEnt×yL TV},ESh.exs l ds=true->ESh.mts L l ds=some q->q.1=ds
 |[],[],q,_,k=>by
  simp only[ESh.mts] at k;cases k
  rfl
 |[],_::_,_,h,_=>by cases h
 |_::_,[],_,h,_=>by cases h
 |s::r,d::ds,q,h,k=>by
  simp only[ESh.exs,yj] at h;simp only[ESh.mts] at k;split at k
  ·rename_i a b k1 k2;cases k;rw[ZP7 h.1 k1,ZEO h.2 k2]
  ·cases k
structure Rs(P:yg)where
 g:yu
 ps:List Sh
 es:List ESh
 ins:List Ty
 r:Sh
 t:List Ty
 M:Ty.dens ins->Option (Ty.dens t)
def Rs.Ok{P:yg}(s:Rs P):Prop:=
 ∀x o,s.M x=some o->∃args R H,Sh.fills s.ps (ofD s.ins x)=some (args,R)/\ESh.fills s.es R=some (H,[])/\
  ∀q,Sh.fill s.r (ofD s.t o)=some q->Con P s.g (TD.ers (lk H) args) (erH H) (q.1.er (lk H)) (erH H)
def AllRo{P:yg}:yL (Rs P)->Prop
 |[]=>True
 |s::r=>s.Ok/\AllRo r
mutual
theorem Zwu{f g:Nat->yO Nat}(hfg:∀i j,f i=some j->g j=some i):∀(d d':Dv),d.rn f=some d'->d'.rn g=some d
 |.p x,d',h=>by cases h;rfl
 |.elem x,d',h=>by cases h;rfl
 |.ref id o p,d',h=>by
  simp only[Dv.rn,yp] at h;obtain⟨i,h1,rfl⟩:=h
  simp only[Dv.rn,hfg _ _ h1,yaa]
 |.own id nn s xs,d',h=>by
  simp only[Dv.rn,yp] at h;obtain⟨i,h1,rfl⟩:=h
  simp only[Dv.rn,hfg _ _ h1,yaa]
 |.view id o p s lo n,d',h=>by
  simp only[Dv.rn,yp] at h;obtain⟨i,h1,rfl⟩:=h
  simp only[Dv.rn,hfg _ _ h1,yaa]
 |.agg xs,d',h=>by
  simp only[Dv.rn,yp] at h;obtain⟨i,h1,rfl⟩:=h
  simp only[Dv.rn,rns_back hfg _ _ h1,yaa]
 |.arr n s xs,d',h=>by
  simp only[Dv.rn,yp] at h;obtain⟨i,h1,rfl⟩:=h
  simp only[Dv.rn,rns_back hfg _ _ h1,yaa]
 |.fn k xs,d',h=>by
  simp only[Dv.rn,yp] at h;obtain⟨i,h1,rfl⟩:=h
  simp only[Dv.rn,rns_back hfg _ _ h1,yaa]
 |.iface t x,d',h=>by
  simp only[Dv.rn,yp] at h;obtain⟨i,h1,rfl⟩:=h
  simp only[Dv.rn,Zwu hfg _ _ h1,yaa]
 |.tup xs,d',h=>by
  simp only[Dv.rn,yp] at h;obtain⟨i,h1,rfl⟩:=h
  simp only[Dv.rn,rns_back hfg _ _ h1,yaa]
 |.mp id,d',h=>by
  simp only[Dv.rn,yp] at h;obtain⟨i,h1,rfl⟩:=h
  simp only[Dv.rn,hfg _ _ h1,yaa]
 |.rv id v s lo n,d',h=>by
  simp only[Dv.rn,yp] at h;obtain⟨i,h1,rfl⟩:=h
  simp only[Dv.rn,hfg _ _ h1,yaa]
 |.rref id v o p,d',h=>by
  simp only[Dv.rn,yp] at h;obtain⟨i,h1,rfl⟩:=h
  simp only[Dv.rn,hfg _ _ h1,yaa]
 |.junk,d',h=>by cases h;rfl
theorem rns_back{f g:Nat->yO Nat}(hfg:∀i j,f i=some j->g j=some i):∀(d d':yL Dv),Dv.rns f d=some d'->Dv.rns g d'=some d
 |[],d',h=>by cases h;rfl
 |x::r,d',h=>by
  simp only[Dv.rns] at h;split at h
  ·rename_i y ys h1 h2;cases h;simp only[Dv.rns,Zwu hfg x y h1,rns_back hfg r ys h2]
  ·cases h
end
theorem ZLv{f g:Nat->yO Nat}(hfg:∀i j,f i=some j->g j=some i){e e':Ent}(h:e.rn f=some e'):e'.rn g=some e:=by
 cases e with
 |var d st=>
  simp only[Ent.rn,yp] at h;obtain⟨y,h1,rfl⟩:=h
  simp only[Ent.rn,Zwu hfg _ _ h1,yaa]
 |row v s st t d=>
  simp only[Ent.rn,yp] at h;obtain⟨y,h1,rfl⟩:=h
  simp only[Ent.rn,Zwu hfg _ _ h1,yaa]
 |log _ _ _=>cases h;rfl
 |map _ _=>cases h;rfl
 |gone=>cases h;rfl
theorem ZLw{H:yL Ent}{ids:yL Nat}{Hin:yL Ent}(ho:once ids=true)(h:subEnts H ids ids=some Hin):∃Hb,Ent.rns (fromIds ids H.length) Hin=some Hb/\putBack H ids Hb=H:=by
 have hfg:∀i j,toIds ids i=some j->fromIds ids H.length j=some i:=by
  intro i j e;have hj:=idxOf?_some e;unfold fromIds;rw[yW (yq.1 hj).1,hj]
 have key:∀(l:yL Nat)(A:yL Ent),subEnts H ids l=some A->∃B,Ent.rns (fromIds ids H.length) A=some B/\B.length=l.length/\∀(j id:Nat),l[j]? =some id->B[j]? =H[id]? /\id < H.length:=by
  intro l
  induction l with
  |nil=>
   intro A hA;simp only[subEnts,yi] at hA;subst hA
   exact⟨[],rfl,rfl,λj id hj=>by simp at hj⟩
  |cons x r ih=>
   intro A hA;simp only[subEnts] at hA;split at hA
   ·rename_i e es h1 h2;cases hA;obtain⟨B,b1,b2,b3⟩:=ih es h2;obtain⟨e0,g1,g2⟩:=yf.1 h1;refine⟨e0::B, ?_,by simp[b2],λj id hj=> ?_⟩
    ·simp only[Ent.rns,ZLv hfg g2,b1]
    ·cases j with
     |zero=>
      simp only[ybb,yi] at hj;subst hj
      exact⟨by rw[ybb,g1],(yq.1 g1).1⟩
     |succ j=>exact b3 j id (by simpa using hj)
   ·cases hA
 obtain⟨Hb,b1,b2,b3⟩:=key ids Hin h
 have hlt:∀i,i∈ids->i < H.length:=λi hi=>by
  obtain⟨j,hj⟩:=List.getElem?_of_mem hi;exact(b3 j i hj).2
 refine⟨Hb,b1, ?_⟩;have hle:ids.length<=Hb.length:=by omega
 apply ybr;intro i;have zW:(putBack H ids Hb).length=H.length:=by rw[Zct _ _ _ hle];omega
 by_cases hi:i < H.length
 ·by_cases hm:i∈ids
  ·obtain⟨j,hj⟩:=List.getElem?_of_mem hm;rw[Zhu H ids Hb j i ho hle hlt hj,(b3 j i hj).1]
  ·exact Q1 H ids Hb i hle hi hm
 ·rw[yaq (by omega),yaq (by omega)]
structure Sp(P:yg)where
 l:List (Fs P):=[]
 hd:(O:Type)->yu->List TD->List TEnt->(TD->List TEnt->Option O)->Option O:=λ_ _ _ _ _=>none
 mt:List (yc×String×yu):=[]
 ro:List (Rs P):=[]
def HdOk(P:yg)(hd:(O:Type)->yu->yL TD->yL TEnt->(TD->yL TEnt->yO O)->yO O):Prop:=
 ∀(O:Type)(g:yu)(args:yL TD)(H:yL TEnt)(K:TD->yL TEnt->yO O)(out:O),hd O g args H K=some out->
  ∃r H',K r H'=some out/\Con P g (TD.ers (lk H) args) (erH H) (r.er (lk H')) (erH H')
def MtOk(P:yg):yL (yc×String×yu)->Prop
 |[]=>True
 |q::r=>ZI5 P q.1 q.2.1 q.2.2/\MtOk P r
def ZLx:yL (yc×String×yu)->yc->String->yO yu
 |[],_,_=>none
 |q::r,t,n=>if q.1=t then if q.2.1=n then some q.2.2 else ZLx r t n else ZLx r t n
theorem ZCq:∀{l:yL (yc×String×yu)}{t:yc}{n:String}{g:yu},MtOk P l->ZLx l t n=some g->ZI5 P t n g
 |[],_,_,_,_,h=>by cases h
 |q::r,t,n,g,hk,h=>by
  unfold ZLx at h;split at h
  ·rename_i e1;split at h
   ·rename_i e2;cases h;rw[<-e1, <-e2];exact hk.1
   ·exact ZCq hk.2 h
  ·exact ZCq hk.2 h
structure SpOk(s:Sp P):Prop where
 l:AllOk s.l
 hd:HdOk P s.hd
 mt:MtOk P s.mt
 ro:AllRo s.ro
theorem ZN7:HdOk P (λ_ _ _ _ _=>none):=λ_ _ _ _ _ _ h=>by cases h
theorem okS{l:yL (Fs P)}(h:AllOk l):SpOk ({ l:=l}:Sp P):=⟨h,ZN7,zP,ytt⟩
mutual
def TD.look:TD->yL Nat
 |.ref id _=>[id]
 |.own id _ _ _=>[id]
 |.view id _ _ _ _=>[id]
 |.mp id=>[id]
 |.rv id _ _ _ _=>[id]
 |.rref id _ _=>[id]
 |.rw id=>[id]
 |.rp id _=>[id]
 |.agg xs=>TD.looks xs
 |.arr _ _ xs=>TD.looks xs
 |.fn _ xs=>TD.looks xs
 |.iface _ x=>TD.look x
 |.tup xs=>TD.looks xs
 |_=>[]
def TD.looks:yL TD->yL Nat
 |[]=>[]
 |x::r=>TD.look x++TD.looks r
end
def TEnt.look:TEnt->yL Nat
 |.var d _=>d.look
 |.row _ _ _ _ d=>d.look
 |.rowM _ _ _ _ _ _ d _=>d.look
 |_=>[]
def Zu2(h:yL TEnt):Nat->yL Nat->yL Nat->yL Nat
 |0,_,got=>got
 |_+1,[],got=>got
 |k+1,id::r,got=>if got.contains id then Zu2 h k r got else Zu2 h k (((h[id]?).map TEnt.look).getD []++r) (id::got)
def inT(sp:Sp P)(g:yu)(all:yL TD)(H:yL TEnt)(K:Kn O)(args:yL TD):yO O:=
 let ids:=Zu2 H 100000 (TD.looks args) []
 if once ids then(TD.rns (toIds ids) (args.map (TD.argI (lk H) ids))).bind λa2=>(Vd H ids ids).bind λHin=>
  sp.hd O g a2 Hin λr Hn=>ZN6 all H K ids r Hn
 else none
def ZIl(g:yu)(all:yL TD)(H:yL TEnt)(K:Kn O)(args:yL TD)(yS:yO O):yL (Rs P)->yO O
 |[]=>yS
 |s::yK=>if s.g=g then(ZO9 H s.ps s.es args).bind λids=>(Vd H ids ids).bind λHin=>if(once ids&& !ids.isEmpty&&ESh.exs s.es Hin)=true then
   (TD.rns (toIds ids) (args.map (TD.argI (lk H) ids))).bind λa2=>(Sh.mts (lk Hin) s.ps a2).bind λq=>(ESh.mts (lk Hin) s.es Hin).bind λw=>(toD s.ins (q.2++w.2)).bind λx=>
     (s.M x).bind λy=>(Sh.fill s.r (ofD s.t y)).bind λq=>(q.1.rn λ_=>none).bind λr'=>K all r' H [.call (q.1.er (lk Hin)) (erH Hin) ids] 3
   else none
  else ZIl g all H K args yS yK
def ZLy(sp:Sp P)(g:yu)(all:yL TD)(H:yL TEnt)(K:Kn O)(args:yL TD):yO O:=ZIl g all H K args (ZEN g all H K args (inT sp g all H K args) sp.l) sp.ro
structure CallOk(P:yg)(g:yu)(all args:List TD)(H:List TEnt)(a':List TD)(d:TD)(H':List TEnt)(hs:List Hint)(cls:Nat):Prop where
 same:TD.ers (lk H') a'=TD.ers (lk H) all
 len:a'.length=all.length
 op:∃(ids:List Nat)(Hin Hn Hb:List Ent)(az:List Dv)(r:Dv),once ids=true/\ids.length<=Hn.length/\subEnts (erH H) ids ids=some Hin/\
  Dv.rns (toIds ids) (TD.ers (lk H) (args.map (TD.argI (lk H) ids)))=some az/\Con P g az Hin r Hn/\r.rn (fromIds ids H.length)=some (d.er (lk H'))/\Ent.rns (fromIds ids H.length) Hn=some Hb/\
  erH H'=putBack (erH H) ids Hb/\hs=[.call r Hn ids]/\(cls=2/\¬(ids=[]/\Hn=[])\/(cls=3/\erH H'=erH H/\¬(ids=[]/\Hn=[]))\/cls=0/\ids=[]/\Hn=[]/\H'=H/\a'=all/\r=d.er (lk H')/\r.rn (λ_=>none)=some r)
theorem ZAM{g:yu}{args:yL TD}{ids:yL Nat}{Hin:yL TEnt}{az:yL Dv}{r4:TD}{Hn:yL TEnt}(honce:once ids=true)(p1:Vd H ids ids=some Hin)(p2:subEnts (erH H) ids ids=some (erH Hin))
 (p3:Dv.rns (toIds ids) (TD.ers (lk H) (args.map (TD.argI (lk H) ids)))=some az) (hcon':Con P g az (erH Hin) (r4.er (lk Hn)) (erH Hn)) (h9:ZN6 all H K ids r4 Hn=some out):
 ∃a d H' hs c,K a d H' hs c=some out/\CallOk P g all args H a d H' hs c:=by
 unfold ZN6 at h9;split at h9
 ·rename_i hem;rw[yj] at hem;have i1:ids=[]:=by simpa using hem.1
  have i2:Hn=[]:=by simpa using hem.2
  subst i1;subst i2;obtain⟨r',hr',h9⟩:=yf.1 h9;have f1:=ZhA (L:=lk []) (M:=lk H) (λid j t e=>by cases e) _ _ hr';have f2:=ZbP (f:=λ_=>none) _ _ f1;have f3:r4.er (lk [])=r'.er (lk H):=Option.some.inj (f2.symm.trans f1);have hin0:Hin=[]:=by cases p1;rfl
  subst hin0;refine⟨_,_,_,_,_,h9,rfl,rfl,[],[],[],[],az,r4.er (lk []),rfl,ym _,rfl,p3,hcon', ?_,rfl, ?_,rfl,.inr (.inr ⟨rfl,rfl,rfl,rfl,rfl,f3,f2⟩)⟩
  ·rw[<-f3];exact ZbP _ _ f1
  ·rw[ZuQ]
 rename_i hne;obtain⟨r',hr',h9⟩:=yf.1 h9;obtain⟨Hb,hHb,h9⟩:=yf.1 h9;obtain⟨hk,h9⟩:=Za h9;simp only[yj,yP] at hk;obtain⟨⟨k1,k2⟩,k3⟩:=hk;obtain⟨b1,b2⟩:=ZEL hHb;obtain⟨s1,s2⟩:=ZgK p1
 have hlt:∀i,i∈ids->i < H.length:=λi hi=>by
  obtain⟨j,hj⟩:=List.getElem?_of_mem hi;exact(s2 j i hj).1
 have hlo:Lo ids H.length (lk H) (lk (putBack (H.map (TEnt.lay (lk H) ids)) ids Hb)):=by
  intro id t hn hl;unfold Yb lk;dsimp only
  rw[Q1 _ _ _ id (by rw[b1];exact k1) (by rw[yy];exact hl) (λhm=>by
   rw[List.contains_eq_any_beq] at hn;simp at hn;exact hn id hm rfl),yal,ZN4]
 have hrc:Rc (fromIds ids H.length) (lk Hn) (lk (putBack (H.map (TEnt.lay (lk H) ids)) ids Hb)):=by
  intro j i t e
  have key:lk (putBack (H.map (TEnt.lay (lk H) ids)) ids Hb) i=lk Hn j:=by
   show lkE ((putBack (H.map (TEnt.lay (lk H) ids)) ids Hb)[i]?)=lkE (Hn[j]?);rw[<-b2 j];unfold fromIds at e;split at e
   ·rw[Zhu _ _ _ j i honce (by rw[b1];exact k1) (λi hi=>by rw[yy];exact hlt i hi) e]
   ·rename_i hj;cases e;have:=ZiN (H.map (TEnt.lay (lk H) ids)) ids Hb j (by rw[b1];exact k1) (by omega);rw[yy] at this;rw[this]
  unfold Yb;rw[key]
 have e2:(putBack (H.map (TEnt.lay (lk H) ids)) ids Hb).map (TEnt.er (lk (putBack (H.map (TEnt.lay (lk H) ids)) ids Hb)))=putBack (erH H) ids (Hb.map (TEnt.er (lk (putBack (H.map (TEnt.lay (lk H) ids)) ids Hb)))):=by
  rw[Zu1,ybe];congr 1;refine ycn λe he=> ?_;exact ZN3 hlo (ybg.1 k3 e he)
 have f1:=ZhA hrc _ _ hr';have f2:=ZIj hrc _ _ hHb;refine⟨_,_,_,_,_,h9,ers_lay hlo all k2,ZEM all,ids,erH Hin,erH Hn,_,az,r4.er (lk Hn),honce,by rw[ZS];exact k1,p2,p3,hcon',f1,f2,e2,rfl,.inl ⟨rfl,λhh=>hne ?_⟩⟩;have i2:Hn=[]:=by have:=hh.2;unfold erH at this;simpa using this
 rw[i2,hh.1];rfl
theorem Zzz{args:yL TD}{s:Fs P}{ids:yL Nat}{x:Ty.dens s.ins}(ok:s.Ok)(hp:ZCp s H args ids=some x)(h:Zxv s all H K args ids x=some out):
 ∃a d H' hs c,K a d H' hs c=some out/\CallOk P s.g all args H a d H' hs c:=by
 unfold Zxv at h;obtain⟨y,hM,h0⟩:=yf.1 h;obtain⟨e,vs,s',hsel,hfs,h9⟩:=Zwt h0;clear h0 h;obtain⟨honce,Hin,a2,a3,H3,R,p1,p2,p3,p4,p5,p6,p7⟩:=ZN5 hp;obtain⟨args,R1,H4,q1,q2,hcon⟩:=ok x y hM;obtain⟨r4,hr4,hcon⟩:=hcon e vs s' hsel hfs;rw[hr4] at h9;dsimp only at h9;rw[p4] at q1;cases q1;rw[p5] at q2;cases q2;generalize s'.2=Hn at h9 hcon;exact ZAM honce p1 p2 p3 (ZHW hcon p6 p7) h9
theorem Zro{g:yu}{args:yL TD}{yS:yO O}(ho:yS=some out->∃a d H' hs c,K a d H' hs c=some out/\CallOk P g all args H a d H' hs c):∀{l:yL (Fs P)},AllOk l->ZEN g all H K args yS l=some out->
 ∃a d H' hs c,K a d H' hs c=some out/\CallOk P g all args H a d H' hs c
 |[],_,h=>ho h
 |s::r,ok,h=>by
  unfold ZEN at h;split at h
  ·rename_i hg;split at h
   ·rename_i q hq;obtain⟨ids,h1,hq⟩:=yf.1 hq;obtain⟨x,h2,rfl⟩:=Zd hq;exact hg ▸ Zzz ok.1 h2 h
   ·exact Zro ho ok.2 h
  ·exact Zro ho ok.2 h
theorem ZLz{sp:Sp P}{g:yu}{args:yL TD}(ok:SpOk sp)(h:inT sp g all H K args=some out):∃a d H' hs c,K a d H' hs c=some out/\CallOk P g all args H a d H' hs c:=by
 unfold inT at h;dsimp only at h;generalize Zu2 H 100000 (TD.looks args) []=ids at h;obtain⟨ho,h⟩:=Za h;obtain⟨a2,h1,h⟩:=yf.1 h;obtain⟨Hin,h2,h⟩:=yf.1 h;obtain⟨r,Hn,h3,h4⟩:=ok.hd _ _ _ _ _ _ h;exact ZAM ho h2 (W4 (Zbq h2) h2) (rns_er (Zbq h2) _ _ h1) h4 h3
theorem Zxw{g:yu}{args:yL TD}{yS:yO O}(ho:yS=some out->∃a d H' hs c,K a d H' hs c=some out/\CallOk P g all args H a d H' hs c):∀{l:yL (Rs P)},AllRo l->ZIl g all H K args yS l=some out->
 ∃a d H' hs c,K a d H' hs c=some out/\CallOk P g all args H a d H' hs c
 |[],_,h=>ho h
 |s::r,ok,h=>by
  unfold ZIl at h;split at h
  ·rename_i hg;obtain⟨ids,_,h⟩:=yf.1 h;obtain⟨Hin,h2,h⟩:=yf.1 h;obtain⟨hk,h⟩:=Za h;simp only[yj,Bool.not_eq_true',List.isEmpty_eq_false_iff] at hk;obtain⟨⟨k1,k2⟩,k3⟩:=hk;obtain⟨a2,h3,h⟩:=yf.1 h;obtain⟨q,h4,h⟩:=yf.1 h;obtain⟨⟨w1,w2⟩,h5,h⟩:=yf.1 h;obtain⟨x,h6,h⟩:=yf.1 h;obtain⟨y,h7,h⟩:=yf.1 h;obtain⟨z,h8,h⟩:=yf.1 h;obtain⟨r',h9,h⟩:=yf.1 h;have hw:w1=Hin:=ZEO k3 h5;subst hw;obtain⟨az,R,H3,q1,q2,hcon⟩:=ok.1 x y h7;have e:=Zev _ _ _ h6;rw[e,mts_fills _ _ _ h4 _] at q1;cases q1;have q3:=ZbT h5 [];rw[yaz] at q3;rw[q3] at q2;cases q2;have hcon:=hcon z h8;have p2:=W4 (Zbq h2) h2;have p3:=rns_er (Zbq h2) _ _ h3;have hcon:=ZHW hcon (mts_wk (λ_ _=>rfl) _ _ _ h4) (WkH.refl _);have f1:=ZhA (f:=λ_=>none) (L:=lk w1) (M:=lk H) (λid j t e=>by cases e) _ _ h9;have f2:=ZbP (f:=λ_=>none) _ _ f1;have f3:z.1.er (lk w1)=r'.er (lk H):=Option.some.inj (f2.symm.trans f1);obtain⟨Hb,b1,b2⟩:=ZLw k1 p2;have zW:=(ZgK h2).1;refine⟨_,_,_,_,_,h,rfl,rfl,ids,erH w1,erH w1,Hb,TD.ers (lk w1) a2,z.1.er (lk w1),k1,by rw[ZS];omega,p2,p3,hg ▸ hcon, ?_,by rw[<-ZS H];exact b1,b2.symm,rfl,.inr (.inl ⟨rfl,rfl,λhh=>k2 hh.1⟩)⟩;rw[<-f3];exact ZbP _ _ f1
  ·exact Zxw ho ok.2 h
theorem ZEP{sp:Sp P}{g:yu}{args:yL TD}(ok:SpOk sp)(h:ZLy sp g all H K args=some out):∃a d H' hs c,K a d H' hs c=some out/\CallOk P g all args H a d H' hs c:=
 Zxw (λh=>Zro (λh=>ZLz ok h) ok.l h) ok.ro h
theorem ZJG{c:Call}{f:yn}{g:yu}{cap az:yL TD}{a:yL TD}{d:TD}{H':yL TEnt}{hs:yL Hint}{cls:Nat}(ho:o.op=.call c)(hc:c.callee=.value f)(hf:arT P ts 0 f=some (.fn g cap))
 (hb:(Zd2 P (Zk5 g)&&c.args.size==c.argTypes.size)=true) (ha:Zxu P ts c.args.toList c.argTypes.toList=some az) (h:CallOk P (Zk5 g) all (if g < big then az++cap else cap++az) H a d H' hs cls):Good P o ts all H a d H' hs cls:=by
 have hfv:=ZA (L:=lk H) hf;obtain⟨ids,Hin,Hn,Hb,az',r,honce,hle,p2,p3,hcon,f1,f2,e2,rfl,hcl⟩:=h.op
 have ea:XM P ids (TD.ers (lk H) ts) c g (TD.ers (lk H) cap)=TD.ers (lk H) ((if g < big then az++cap else cap++az).map (TD.argI (lk H) ids)):=by
  unfold XM;split
  ·rw[Zsr ids ha,ZIk,yas,ZN,ZN,ZN,yas]
  ·rw[Zsr ids ha,ZIk,yas,ZN,ZN,ZN,yas]
 have ge:¬(ids=[]/\Hn=[])->GoodE P o ts H d H' [.call r Hn ids]:=λhne=>by
  refine⟨λyK=> ?_,λyK=> ?_,[Con P (Zk5 g) az' Hin r Hn],⟨hcon,ytt⟩,λyK=> ?_⟩
  ·unfold evN;rw[ho];dsimp only;rw[hc];dsimp only;rw[hfv];dsimp only[TD.er];rw[yz,yw];split
   ·rename_i e1 e2;exfalso;simp only[List.cons.injEq,Hint.call.injEq] at e2;exact hne ⟨e2.1.2.2,e2.1.2.1⟩
   ·rename_i e2;cases e2
   ·rfl
  ·unfold evR;rw[ho];dsimp only;rw[hc]
  ·unfold evE;rw[ho];dsimp only;rw[hc];dsimp only;rw[hfv];dsimp only[TD.er];rw[yz,yw];dsimp only;rw[yW (by simp only[yj,yP] at hb ⊢;exact⟨⟨hb,honce⟩,hle⟩)];rw[ea,p3,p2,ZS,f1,f2];dsimp only;rw[e2]
 rcases hcl with⟨rfl,hne⟩|⟨rfl,hsm,hne⟩|⟨rfl,rfl,rfl,rfl,rfl,rfl,hrn⟩
 ·exact⟨h.same,h.len,or3 ⟨rfl,ge hne⟩⟩
 ·exact⟨h.same,h.len,.inr (.inr (.inr ⟨rfl,hsm,ge hne⟩))⟩
 ·refine⟨h.same,h.len,.inl ⟨rfl,rfl,[Con P (Zk5 g) az' [] (d.er (lk H')) []],⟨?_,ytt⟩,λyK=> ?_⟩⟩
  ·cases p2;exact hcon
  ·unfold evN;rw[ho];dsimp only;rw[hc];dsimp only;rw[hfv];dsimp only[TD.er];rw[yz,yw];dsimp only;rw[yW hb,ea, <-Zrd,p3,Zrd,hrn]
theorem ZJH{c:Call}{recv:yn}{name:String}{t:yc}{x:TD}{g:yu}{az:yL TD}{a:yL TD}{d:TD}{H':yL TEnt}{hs:yL Hint}{cls:Nat}(ho:o.op=.call c)(hc:c.callee=.invoke recv name)(hf:arT P ts 0 recv=some (.iface t x))
 (hm:ZI5 P t name g) (hb:(Zd2 P g&&c.args.size==c.argTypes.size)=true) (ha:Zxu P ts c.args.toList c.argTypes.toList=some az) (h:CallOk P g all (x::az) H a d H' hs cls):Good P o ts all H a d H' (.meth g::hs) 2:=by
 have hfv:=ZA (L:=lk H) hf;obtain⟨ids,Hin,Hn,Hb,az',r,honce,hle,p2,p3,hcon,f1,f2,e2,rfl,hcl⟩:=h.op
 have ea:(x.er (lk H)).argI ids::XM P ids (TD.ers (lk H) ts) c 0 []=TD.ers (lk H) ((x::az).map (TD.argI (lk H) ids)):=by
  unfold XM;rw[yW (by decide),Zsr ids ha,yce,yaz,yag,TD.ers,ZCo]
 refine⟨h.same,h.len,or3 (⟨rfl,λyK=> ?_,λyK=> ?_,[ZI5 P t name g,Con P g az' Hin r Hn],⟨hm,hcon,ytt⟩,λyK=> ?_⟩)⟩
 ·unfold evN;rw[ho];dsimp only;rw[hc]
 ·unfold evR;rw[ho];dsimp only;rw[hc]
 ·unfold evE;rw[ho];dsimp only;rw[hc];dsimp only;rw[hfv];dsimp only[TD.er];rw[yz,yz,yw];dsimp only;rw[yW (by simp only[yj,yP] at hb ⊢;exact⟨⟨hb,honce⟩,hle⟩)];rw[ea,p3,p2,ZS,f1,f2];dsimp only;rw[e2]
end
end Go.Ev
end
section
namespace Go.Ev
section
variable{P:yg}{o:Oper}{ts all:yL TD}{H:yL TEnt}{O:Type}{K:Kn O}{out:O}
def TD.isView:TD->Bool
 |.view _ _ _ _ _=>true
 |_=>false
def TD.isNilSl:TD->Bool
 |.p (.sl (some false) _ [])=>true
 |_=>false
def TD.isRef:TD->Bool
 |.ref _ _=>true
 |_=>false
def TD.isRref:TD->Bool
 |.rref _ _ _=>true
 |_=>false
def TD.isRv:TD->Bool
 |.rv _ _ _ _ _=>true
 |_=>false
def ZN8(a:TD)(lo hi:yO Int):Bool:=
 match a with
 |.rv _ _ _ _ n=> !Zbp n lo hi
 |_=>false
def TD.isOwn:TD->Bool
 |.own _ _ _ _=>true
 |_=>false
def TD.isMp:TD->Bool
 |.mp _=>true
 |_=>false
def Zss(l:yL Tmp):yO Tmp->Bool
 |some t=>l.contains t
 |none=>false
def ZnQ(P:yg)(o:Oper)(ts all:yL TD)(H:yL TEnt)(K:Kn O):yO O:=opN (lk H) P o ts λd hs=>K all d H hs 0
theorem VV(h:ZnQ P o ts all H K=some out):∃a d H' hs c,K a d H' hs c=some out/\Good P o ts all H a d H' hs c:=by
 obtain⟨d,hs,h1,h2⟩:=ZLe h;exact⟨_,_,_,_,_,h1,rfl,rfl,.inl ⟨rfl,rfl,h2⟩⟩
def ZIm(P:yg)(hi:HI)(o:Oper)(x:yn)(asg:Bool)(ts all:yL TD)(H:yL TEnt)(K:Kn O):yO O:=
 match o.dst,arT P ts o.type x with
 |some t,some d=>if hi.still.contains t&&(d.isView || d.isRv) then ZCe t all H K d else if hi.still.contains t&&d.isRw then ZCj t all H K d else if asg&&(hi.rowt.contains t&&d.isNilSl) then ZCl P o.type t all H K d else if asg&&(hi.own.contains t&&d.isNilSl) then ZGJ P o.type t all H K d else ZnQ P o ts all H K
 |_,_=>ZnQ P o ts all H K
def TD.numI(d:TD):yO Num:=
 match d.num with
 |some a=>if a.k=.i64 then some a else none
 |none=>none
def opT(P:yg)(hi:HI)(specs:Sp P)(o:Oper)(ts all:yL TD)(H:yL TEnt)(K:Kn O):yO O:=
 match o.op with
 |.move x=>ZIm P hi o x false ts all H K
 |.assign x=>ZIm P hi o x true ts all H K
 |.slice t x lo h none=>if Zss hi.frz o.dst then(arT P ts t x).bind λa=>(Ziz P ts lo).bind λl=>(Ziz P ts h).bind λr=>ZPY P t l r all H K a
  else(arT P ts t x).bind λa=>(Ziz P ts lo).bind λl=>(Ziz P ts h).bind λr=>if(Zss hi.rowt o.dst&&a.isRw)=true then Zxr P t l r all H K a else if ZN8 a l r=true then ZGH P t l r all H K a else ZnQ P o ts all H K
 |.load t x=>(arT P ts 0 x).bind λd=>if d.isRef || d.isRref then ZLh P t all H K d else if d.isRp then ZGS P t all H K d else ZnQ P o ts all H K
 |.lookup t x ix ok=>(arT P ts t x).bind λd=>ZBZ P t all H ok K (λkt=>arT P ts kt ix) d
 |.makeMap t none=>Zxn P t all H K
 |.makeSlice t l c=>((arT P ts 0 l).bind TD.numI).bind λn=>((arT P ts 0 c).bind TD.numI).bind λn'=>if Zss hi.rowt o.dst then ZGV P t n.n n'.n all H K else Zrl P t (Zss hi.own o.dst) (Zss hi.row o.dst) n.n n'.n all H K
 |.mapUpdate t x k v=>(arT P ts t x).bind λd=>ZB3 P t all H K (λkt=>arT P ts kt k) (λet=>arT P ts et v) d
 |.alloc t=>ZGK P hi o.dst t all H K
 |.box t x=>(arT P ts t x).bind (ZPX hi o.dst all H K)
 |.store t x y=>(arT P ts 0 x).bind λa=>(arT P ts t y).bind λv=>if a.isRp then ZCh P t all H K v a else ZGL P (ZRb hi x) t all H K v a
 |.buildSlice t len parts=>if Zss hi.rowt o.dst then(match (o.dst.bind λd=>hi.rew.lookup d).bind λs=>all[s]? with
  |some (.rw id)=>ZGU P ts t len parts.toList id all H K
  |_=>ZLp P ts t len parts.toList all H K) else if Zss hi.row o.dst then(if ZRc P ts t (lk H) parts.toList=true then ZB8 P ts t len parts.toList all H K else Zxp P ts t len parts.toList all H K) else if Zss hi.own o.dst then ZCa P ts t len parts.toList all H K else ZnQ P o ts all H K
 |.indexAddr t x ix=>(arT P ts t x).bind λa=>if a.isRw then(arT P ts 0 ix).bind λb=>b.inner.bind λip=>(ZBM ip).bind λq=>ZCf P t q.2 all H K a else ZnQ P o ts all H K
 |.call c=>match c.callee with
  |.builtin .len=>match c.args.toList,c.argTypes.toList with
   |[x],[t]=>(arT P ts t x).bind λd=>if d.isMp then ZB1 P t all H K d else if d.isRw then ZLo P t all H K d else ZnQ P o ts all H K
   |_,_=>none
  |.builtin .append=>match c.args.toList,c.argTypes.toList with
   |[x,y],[t,u]=>(arT P ts t x).bind λa=>(arT P ts u y).bind λb=>if a.isRw || (a.isNilSl&&Zss hi.rowt o.dst) then Zxq P true t u all H K b a else if a.isOwn || a.isRv || (a.isNilSl&&(Zss hi.own o.dst || Zss hi.row o.dst)) then ZCc P (Zss hi.own o.dst) (Zss hi.row o.dst) t u all H K b (if hi.eqs=true then ZGN H a else a) else ZnQ P o ts all H K
   |_,_=>none
  |.builtin .copy=>match c.args.toList,c.argTypes.toList with
   |[x,y],[t,u]=>(arT P ts t x).bind λa=>(arT P ts u y).bind λb=>ZLn P t u all H K b a
   |_,_=>none
  |.builtin .clear=>match c.args.toList,c.argTypes.toList with
   |[x],[t]=>(arT P ts t x).bind λa=>ZGO P t all H K a
   |_,_=>none
  |.builtin .delete=>match c.args.toList,c.argTypes.toList with
   |[x,y],[t,u]=>(arT P ts t x).bind λa=>ZB5 P t all H K (arT P ts u y) a
   |_,_=>none
  |.value f=>match arT P ts 0 f with
   |some (.fn g cap)=>if(Zd2 P (Zk5 g)&&c.args.size==c.argTypes.size)=true then(Zxu P ts c.args.toList c.argTypes.toList).bind λaz=>ZLy specs (Zk5 g) all H K (if g < big then az++cap else cap++az) else ZnQ P o ts all H K
   |_=>none
  |.invoke recv name=>match arT P ts 0 recv with
   |some (.iface t x)=>(ZLx specs.mt t name).bind λg=>if(Zd2 P g&&c.args.size==c.argTypes.size)=true then(Zxu P ts c.args.toList c.argTypes.toList).bind λaz=>ZLy specs g all H (λa d H' hs _=>K a d H' (.meth g::hs) 2) (x::az) else none
   |_=>none
  |_=>none
 |_=>ZnQ P o ts all H K
theorem Zcb{d:TD}{n:Num}(h:d.numI=some n):d.num=some n/\n.k=.i64:=by
 unfold TD.numI at h;split at h
 ·rename_i a hn;split at h
  ·rename_i e;cases h;exact⟨hn,e⟩
  ·cases h
 ·cases h
theorem Zxx{hi:HI}{x:yn}{asg:Bool}(ho:if asg=true then o.op=.assign x else o.op=.move x)(h:ZIm P hi o x asg ts all H K=some out):∃a d H' hs c,K a d H' hs c=some out/\Good P o ts all H a d H' hs c:=by
 unfold ZIm at h;split at h
 ·rename_i t d hd hx;split at h
  ·refine ZEF (x:=x) ?_ hd hx h;cases asg
   ·exact .inr ho
   ·exact .inl ho
  split at h
  ·refine ZCk (x:=x) ?_ hd hx h;cases asg
   ·exact .inr ho
   ·exact .inl ho
  split at h
  ·rename_i ha;rw[yj] at ha;rw[yW ha.1] at ho;exact ZCm ho hd hx h
  ·split at h
   ·rename_i ha;rw[yj] at ha;rw[yW ha.1] at ho;exact ZEy ho hd hx h
   ·exact VV h
 ·exact VV h
theorem Zxy{hi:HI}{specs:Sp P}(ok:SpOk specs)(h:opT P hi specs o ts all H K=some out):∃a d H' hs c,K a d H' hs c=some out/\Good P o ts all H a d H' hs c:=by
 unfold opT at h;split at h
 ·rename_i x ho;exact Zxx (asg:=false) ho h
 ·rename_i x ho;exact Zxx (asg:=true) ho h
 ·rename_i t x lo hi' ho;split at h
  ·obtain⟨a,h1,h⟩:=yf.1 h;obtain⟨l,h2,h⟩:=yf.1 h;obtain⟨r,h3,h⟩:=yf.1 h;exact ZJF ho h1 h2 h3 h
  ·obtain⟨a,h1,h⟩:=yf.1 h;obtain⟨l,h2,h⟩:=yf.1 h;obtain⟨r,h3,h⟩:=yf.1 h;split at h
   ·exact Zzy ho h1 h2 h3 h
   split at h
   ·exact ZEw ho h1 h2 h3 h
   ·exact VV h
 ·rename_i t x ho;obtain⟨d,h1,h⟩:=yf.1 h;split at h
  ·exact ZGG ho h1 h
  split at h
  ·exact ZEG ho h1 h
  ·exact VV h
 ·rename_i t x ix okk ho;obtain⟨d,h1,h⟩:=yf.1 h;exact ZB0 ho h1 h
 ·rename_i t ho;exact Zzv ho h
 ·rename_i t l c ho;obtain⟨n,h1,h⟩:=yf.1 h;obtain⟨n',h2,h⟩:=yf.1 h;obtain⟨d1,g1,g2⟩:=yf.1 h1;obtain⟨d2,g3,g4⟩:=yf.1 h2;split at h
  ·exact ZEJ ho (by rw[g1];exact(Zcb g2).1) (by rw[g3];exact(Zcb g4).1) (Zcb g2).2 (Zcb g4).2 h
  exact ZvJ ho (by rw[g1];exact(Zcb g2).1) (by rw[g3];exact(Zcb g4).1) (Zcb g2).2 (Zcb g4).2 h
 ·rename_i t x k v ho;obtain⟨d,h1,h⟩:=yf.1 h;exact ZB4 ho h1 h
 ·rename_i t ho;exact ZEA ho h
 ·rename_i t x ho;obtain⟨d,h1,h⟩:=yf.1 h;exact ZJD ho h1 h
 ·rename_i t x y ho;obtain⟨a,h1,h⟩:=yf.1 h;obtain⟨v,h2,h⟩:=yf.1 h;split at h
  ·exact ZCi ho h1 h2 h
  ·exact ZEB ho h1 h2 h
 ·rename_i t len parts ho;split at h
  ·split at h
   ·exact ZEI ho h
   ·exact ZGT ho h
  split at h
  ·split at h
   ·exact ZB9 ho h
   ·exact Zzw ho h
  split at h
  ·exact ZCb ho h
  ·exact VV h
 ·rename_i t x ix ho;obtain⟨a,h1,h⟩:=yf.1 h;split at h
  ·obtain⟨b,h2,h⟩:=yf.1 h;obtain⟨ip,h3,h⟩:=yf.1 h;obtain⟨q,h4,h⟩:=yf.1 h;rw[XN h3] at h2;exact ZCg ho h1 h2 h4 h
  ·exact VV h
 ·rename_i c ho;split at h
  ·rename_i hc;split at h
   ·rename_i x t ha ht;obtain⟨d,h1,h⟩:=yf.1 h;split at h
    ·exact ZB2 ho hc ha ht h1 h
    split at h
    ·exact ZGR ho hc ha ht h1 h
    ·exact VV h
   ·cases h
  ·rename_i hc;split at h
   ·rename_i x y t u ha ht;obtain⟨a,h1,h⟩:=yf.1 h;obtain⟨b,h2,h⟩:=yf.1 h;split at h
    ·exact Zzx ho hc ha ht (ZA h1) h2 h
    split at h
    ·refine ZCd ho hc ha ht ?_ h2 h;split
     ·rw[ZJE];exact ZA h1
     ·exact ZA h1
    ·exact VV h
   ·cases h
  ·rename_i hc;split at h
   ·rename_i x y t u ha ht;obtain⟨a,h1,h⟩:=yf.1 h;obtain⟨b,h2,h⟩:=yf.1 h;exact ZGP ho hc ha ht h1 h2 h
   ·cases h
  ·rename_i hc;split at h
   ·rename_i x t ha ht;obtain⟨a,h1,h⟩:=yf.1 h;exact ZED ho hc ha ht h1 h
   ·cases h
  ·rename_i hc;split at h
   ·rename_i x y t u ha ht;obtain⟨a,h1,h⟩:=yf.1 h;exact ZB6 ho hc ha ht h1 h
   ·cases h
  ·rename_i f hc;split at h
   ·rename_i g cap hf;split at h
    ·rename_i hb;obtain⟨az,h1,h⟩:=yf.1 h;obtain⟨a,d,H',hs,cc,k1,k2⟩:=ZEP ok h;exact⟨a,d,H',hs,cc,k1,ZJG ho hc hf hb h1 k2⟩
    ·exact VV h
   ·cases h
  ·rename_i recv name hc;split at h
   ·rename_i t x hf;obtain⟨g,hg,h⟩:=yf.1 h;obtain⟨hb,h⟩:=Za h;obtain⟨az,h1,h⟩:=yf.1 h;obtain⟨a,d,H',hs,cc,k1,k2⟩:=ZEP ok h;exact⟨a,d,H',_,_,k1,ZJH ho hc hf (ZCq ok.mt hg) hb h1 k2⟩
   ·cases h
  ·cases h
 ·exact VV h
def ZGX(ops:Array Oper)(j:Nat):yO Tmp:=(ops[j]?).bind (·.dst)
def ZzA(b:Bool):TD:=.p (.v .bool b)
def ZLA:TD->Bool
 |.tup []=>true
 |_=>false
def gT(P:yg)(hi:HI)(specs:Sp P)(ops:Array Oper)(o:Oper)(ts all:yL TD)(H:yL TEnt)(K:Kn O):yO O:=
 match o.guard with
 |none=>opT P hi specs o ts all H K
 |some (j,want)=>(ZGX ops j).bind λt=>match (ts.getD t .junk).boolT with
  |some b=>
   if b=true then
    if true=want then opT P hi specs o (ts.set t (ZzA true)) (all.set t (ZzA true)) H λa d H' hs c=>K a d H' (.b true::hs) c
    else K (all.set t (ZzA true)) (.tup []) H [.b true] 0
   else
    if false=want then opT P hi specs o (ts.set t (ZzA false)) (all.set t (ZzA false)) H λa d H' hs c=>K a d H' (.b false::hs) c
    else K (all.set t (ZzA false)) (.tup []) H [.b false] 0
  |none=>if ZLA (ts.getD t .junk) then K all (.tup []) H [.raw] 0 else none
structure GoodG(P:yg)(ops:Array Oper)(o:Oper)(ts all:List TD)(H:List TEnt)(all':List TD)(d:TD)(H':List TEnt)(hs:List Hint)(cls:Nat):Prop where
 same:TD.ers (lk H') all'=TD.ers (lk H) all
 len:all'.length=all.length
 op:∃C,AllP C/\∀yK,evG P ops o (TD.ers (lk H) ts) (erH H) (hs++yK)=some (C,d.er (lk H'),erH H',yK)
 sam:cls=3->erH H'=erH H
 cls:∀yK,clsOf P o (TD.ers (lk H) ts) (erH H) (hs++yK)<=cls
theorem ZCr{d:TD}{a:yL TD}{H':yL TEnt}{hs:yL Hint}{c:Nat}(h:Good P o ts all H a d H' hs c):∃C,AllP C/\(∀yK,Zj9 P o (TD.ers (lk H) ts) (erH H) (hs++yK)=some (C,d.er (lk H'),erH H',yK))/\
 ∀yK,(if(evN P o (TD.ers (lk H) ts) (hs++yK)).isSome then 0 else if(evR P o (TD.ers (lk H) ts) (erH H) (hs++yK)).isSome then 1 else 2)<=c:=by
 rcases h.op with⟨rfl,rfl,C,h1,h2⟩|⟨rfl,rfl,h0,C,h1,h2⟩|⟨rfl,h0,h00,C,h1,h2⟩|⟨rfl,_,h0,h00,C,h1,h2⟩
 ·exact⟨C,h1,λyK=>by unfold Zj9;rw[h2 yK],λyK=>by rw[h2 yK];simp⟩
 ·exact⟨C,h1,λyK=>by unfold Zj9;rw[h0 yK];dsimp only;rw[h2 yK],λyK=>by rw[h0 yK,h2 yK];simp⟩
 ·exact⟨C,h1,λyK=>by unfold Zj9;rw[h0 yK];dsimp only;rw[h00 yK];exact h2 yK,λyK=>by rw[h0 yK,h00 yK];simp⟩
 ·exact⟨C,h1,λyK=>by unfold Zj9;rw[h0 yK];dsimp only;rw[h00 yK];exact h2 yK,λyK=>by rw[h0 yK,h00 yK];simp⟩
theorem Zxz{d:TD}{a:yL TD}{H':yL TEnt}{hs:yL Hint}{c:Nat}(h:Good P o ts all H a d H' hs c)(hc:c=3):erH H'=erH H:=by
 subst hc;rcases h.op with⟨e,_⟩|⟨e,_⟩|⟨e,_⟩|⟨_,e,_⟩
 ·cases e
 ·cases e
 ·cases e
 ·exact e
theorem ZEQ{l:yL TD}{t:Nat}{b:Bool}(h:(l.getD t .junk).boolT=some b):l.getD t .junk=ZzA b:=by
 unfold TD.boolT at h;split at h
 ·rename_i x hx;unfold TP.boolB at h;split at h
  ·cases h;exact hx
  ·cases h
 ·cases h
theorem set_same{l:yL TD}{t:Nat}{d:TD}(h:l.getD t .junk=d):(l.set t d)=l:=by
 apply ybr;intro i;rw[ybv];split
 ·rename_i e;subst e;split
  ·rename_i hl;rw[<-h,ycx,yab hl];rfl
  ·rename_i hl;rw[yaq (by omega)]
 ·rfl
theorem ZIn{hi:HI}{specs:Sp P}{ops:Array Oper}(ok:SpOk specs)(hg:∀j want t,o.guard=some (j,want)->ZGX ops j=some t->ts.getD t .junk=all.getD t .junk)(h:gT P hi specs ops o ts all H K=some out):
 ∃a d H' hs c,K a d H' hs c=some out/\GoodG P ops o ts all H a d H' hs c:=by
 unfold gT at h;split at h
 ·rename_i hgd;obtain⟨a,d,H',hs,c,h1,h2⟩:=Zxy ok h;obtain⟨C,g1,g2,g3⟩:=ZCr h2;refine⟨a,d,H',hs,c,h1,h2.same,h2.len,⟨C++[],Zq.2 ⟨g1,ytt⟩,λyK=> ?_⟩,Zxz h2,λyK=> ?_⟩
  ·unfold evG;rw[hgd];dsimp only;rw[g2 yK];rfl
  ·unfold clsOf;rw[hgd];exact g3 yK
 ·rename_i j want hgd;obtain⟨t,ht,h9⟩:=yf.1 h;clear h;have eall:=hg j want t hgd ht
  have eslot:((ops[j]?).bind (·.dst)).map (λt=>(TD.ers (lk H) ts).getD t .junk)=some ((ts.getD t .junk).er (lk H)):=by
   rw[show(ops[j]?).bind (·.dst)=some t from ht,yaa,Zsd]
  split at h9
  ·rename_i b hb;have e1:=ZEQ hb;have e2:all.getD t .junk=ZzA b:=by rw[<-eall];exact e1
   have e3:(ts.getD t .junk).er (lk H)=.p (.bool b):=Zkh hb;split at h9
   ·rename_i hbt;subst hbt;rw[set_same e1,set_same e2] at h9;split at h9
    ·rename_i hw;subst hw;obtain⟨a,d,H',hs,c,h1,h2⟩:=Zxy ok h9;obtain⟨C,g1,g2,g3⟩:=ZCr h2;refine⟨a,d,H',_,c,h1,h2.same,h2.len,⟨(true=true)::C++[],Zq.2 ⟨⟨rfl,g1⟩,ytt⟩,λyK=> ?_⟩,Zxz h2,λyK=> ?_⟩
     ·unfold evG;rw[hgd];dsimp only;rw[eslot,e3];simp only[yz,if_true,g2 yK];rfl
     ·unfold clsOf;rw[hgd];simp only[yz,if_true];exact g3 yK
    ·rename_i hw;refine⟨_,_,_,_,_,h9,rfl,rfl,⟨[true=true],⟨rfl,ytt⟩,λyK=> ?_⟩,λ_=>rfl,λyK=> ?_⟩
     ·unfold evG;rw[hgd];dsimp only;rw[eslot,e3];simp only[yz,yw,yX hw];rfl
     ·unfold clsOf;rw[hgd];simp only[yz,yX hw];exact ym _
   ·rename_i hbt;have hbt:b=false:=by simpa using hbt
    subst hbt;rw[set_same e1,set_same e2] at h9;split at h9
    ·rename_i hw;subst hw;obtain⟨a,d,H',hs,c,h1,h2⟩:=Zxy ok h9;obtain⟨C,g1,g2,g3⟩:=ZCr h2;refine⟨a,d,H',_,c,h1,h2.same,h2.len,⟨(false=false)::C++[],Zq.2 ⟨⟨rfl,g1⟩,ytt⟩,λyK=> ?_⟩,Zxz h2,λyK=> ?_⟩
     ·unfold evG;rw[hgd];dsimp only;rw[eslot,e3];simp only[yz,if_true,g2 yK];rfl
     ·unfold clsOf;rw[hgd];simp only[yz,if_true];exact g3 yK
    ·rename_i hw;refine⟨_,_,_,_,_,h9,rfl,rfl,⟨[false=false],⟨rfl,ytt⟩,λyK=> ?_⟩,λ_=>rfl,λyK=> ?_⟩
     ·unfold evG;rw[hgd];dsimp only;rw[eslot,e3];simp only[yz,yw,yX hw];rfl
     ·unfold clsOf;rw[hgd];simp only[yz,yX hw];exact ym _
  ·obtain⟨h1,h9⟩:=Za h9
   have e3:(ts.getD t .junk).er (lk H)=.tup []:=by
    unfold ZLA at h1;split at h1
    ·rename_i hx;rw[hx];rfl
    ·cases h1
   refine⟨_,_,_,_,_,h9,rfl,rfl,⟨[],zP,λyK=> ?_⟩,λ_=>rfl,λyK=> ?_⟩
   ·unfold evG;rw[hgd];dsimp only;rw[eslot,e3];rfl
   ·unfold clsOf;rw[hgd];exact ym _
def ZAN(ts:yL TD)(dst:yO Tmp)(d:TD):yL TD:=
 match dst with
 |some i=>ts.set i d
 |none=>ts
theorem ZER{L:Lk}(dst:yO Tmp)(d:TD):TD.ers L (ZAN ts dst d)=ZmP (TD.ers L ts) dst (d.er L):=by
 cases dst with
 |none=>rfl
 |some i=>simp only[ZAN,ZmP,ZN,ybp]
theorem ZAO(dst:yO Tmp)(d:TD):(ZAN ts dst d).length=ts.length:=by
 cases dst <;> simp[ZAN]
def ZLB(P:yg)(hi:HI)(specs:Sp P)(ops:Array Oper):yL Oper->yL TD->yL TEnt->(yL TD->yL TEnt->yL Hint->yO O)->yO O
 |[],all,H,K=>K all H []
 |o::r,all,H,K=>gT P hi specs ops o all all H λa d H' hs _=>ZLB P hi specs ops r (ZAN a o.dst d) H' λa' h' hs'=>K a' h' (hs++hs')
theorem ZAP{hi:HI}{specs:Sp P}{ops:Array Oper}(ok:SpOk specs):∀(l:yL Oper)(all:yL TD)(H:yL TEnt)(K:yL TD->yL TEnt->yL Hint->yO O),ZLB P hi specs ops l all H K=some out->
 ∃a h hs C,K a h hs=some out/\a.length=all.length/\AllP C/\∀yK,ZwD P ops l (TD.ers (lk H) all) (erH H) (hs++yK)=some (C,TD.ers (lk h) a,erH h,yK)
 |[],all,H,K,h=>⟨all,H,[],[],h,rfl,zP,λ_=>rfl⟩
 |o::r,all,H,K,h=>by
  unfold ZLB at h;obtain⟨a,d,H',hs,c,h1,h2⟩:=ZIn ok (λ_ _ _ _ _=>rfl) h;obtain⟨a',h',hs',C',k1,k0,k2,k3⟩:=ZAP ok r _ _ _ h1;obtain⟨C,g1,g2⟩:=h2.op;refine⟨a',h',_,C++C',k1,by rw[k0,ZAO,h2.len],Zq.2 ⟨g1,k2⟩,λyK=> ?_⟩;unfold ZwD;rw[yad,g2 (hs'++yK)];dsimp only;rw[<-h2.same, <-ZER,k3 yK]
end
end Go.Ev
end
section
namespace Go.Ev
section
variable{P:yg}{o:Oper}{ts all:yL TD}{H:yL TEnt}{O:Type}{out:O}
def Zmv(keep:yL Nat):Nat->yL TD->yL TD
 |_,[]=>[]
 |i,d::r=>(if keep.contains i then d else .junk)::Zmv keep (i+1) r
theorem Zst{L:Lk}(keep:yL Nat):∀(l:yL TD)(k:Nat),TD.ers L (Zmv keep k l)=ZQ keep k (TD.ers L l)
 |[],_=>rfl
 |d::r,k=>by
  rw[Zmv,TD.ers,TD.ers,ZQ,Zst keep r];split <;> rfl
theorem ZAQ(keep:yL Nat):∀(l:yL TD)(k t:Nat),keep.contains (k+t)=true->(Zmv keep k l).getD t .junk=l.getD t .junk
 |[],_,_,_=>rfl
 |d::r,k,0,h=>by
  have h':keep.contains k=true:=h
  simp only[Zmv,h',if_true,List.getD_cons_zero]
 |d::r,k,t+1,h=>by
  simp only[Zmv,List.getD_cons_succ];exact ZAQ keep r (k+1) t (by rw[show k+1+t=k+(t+1) by omega];exact h)
mutual
def Pl.sameB:Pl->Pl->Bool
 |.int k n,.int l m=>decide (k=l)&&decide (n=m)
 |.bool a,.bool b=>a==b
 |.str a,.str b=>decide (a=b)
 |.ptr0,.ptr0=>true
 |.fn0,.fn0=>true
 |.if0,.if0=>true
 |.map0,.map0=>true
 |.fnv f,.fnv g=>Nat.beq f g
 |.agg xs,.agg ys=>Pl.samesB xs ys
 |.arr n s xs,.arr m u ys=>Nat.beq n m&&Nat.beq s u&&Pl.samesB xs ys
 |.sl a s xs,.sl b u ys=>a==b&&Nat.beq s u&&Pl.samesB xs ys
 |.iface t x,.iface u y=>Nat.beq t u&&Pl.sameB x y
 |_,_=>false
def Pl.samesB:yL Pl->yL Pl->Bool
 |[],[]=>true
 |x::r,y::q=>Pl.sameB x y&&Pl.samesB r q
 |_,_=>false
end
mutual
theorem Pl.sameB_eq:∀(a b:Pl),Pl.sameB a b=true->a=b
 |.int k n,b,h=>by cases b <;> simp_all[Pl.sameB]
 |.bool k,b,h=>by cases b <;> simp_all[Pl.sameB]
 |.str k,b,h=>by cases b <;> simp_all[Pl.sameB]
 |.ptr0,b,h=>by cases b <;> simp_all[Pl.sameB]
 |.fn0,b,h=>by cases b <;> simp_all[Pl.sameB]
 |.if0,b,h=>by cases b <;> simp_all[Pl.sameB]
 |.map0,b,h=>by cases b <;> simp_all[Pl.sameB]
 |.fnv f,b,h=>by cases b <;> simp_all[Pl.sameB]
 |.agg xs,b,h=>by cases b <;> simp_all[Pl.sameB];exact Pl.samesB_eq _ _ h
 |.arr n s xs,b,h=>by cases b <;> simp_all[Pl.sameB];exact Pl.samesB_eq _ _ h.2
 |.sl n s xs,b,h=>by cases b <;> simp_all[Pl.sameB];exact Pl.samesB_eq _ _ h.2
 |.iface t x,b,h=>by cases b <;> simp_all[Pl.sameB];exact Pl.sameB_eq _ _ h.2
theorem Pl.samesB_eq:∀(a b:yL Pl),Pl.samesB a b=true->a=b
 |[],[],_=>rfl
 |[],_::_,h=>by cases h
 |_::_,[],h=>by cases h
 |x::r,y::q,h=>by
  simp only[Pl.samesB,yj] at h;rw[Pl.sameB_eq x y h.1,Pl.samesB_eq r q h.2]
end
def ZAR:yL Nat->yL Nat->Bool
 |[],[]=>true
 |x::r,y::q=>Nat.beq x y&&ZAR r q
 |_,_=>false
theorem Zsu:∀(a b:yL Nat),ZAR a b=true->a=b
 |[],[],_=>rfl
 |[],_::_,h=>by cases h
 |_::_,[],h=>by cases h
 |x::r,y::q,h=>by
  simp only[ZAR,yj] at h;rw[Nat.eq_of_beq_eq_true h.1,Zsu r q h.2]
mutual
def Dv.sameB:Dv->Dv->Bool
 |.p x,.p y=>Pl.sameB x y
 |.elem x,.elem y=>Pl.sameB x y
 |.ref i o l,.ref j q m=>Nat.beq i j&&Nat.beq o q&&ZAR l m
 |.own i a s xs,.own j b u ys=>Nat.beq i j&&a==b&&Nat.beq s u&&Pl.samesB xs ys
 |.view i o l a b c,.view i' o' l' a' b' c'=>Nat.beq i i'&&Nat.beq o o'&&ZAR l l'&&Nat.beq a a'&&Nat.beq b b'&&Nat.beq c c'
 |.agg xs,.agg ys=>Dv.samesB xs ys
 |.arr n s xs,.arr m u ys=>Nat.beq n m&&Nat.beq s u&&Dv.samesB xs ys
 |.fn f xs,.fn g ys=>Nat.beq f g&&Dv.samesB xs ys
 |.iface t x,.iface u y=>Nat.beq t u&&Dv.sameB x y
 |.tup xs,.tup ys=>Dv.samesB xs ys
 |.mp i,.mp j=>Nat.beq i j
 |.rv a b c d e,.rv a' b' c' d' e'=>Nat.beq a a'&&Nat.beq b b'&&Nat.beq c c'&&Nat.beq d d'&&Nat.beq e e'
 |.rref a b c l,.rref a' b' c' l'=>Nat.beq a a'&&Nat.beq b b'&&Nat.beq c c'&&ZAR l l'
 |.junk,.junk=>true
 |_,_=>false
def Dv.samesB:yL Dv->yL Dv->Bool
 |[],[]=>true
 |x::r,y::q=>Dv.sameB x y&&Dv.samesB r q
 |_,_=>false
end
theorem ZiA{a b:Nat}(h:Nat.beq a b=true):a=b:=Nat.eq_of_beq_eq_true h
mutual
theorem Dv.sameB_eq:∀(a b:Dv),Dv.sameB a b=true->a=b
 |.p x,b,h=>by
  cases b <;> simp only[Dv.sameB,yby] at h
  rw[Pl.sameB_eq _ _ h]
 |.elem x,b,h=>by
  cases b <;> simp only[Dv.sameB,yby] at h
  rw[Pl.sameB_eq _ _ h]
 |.ref i o l,b,h=>by
  cases b <;> simp only[Dv.sameB,yby,yj] at h
  rw[ZiA h.1.1,ZiA h.1.2,Zsu _ _ h.2]
 |.own i a s xs,b,h=>by
  cases b <;> simp only[Dv.sameB,yby,yj,yT] at h
  rw[ZiA h.1.1.1,h.1.1.2,ZiA h.1.2,Pl.samesB_eq _ _ h.2]
 |.view i o l a k c,b,h=>by
  cases b <;> simp only[Dv.sameB,yby,yj] at h
  rw[ZiA h.1.1.1.1.1,ZiA h.1.1.1.1.2,Zsu _ _ h.1.1.1.2,ZiA h.1.1.2,ZiA h.1.2,ZiA h.2]
 |.agg xs,b,h=>by
  cases b <;> simp only[Dv.sameB,yby] at h
  rw[Dv.samesB_eq _ _ h]
 |.arr n s xs,b,h=>by
  cases b <;> simp only[Dv.sameB,yby,yj] at h
  rw[ZiA h.1.1,ZiA h.1.2,Dv.samesB_eq _ _ h.2]
 |.fn f xs,b,h=>by
  cases b <;> simp only[Dv.sameB,yby,yj] at h
  rw[ZiA h.1,Dv.samesB_eq _ _ h.2]
 |.iface t x,b,h=>by
  cases b <;> simp only[Dv.sameB,yby,yj] at h
  rw[ZiA h.1,Dv.sameB_eq _ _ h.2]
 |.tup xs,b,h=>by
  cases b <;> simp only[Dv.sameB,yby] at h
  rw[Dv.samesB_eq _ _ h]
 |.mp i,b,h=>by
  cases b <;> simp only[Dv.sameB,yby] at h
  rw[ZiA h]
 |.rv a k c d e,b,h=>by
  cases b <;> simp only[Dv.sameB,yby,yj] at h
  rw[ZiA h.1.1.1.1,ZiA h.1.1.1.2,ZiA h.1.1.2,ZiA h.1.2,ZiA h.2]
 |.rref a k c l,b,h=>by
  cases b <;> simp only[Dv.sameB,yby,yj] at h
  rw[ZiA h.1.1.1,ZiA h.1.1.2,ZiA h.1.2,Zsu _ _ h.2]
 |.junk,b,h=>by
  cases b <;> simp only[Dv.sameB,yby] at h;rfl
theorem Dv.samesB_eq:∀(a b:yL Dv),Dv.samesB a b=true->a=b
 |[],[],_=>rfl
 |[],_::_,h=>by cases h
 |_::_,[],h=>by cases h
 |x::r,y::q,h=>by
  simp only[Dv.samesB,yj] at h;rw[Dv.sameB_eq x y h.1,Dv.samesB_eq r q h.2]
end
def Ent.sameB:yO Ent->yO Ent->Bool
 |some (.var d _),some (.var e _)=>Dv.sameB d e
 |_,_=>false
theorem Ent.sameB_rd{a b:yO Ent}(h:Ent.sameB a b=true):rdE a=rdE b:=by
 unfold Ent.sameB at h;split at h
 ·rw[Dv.sameB_eq _ _ h];rfl
 ·cases h
structure TR where
 cls:Nat
 rd:Option Nat
 tc:Option (List Nat)
 n:Nat
 push:Bool
 loc:Bool
 m:Nat
 sm:Nat->Bool
def ZIo(P:yg)(hi:HI)(specs:Sp P)(ops:Array Oper):yL Oper->yL TD->yL TEnt->(yL TD->yL TEnt->yL TR->yL Hint->yO O)->yO O
 |[],all,H,K=>K all H [] []
 |o::r,all,H,K=>gT P hi specs ops o (Zmv (looks ops o) 0 all) all H λa d H' hs c=>ZIo P hi specs ops r (ZAN a o.dst d) H' λa' h' rs hs'=>
   K a' h' (⟨c,ZKs P o (TD.ers (lk H) (Zmv (looks ops o) 0 all)),ZBu P o (TD.ers (lk H) (Zmv (looks ops o) 0 all)) hs,H.length,Zk7 o,ZrS o hs,H'.length,λid=>(c==3) || Ent.sameB ((erH H')[id]?) ((erH H)[id]?)⟩::rs) (hs++hs')
def RecOk(R:Rec)(r:TR):Prop:=R.cls<=r.cls/\R.rd=r.rd/\(∀l,r.tc=some l->R.tc=some l)/\R.H.length=r.n/\R.push=r.push/\(r.loc=true->R.loc=true)/\R.H'.length=r.m/\∀id,r.sm id=true->rdE (R.H'[id]?)=rdE (R.H[id]?)
inductive RecsOk:List Rec->List TR->Prop where
 |nil:RecsOk [] []
 |cons {R:Rec} {r:TR} {Rs:List Rec} {rs:List TR} (h:RecOk R r) (k:RecsOk Rs rs):RecsOk (R::Rs) (r::rs)
theorem ZGY{ts:yL Dv}{hs yK:yL Hint}{l:yL Nat}(h:Zgz P o ts hs=some l):Zgz P o ts (hs++yK)=some l:=by
 unfold Zgz at h ⊢;split at h <;> first|exact h|skip
 ·cases hs with
  |nil=>cases h
  |cons x r=>rw[yz];cases x <;> exact h
 split at h <;> first|exact h|skip
 all_goals
  split at h
  ·exact h
  ·cases h
theorem ZN9{ts:yL Dv}{hs yK:yL Hint}{l:yL Nat}(h:ZBu P o ts hs=some l):ZBu P o ts (hs++yK)=some l:=by
 unfold ZBu at h ⊢;split at h
 ·rename_i hg;rw[yW hg];exact ZGY h
 ·cases h
theorem ZLC{hs yK:yL Hint}(h:ZrS o hs=true):ZrS o (hs++yK)=true:=by
 unfold ZrS at h ⊢;rw[yj] at h ⊢;refine⟨h.1, ?_⟩;have h:=h.2;split at h
 ·split at h
  ·split at h
   ·exact h
   ·cases h
  ·split at h
   ·exact h
   ·cases h
  ·cases h
 ·cases h
theorem ZxA{hi:HI}{specs:Sp P}{ops:Array Oper}(ok:SpOk specs):∀(l:yL Oper)(all:yL TD)(H:yL TEnt)(K:yL TD->yL TEnt->yL TR->yL Hint->yO O),ZIo P hi specs ops l all H K=some out->
 ∃a h rs hs C,K a h rs hs=some out/\a.length=all.length/\AllP C/\∀yK,∃RS,evD P ops l (TD.ers (lk H) all) (erH H) (hs++yK)=some (C,RS,TD.ers (lk h) a,erH h,yK)/\RecsOk RS rs
 |[],all,H,K,h=>⟨all,H,[],[],[],h,rfl,zP,λ_=>⟨[],rfl,.nil⟩⟩
 |o::r,all,H,K,h=>by
  unfold ZIo at h
  have hgd:∀j want t,o.guard=some (j,want)->ZGX ops j=some t->(Zmv (looks ops o) 0 all).getD t .junk=all.getD t .junk:=by
   intro j want t hg hs;refine ZAQ _ _ _ _ ?_;rw[Nat.zero_add];unfold looks;rw[hg];dsimp only;rw[show(ops[j]?).bind (·.dst)=some t from hs]
   simp
  obtain⟨a,d,H',hs,c,h1,h2⟩:=ZIn ok hgd h;obtain⟨a',h',rs,hs',C',k1,k0,k2,k3⟩:=ZxA ok r _ _ _ h1;obtain⟨C,g1,g2⟩:=h2.op;refine⟨a',h',_,_,C++C',k1,by rw[k0,ZAO,h2.len],Zq.2 ⟨g1,k2⟩,λyK=> ?_⟩;obtain⟨RS,e1,e2⟩:=k3 yK;unfold evD;rw[<-Zst,yad,g2 (hs'++yK)];dsimp only;rw[<-h2.same, <-ZER,e1]
  refine⟨_,rfl,.cons ⟨h2.cls _,rfl,λl hl=> ?_,ZS _,rfl,λhl=>ZLC hl,ZS _,λid hs=>by
   have hs:(c==3 || Ent.sameB ((erH H')[id]?) ((erH H)[id]?))=true:=hs;rw[ycj] at hs;rcases hs with h5|h5
   ·rw[h2.sam (by simpa using h5)]
   ·exact Ent.sameB_rd h5⟩ e2⟩
  exact ZN9 hl
def ZIp(ops:Array Oper)(cls:yL Nat)(free comm:Nat->Nat->Bool):Bool:=
 let l:=ops.toList;let A:=ZKt l;let n:=l.length
 (cls.length==n)&&Zka l 0&&
 ((yv n).all λi=>match l[i]? with|some o=>A.getD i 0==Zk8 A i o|none=>true)&&
 ((yv n).all λi=>(yv n).all λj=>i==j || Zkb l i==none || !(Zkb l i==Zkb l j))&&
 ((yv n).all λi=>match l[i]? with
   |some o=>let k:=looks ops o
    (yv n).all λj=>match Zkb l j with
      |some t=>i==j || !(k.contains t) || (if j < i then(A.getD i 0).testBit j else(A.getD j 0).testBit i)
      |none=>true
   |none=>true)&&
 ((yv n).all λi=>cls.getD i 0==0 || (yv n).all λj=>i==j || decide (cls.getD j 0 < 2) || (if j < i then(A.getD i 0).testBit j else(A.getD j 0).testBit i) || (decide (cls.getD i 0<=1)&&free i j) || comm i j)
def ZLD(rs:yL TR)(i j:Nat):Bool:=
 match rs[i]?,rs[j]? with
 |some r,some q=>match r.rd with
  |some id=>decide (id < q.n)&&decide (id < r.n)&&((match q.tc with|some l=> !l.contains id|none=>false) || q.sm id)
  |none=>false
 |_,_=>false
def cT(rs:yL TR)(c:Nat)(r:TR):Bool:=r.loc || (r.push&&r.m==r.n+1&&(rs.take c).all λq=>decide (q.n<=r.n))
def cI(rs:yL TR):Nat:=match rs.findIdx? (λr=>r.loc&&r.cls==2) with
 |some c=>c
 |none=>(rs.findIdx? (λr=>r.push)).getD 0
def ZIq(rs:yL TR)(i j:Nat):Bool:=
 let c:=cI rs
 ((rs[c]?).map (cT rs c)).getD false&&((i==c&&decide (c < j)&&((rs[j]?).map (·.push)).getD false) || (j==c&&decide (c < i)&&((rs[i]?).map (·.push)).getD false))
theorem ZxB{RS:yL Rec}{rs:yL TR}(h:RecsOk RS rs):RS.length=rs.length:=by
 induction h with
 |nil=>rfl
 |cons _ _ ih=>simp[ih]
theorem ZnR{RS:yL Rec}{rs:yL TR}(h:RecsOk RS rs):∀{i:Nat}{r:TR},rs[i]? =some r->∃R,RS[i]? =some R/\RecOk R r:=by
 induction h with
 |nil=>intro i r h;simp at h
 |cons h k ih=>
  intro i r hi
  cases i with
  |zero=>cases hi;exact⟨_,rfl,h⟩
  |succ i=>exact ih hi
theorem ZJI{RS:yL Rec}{rs:yL TR}(h:RecsOk RS rs):∀{i:Nat}{R:Rec},RS[i]? =some R->∃r,rs[i]? =some r/\RecOk R r:=by
 induction h with
 |nil=>intro i r h;simp at h
 |cons h k ih=>
  intro i r hi
  cases i with
  |zero=>cases hi;exact⟨_,rfl,h⟩
  |succ i=>exact ih hi
theorem ZES{RS:yL Rec}{rs:yL TR}(h:RecsOk RS rs)(i:Nat):(RS.map (·.cls)).getD i 0<=(rs.map (·.cls)).getD i 0:=by
 simp only[ycx,yal]
 cases hi:rs[i]? with
 |none=>
  have:RS[i]? =none:=by rw[List.getElem?_eq_none_iff] at hi ⊢;rw[ZxB h];exact hi
  rw[this]
  exact ym _
 |some r=>
  obtain⟨R,e,k⟩:=ZnR h hi;rw[e];exact k.1
theorem ZOa{ops:Array Oper}{RS:yL Rec}{rs:yL TR}(h:RecsOk RS rs)(k:ZIp ops (rs.map (·.cls)) (ZLD rs) (ZIq rs)=true)(hn:rs.length=ops.size):ZBv ops RS=true:=by
 unfold ZIp at k;unfold ZBv;simp only[yj] at k ⊢;obtain⟨⟨⟨⟨⟨k1,k2⟩,k3⟩,k4⟩,k5⟩,k6⟩:=k;refine⟨⟨⟨⟨⟨?_,k2⟩,k3⟩,k4⟩,k5⟩, ?_⟩
 ·simpa[ZxB h] using k1
 ·have hcm:∃c,c∈yv (ops.toList.length+1)/\∀i j,ZIq rs i j=true->Zjk RS c i j=true:=by
   have hget:∀(k:Nat),((rs[k]?).map (·.push)).getD false=true->((RS[k]?).map (·.push)).getD false=true:=by
    intro k hk
    cases hr:rs[k]? with
    |none=>rw[hr] at hk;cases hk
    |some r=>
     obtain⟨R,e1,e2⟩:=ZnR h hr;rw[hr] at hk;rw[e1];show R.push=true;rw[e2.2.2.2.2.1];exact hk
   refine⟨if cI rs < rs.length then cI rs else 0, ?_,λi j hij=> ?_⟩
   ·rw[List.mem_range];split
    ·rename_i hlt;rw[hn] at hlt;have:ops.toList.length=ops.size:=by simp
     omega
    ·omega
   ·unfold ZIq at hij;dsimp only at hij;generalize cI rs=c at hij ⊢;rw[yj] at hij;obtain⟨h1,h2⟩:=hij
    cases hr:rs[c]? with
    |none=>rw[hr] at h1;cases h1
    |some r=>
     have hlt:=(yq.1 hr).1;rw[yW hlt];obtain⟨R,e1,e2⟩:=ZnR h hr;rw[hr] at h1;unfold Zjk;rw[yj];refine⟨?_, ?_⟩
     ·rw[e1];show cOk RS c R=true;have h1:cT rs c r=true:=h1;unfold cT at h1;unfold cOk;rw[ycj] at h1 ⊢;rcases h1 with h1|h1
      ·exact .inl (e2.2.2.2.2.2.1 h1)
      ·simp only[yj,yT,ybg,yP] at h1 ⊢;obtain⟨⟨b1,b2⟩,b3⟩:=h1;refine .inr ⟨⟨by rw[e2.2.2.2.2.1];exact b1,by rw[e2.2.2.2.2.2.2.1,e2.2.2.2.1];exact b2⟩,λq hq=> ?_⟩;obtain⟨k,hk⟩:=List.mem_iff_getElem?.1 hq;rw[List.getElem?_take] at hk;split at hk
       ·rename_i hkc;obtain⟨q2,f1,f2⟩:=ZJI h hk;rw[f2.2.2.2.1,e2.2.2.2.1];refine b3 q2 (List.mem_iff_getElem?.2 ⟨k, ?_⟩);rw[List.getElem?_take,yW hkc];exact f1
       ·cases hk
     ·simp only[ycj,yj] at h2 ⊢;rcases h2 with⟨⟨a1,a2⟩,a3⟩|⟨⟨a1,a2⟩,a3⟩
      ·exact .inl ⟨⟨a1,a2⟩,hget _ a3⟩
      ·exact .inr ⟨⟨a1,a2⟩,hget _ a3⟩
  obtain⟨c,hc1,hc2⟩:=hcm;rw[List.any_eq_true];refine⟨c,hc1, ?_⟩;rw[ybg] at k6 ⊢;intro i hi;have:=k6 i hi;have hc:=ZES h i;simp only[ycj] at this ⊢;rcases this with h0|h1
  ·left;have h0:(rs.map (·.cls)).getD i 0=0:=by simpa using h0
   have:(RS.map (·.cls)).getD i 0=0:=by omega
   simpa using this
  ·by_cases hz:(RS.map (·.cls)).getD i 0=0
   ·left;simpa using hz
   ·right;rw[ybg] at h1 ⊢;intro j hj;have h2:=h1 j hj;have hd:=ZES h j;simp only[ycj,yj,yP] at h2 ⊢;rcases h2 with(((h2|h2)|h2)|h2)|h2
    ·exact .inl (.inl (.inl (.inl h2)))
    ·refine .inl (.inl (.inl (.inr ?_)));have:(RS.map (·.cls)).getD j 0≠2:=by omega
     simpa using this
    ·exact .inl (.inl (.inr h2))
    ·refine .inl (.inr ⟨?_, ?_⟩)
     ·have:(RS.map (·.cls)).getD i 0=1:=by omega
      simpa using this
     ·have hf:=h2.2;unfold ZLD at hf;unfold ZnA;split at hf
      ·rename_i r q hr hq;obtain⟨R,e1,e2⟩:=ZnR h hr;obtain⟨Q,e3,e4⟩:=ZnR h hq;rw[e1,e3];dsimp only;split at hf
       ·rename_i id hrd;rw[e2.2.1,hrd];dsimp only;rw[e4.2.2.2.1,e2.2.2.2.1];rw[yj] at hf ⊢;refine⟨hf.1, ?_⟩;rw[ycj] at hf ⊢;rcases hf.2 with h5|h5
        ·left;split at h5
         ·rename_i l htc;rw[e4.2.2.1 l htc];exact h5
         ·cases h5
        ·right;exact@decide_eq_true _ (Classical.propDecidable _) (e4.2.2.2.2.2.2.2 id h5)
       ·cases hf
      ·cases hf
    ·exact .inr (hc2 i j h2)
theorem ZGZ{A B:yL Ent}(hl:A.length=B.length)(h:∀(i:Nat)(a b:Ent),A[i]? =some a->B[i]? =some b->WkE a b):WkH A B:=by
 induction A generalizing B with
 |nil=>cases B with
  |nil=>exact .nil
  |cons _ _=>simp at hl
 |cons a A ih=>cases B with
  |nil=>simp at hl
  |cons b B=>exact .cons (h 0 a b rfl rfl) (ih (by simpa using hl) λi a b h1 h2=>h (i+1) a b h1 h2)
def ZLE:TEnt->TEnt
 |.var d _=>.var d false
 |e=>e
def ZtQ(ids:yL Nat)(H:yL TEnt):yL TEnt:=(yv H.length).zipWith (λi e=>if ids.contains i then ZLE e else e) H
theorem ZOb(e:TEnt):lkE (some (ZLE e))=lkE (some e):=by cases e <;> rfl
theorem ZxC(ids:yL Nat)(H:yL TEnt)(i:Nat):(ZtQ ids H)[i]? =(H[i]?).map λe=>if ids.contains i then ZLE e else e:=by
 unfold ZtQ;rw[List.getElem?_zipWith];rcases Nat.lt_or_ge i H.length with h|h
 ·rw[List.getElem?_range h,yab h];rfl
 ·rw[yaq (by simpa using h),yaq h];rfl
theorem ZAS(ids:yL Nat)(H:yL TEnt):lk (ZtQ ids H)=lk H:=by
 funext i;unfold lk;rw[ZxC]
 cases H[i]? with
 |none=>rfl
 |some e=>
  show lkE (some (if ids.contains i=true then ZLE e else e))=_
  split
  ·exact ZOb e
  ·rfl
theorem ZJJ(ids:yL Nat)(H:yL TEnt):WkH (erH H) (erH (ZtQ ids H)):=by
 refine ZGZ (by rw[ZS,ZS];unfold ZtQ;simp) λi a b h1 h2=> ?_;unfold erH at h1 h2;rw[yal] at h1 h2;rw[ZAS,ZxC] at h2
 cases he:H[i]? with
 |none=>rw[he] at h1;cases h1
 |some e=>
  rw[he] at h1 h2;cases h1;cases h2;show WkE (e.er (lk H)) (TEnt.er (lk H) (if ids.contains i=true then ZLE e else e))
  split
  ·cases e <;> first|exact .refl _|exact .frz
  ·exact .refl _
theorem ZLF{c:Code}{ts ts1:yL Dv}{H0 H1 H2:yL Ent}{ex:Ex}(h:WkH H0 H1)(r:Vt P c ts H1 ex ts1 H2):Vt P c ts H0 ex ts1 H2:=by
 intro σ a ok hH yM;obtain⟨to,ok2⟩:=ZrV ok (H':=H1) (by rw[hH];exact h);refine wp_mono (r { σ with H:=H1} a ok2 rfl (yM.to to.leaf)) ?_;rintro e a' w' ⟨rfl,σ2,q1,q2,q3,q4,q5⟩;exact⟨rfl,σ2,q1,q2,to.trans q3,q4,q5⟩
def ZLG(ops:yL Oper)(all:yL TD):Nat->Tmp->yO Nat
 |0,_=>none
 |n+1,x=>match ops.find? λo=>o.dst==some x with
  |some o=>match o.op with
   |.fieldAddr _ (.tmp y) _=>ZLG ops all n y
   |_=>none
  |none=>match all.getD x .junk with
   |.ref id _=>some id
   |_=>none
def ZRg(hi:HI)(ops:yL Oper)(all:yL TD)(o:Oper):yO Nat:=
 match o.op with
 |.slice _ (.tmp x) _ _ none=>if Zss hi.frz o.dst then ZLG ops all 4 x else none
 |_=>none
def ZxD(hi:HI)(ops:Array Oper)(all:yL TD)(H:yL TEnt):yL TEnt:=
 match hi.frz with
 |[]=>H
 |_=>match ops.toList.filterMap (ZRg hi ops.toList all) with
  |[]=>H
  |ids=>ZtQ ids H
theorem ZJK(hi:HI)(ops:Array Oper)(all:yL TD)(H:yL TEnt):WkH (erH H) (erH (ZxD hi ops all H))/\lk (ZxD hi ops all H)=lk H:=by
 unfold ZxD;split
 ·exact⟨WkH.refl _,rfl⟩
 ·split
  ·exact⟨WkH.refl _,rfl⟩
  ·exact⟨ZJJ _ _,ZAS _ _⟩
def ZP8(P:yg)(hi:HI)(specs:Sp P)(ops:Array Oper)(all:yL TD)(H:yL TEnt)(K:yL TD->yL TEnt->yO O):yO O:=
 if P.follows .mixedOrders then ZIo P hi specs ops ops.toList all (ZxD hi ops all H) λa h rs _=>if ZIp ops (rs.map (·.cls)) (ZLD rs) (ZIq rs)=true then K a h else none else none
theorem ZJL{hi:HI}{specs:Sp P}{ops:Array Oper}{K:yL TD->yL TEnt->yO O}(ok:SpOk specs)(h:ZP8 P hi specs ops all H K=some out):∃a h,K a h=some out/\a.length=all.length/\∀id,Vt P (.region id ops true) (TD.ers (lk H) all) (erH H) .normal (TD.ers (lk h) a) (erH h):=by
 unfold ZP8 at h;split at h
 ·rename_i hf;obtain⟨w1,w2⟩:=ZJK hi ops all H;generalize ZxD hi ops all H=H0 at h w1 w2;obtain⟨a,h',rs,hs,C,k1,k0,k2,k3⟩:=ZxA ok _ _ _ _ h;obtain⟨k4,k5⟩:=Za k1;refine⟨a,h',k5,k0,λid=> ?_⟩;obtain⟨RS,e1,e2⟩:=k3 [];rw[<-w2];refine ZLF w1 (Zxc (hs:=hs) (hs':=[]) (C:=C) ?_ k2);simp only[ev,if_true];unfold ZBw;rw[yW hf];rw[yaz] at e1;rw[e1];dsimp only;rw[yW (ZOa e2 k4 (by have:=ZxB e2;unfold ZIp at k4;simp only[yj] at k4;simpa using k4.1.1.1.1.1))];rfl
 ·cases h
theorem ZJM{hi:HI}{specs:Sp P}{ops:Array Oper}{K:yL TD->yL TEnt->yL Hint->yO O}(ok:SpOk specs)(h:ZLB P hi specs ops ops.toList all H K=some out):∃a h hs,K a h hs=some out/\a.length=all.length/\∀id,Vt P (.region id ops false) (TD.ers (lk H) all) (erH H) .normal (TD.ers (lk h) a) (erH h):=by
 obtain⟨a,h',hs,C,k1,k0,k2,k3⟩:=ZAP ok _ _ _ _ h;refine⟨a,h',hs,k1,k0,λid=> ?_⟩;refine Zxc (hs:=hs) (hs':=[]) (C:=C) ?_ k2;have:=k3 [];rw[yaz] at this;simp only[ev,yby,if_false,this];rfl
end
end Go.Ev
end
section
namespace Go.Ev
def V0(H H':yL Ent):Prop:=∀σ:Sg,Ok σ->σ.H=H->∃σ':Sg,σ'.w=σ.w/\σ'.H=H'/\To σ σ'/\Ok σ'
theorem V0.refl(H:yL Ent):V0 H H:=λσ ok h=>⟨σ,rfl,h,To.refl σ,ok⟩
theorem V0.trans{A B C:yL Ent}(h:V0 A B)(k:V0 B C):V0 A C:=λσ ok e=>by
 obtain⟨σ1,a1,a2,a3,a4⟩:=h σ ok e;obtain⟨σ2,b1,b2,b3,b4⟩:=k σ1 a4 a2;exact⟨σ2,b1.trans a1,b2,a3.trans b3,b4⟩
theorem ZLH{H H':yL Ent}(h:WkH H H'):V0 H H':=λσ ok e=>by
 subst e;obtain⟨to,ok'⟩:=ZrV ok h;exact⟨{ σ with H:=H'},rfl,rfl,to,ok'⟩
theorem ZOc{P:yg}{c:Code}{ts ts1 ts2:yL Dv}{H H1 H2:yL Ent}{ex:Ex}(h:V0 H H1/\∀(σ:Sg)(a:Act),RepT σ ts a->RepT σ ts1 a)(r:Vt P c ts1 H1 ex ts2 H2):Vt P c ts H ex ts2 H2:=by
 intro σ a ok hH yM;obtain⟨σ1,e1,e2,e3,e4⟩:=h.1 σ ok hH;have:=r σ1 a e4 e2 (h.2 _ _ (yM.to e3.leaf));rw[e1] at this;refine wp_mono this ?_;rintro e' a' w' ⟨rfl,σ2,q1,q2,q3,q4,q5⟩;exact⟨rfl,σ2,q1,q2,e3.trans q3,q4,q5⟩
theorem ZP9{H:yL Ent}{j:Nat}{x x' y:Ent}(hj:H[j]? =some x)
 (hy:∀σ:Sg,entOk σ none y)
 (hvar:(∃d st,x=.var d st)->∃d st,x'=.var d st) (hmap:(∃t kvs,x=.map t kvs)->∃t kvs,x'=.map t kvs) (hlog:∀s e xs,x≠ .log s e xs)
 (hunl:∀o,x.unlocked o->x'.unlocked o)
 (hrow:∀v s st e d,x=.row v s st e d->∃st' d',x'=.row v s st' e d')
 (hent:∀(σ:Sg)(mi:yO Nat),σ.H[H.length]? =some y->σ.m[H.length]? =some none->entOk σ mi x->entOk σ mi x'):V0 H ((H++[y]).set j x'):=by
 intro σ ok hH;subst hH;have hjl:j < σ.H.length:=(yq.1 hj).1;obtain⟨to1,ok1⟩:=VE (σ':={ σ with m:=σ.m++[none],H:=σ.H++[y]}) ok rfl rfl rfl rfl (World.grownBy.refl σ.w none) (.inl rfl) (λ_=>hy _);obtain⟨mi,hm⟩:∃mi,σ.m[j]? =some mi:=⟨_,yab (by rw[ok.len];exact hjl)⟩;let σ1:Sg:={ σ with m:=σ.m++[none],H:=σ.H++[y]};let σ2:Sg:={ σ1 with m:=σ1.m.set j mi,H:=σ1.H.set j x'}
 have hH1:σ1.H[j]? =some x:=by
  show(σ.H++[y])[j]? =_;rw[yar hjl];exact hj
 have hm1:σ1.m[j]? =some mi:=by
  show(σ.m++[none])[j]? =_;rw[yar (by rw[ok.len];exact hjl)];exact hm
 have hx:=ok1.ent j x mi hH1 hm1
 obtain⟨to2,ok2⟩:=Wp (σ':=σ2) (mi:=mi) (mi':=mi) ok1 hH1 hm1 rfl rfl rfl rfl rfl rfl rfl (ym _)
  (λ_ _ _=>rfl) (λ_ _ _ _ _ h=>h) (λo _ hu=>hunl o hu) (.inl rfl) (λq=>⟨rfl,hvar q⟩) (λq=>⟨rfl,hmap q⟩) (λs e xs q=>absurd q (hlog s e xs))
  (λleaf=>by
    refine hent σ2 mi ?_ ?_ (Zd3 leaf (λb _=>rfl) hx)
    ·show(σ1.H.set j _)[σ.H.length]? =_;rw[ybv,yX (by omega)];simp[σ1]
    ·show(σ1.m.set j _)[σ.H.length]? =_;rw[ybv,yX (by omega)];show(σ.m++[none])[σ.H.length]? =_;rw[yat (by rw[ok.len];exact ym _),ok.len];simp)
  (λv s st e d q=>by
    obtain⟨st',d',q'⟩:=hrow v s st e d q;exact⟨v,st',d',q',ym _,λ_=>⟨rfl,λb cur _ hc=>⟨cur,hc,rfl⟩⟩⟩)
 exact⟨σ2,rfl,rfl,to1.trans to2,ok2⟩
theorem ZJN{σ:Sg}{s:Nat}{a:yL Value}(h:yH σ (.p (.sl (some false) s [])) a):a=[.slice none 0 0]:=by
 simp only[yH,repC] at h;obtain⟨_,A,c,rfl,w1,w2,w3,w4,w5⟩:=h
 have hA:A=none:=by
  have:=w3 false rfl
  cases A with
  |none=>rfl
  |some _=>cases this
 subst hA;have hc:=w4 rfl;subst hc;rfl
theorem ZOd{H:yL Ent}{j s:Nat}{e:yc}{d d':Dv}{st:Bool}{yQ:yL Nat}(hj:H[j]? =some (.var d st))(hg:X7 d yQ s (.rv H.length 0 s 0 0)=some d'):
 V0 H ((H++[Ent.row 0 s true e (.p (.arr 0 s []))]).set j (.var d' st)):=by
 have hsz:=ZgE yQ d d' s _ rfl hg;refine ZP9 hj (λσ=>⟨0,by simp[rowN],.inl ⟨rfl,rfl⟩⟩) (λ_=>⟨_,_,rfl⟩) (λ⟨_,_,q⟩=>by cases q) (λ_ _ _ q=>by cases q) (λo hu=>hu) (λ_ _ _ _ _ q=>by cases q) ?_;rintro σ mi h1 h2 ⟨b,cs,t,rfl,q2,q3,q4⟩;refine⟨b,cs,t,rfl,q2, ?_,by rw[hsz];exact q4⟩;rw[hsz];refine ZiP yQ d d' s _ (λa ha=> ?_) hg _ q3;have:=ZJN ha;subst this;simp only[yH];exact⟨none,0,rfl,ym _,by simp[maxLen],λ_=>rfl,λh=>absurd h (Nat.lt_irrefl 0),0,s,true,e,_,h1,ym _,λ_=>⟨rfl,.inl ⟨h2,rfl,rfl⟩⟩⟩
theorem ZOe{H:yL Ent}{j:Nat}{d d':Dv}{st:Bool}(hj:H[j]? =some (.var d st))(hsz:d'.size=d.size)(hd:∀σ:Sg,Ok σ->σ.H=H->∀us,yH σ d us->yH σ d' us):V0 H (H.set j (.var d' st)):=by
 intro σ ok hH;subst hH;have hjl:j < σ.H.length:=(yq.1 hj).1;obtain⟨mi,hm⟩:∃mi,σ.m[j]? =some mi:=⟨_,yab (by rw[ok.len];exact hjl)⟩;let σ2:Sg:={ σ with m:=σ.m.set j mi,H:=σ.H.set j (.var d' st)};obtain⟨b,cs,t,rfl,q2,q3,q4⟩:=ok.ent j _ mi hj hm;have q5:=hd σ ok rfl _ q3
 obtain⟨to2,ok2⟩:=Wp (σ':=σ2) (mi:=some b) (mi':=some b) ok hj hm rfl rfl rfl rfl rfl rfl rfl (ym _)
  (λ_ _ _=>rfl) (λ_ _ _ _ _ h=>h) (λo _ hu=>hu) (.inl rfl) (λq=>⟨rfl,_,_,rfl⟩) (λ⟨_,_,q⟩=>by cases q) (λs e xs q=>by cases q)
  (λleaf=>⟨b,cs,t,rfl,q2,by rw[hsz];exact Yh leaf _ _ q5,by rw[hsz];exact q4⟩)
  (λv s st e d q=>by cases q)
 exact⟨σ2,rfl,rfl,to2,ok2⟩
inductive GOp where
 |done (t:Tmp)
 |fresh (t:Tmp) (i:Nat)
 |rowt (t:Tmp) (yQ:List Nat) (T:Ty) (e:yc)
 |freshS (t:Tmp)
 |freshV (t:Tmp)
 |freshDone (t:Tmp) (i:Nat)
 |any (t:Tmp) (i:Nat) (T:Ty)
 |melt (t:Tmp)
 |split (t:Tmp) (ks:List Nat)
 |nn (t:Tmp)
def ZR3:TEnt->Bool
 |.rowN _ _ _ true _ _ _=>true
 |_=>false
section
variable{O:Type}{out:O}
abbrev Kh(O:Type):=yL TD->yL TEnt->yO O
def ZR4(t:Tmp)(yQ:yL Nat)(T:Ty)(e:yc)(np:yL Nat)(a:yL TD)(h:yL TEnt)(K:Kh O):yO O:=
 match a[t]? with
 |some (.ref id [])=>match h[id]? with
  |some (.var d true)=>(Zlo T (.rw h.length) yQ d).bind λd'=>if(TD.frees h.length a&&h.all (TEnt.free h.length))=true then K a ((h++[TEnt.rowN T np [] true e [] []]).set id (.var d' true)) else none
  |_=>none
 |_=>none
def ZG0(t:Tmp)(yQ:yL Nat)(T:Ty)(e:yc)(a:yL TD)(h:yL TEnt)(K:Kh O):yO O:=
 match a[t]? with
 |some (.ref id [])=>match h[id]? with
  |some (.var d true)=>(Zlo T (.rw h.length) yQ d).bind λd'=>if(TD.frees h.length a&&h.all (TEnt.free h.length))=true then K a ((h++[TEnt.rowT T [] true e []]).set id (.var d' true)) else none
  |_=>none
 |_=>none
def ZET(h:yL TEnt):TD->yO (TD×yL Nat)
 |.rw j=>match h[j]? with
  |some (.rowN T _ _ _ _ pre [])=>some (.p (.sl none T pre),[j])
  |some (.rowT T _ _ _ l)=>some (.p (.sl none T l),[j])
  |_=>none
 |d=>some (d,[])
def ZLI(h:yL TEnt):TD->(TD->yL Nat->yO O)->yO O
 |.rw j,K=>match h[j]? with
  |some (.rowN T _ _ _ _ pre post)=>if post.isEmpty=true then K (.p (.sl none T pre)) [j] else none
  |some (.rowT T _ _ _ l)=>K (.p (.sl none T l)) [j]
  |_=>none
 |d,K=>K d []
theorem ZG1{h:yL TEnt}{d:TD}{K:TD->yL Nat->yO O}(k:ZLI h d K=some out):∃q,ZET h d=some q/\K q.1 q.2=some out:=by
 unfold ZLI at k;unfold ZET;split at k
 ·rename_i j;dsimp only;split at k
  ·rename_i T np v st e pre post hd;rw[hd];obtain⟨h1,k⟩:=Za k
   cases post with
   |nil=>exact⟨_,rfl,k⟩
   |cons _ _=>cases h1
  ·rename_i T v st e l hd;rw[hd];exact⟨_,rfl,k⟩
  ·cases k
 ·rename_i hne;refine⟨(d,[]), ?_,k⟩;cases d <;> first|rfl|exact absurd rfl (hne _)
def ZG2(h:yL TEnt):yL TD->(yL TD->yL Nat->yO O)->yO O
 |[],K=>K [] []
 |d::r,K=>ZLI h d λx l=>ZG2 h r λy m=>K (x::y) (l++m)
def ZxE(h:yL TEnt):yL TD->yO (yL TD×yL Nat)
 |[]=>some ([],[])
 |d::r=>match ZET h d,ZxE h r with
  |some q,some w=>some (q.1::w.1,q.2++w.2)
  |_,_=>none
theorem Zu3{h:yL TEnt}:∀{ds:yL TD}{K:yL TD->yL Nat->yO O},ZG2 h ds K=some out->∃q,ZxE h ds=some q/\K q.1 q.2=some out
 |[],K,k=>⟨_,rfl,k⟩
 |d::r,K,k=>by
  obtain⟨q,h1,k⟩:=ZG1 k;obtain⟨w,h2,k⟩:=Zu3 k;exact⟨(q.1::w.1,q.2++w.2),by simp only[ZxE,h1,h2],k⟩
def ZnS:TEnt->TEnt
 |.rowN T np v _ e a b=>.rowN T np v false e a b
 |.rowT t v _ e l=>.rowT t v false e l
 |e=>e
def Zd8(ids:yL Nat)(H:yL TEnt):yL TEnt:=(yv H.length).zipWith (λi e=>if ids.contains i then ZnS e else e) H
def ZxF(t:Tmp)(a:yL TD)(h:yL TEnt)(K:Kh O):yO O:=
 match a[t]? with
 |some (.ref id [])=>match h[id]? with
  |some (.var (.agg ds) st)=>ZG2 h ds λx l=>K a ((Zd8 l h).set id (.var (.agg x) st))
  |_=>none
 |_=>none
def Zwv(t:Tmp)(i:Nat)(a:yL TD)(h:yL TEnt)(K:Kh O):yO O:=
 match a[t]? with
 |some (.ref j [])=>match h[j]? with
  |some (.var (.agg ds) st)=>match ds[i]? with
   |some (.rv id v s 0 n)=>match h[id]? with
    |some (.rowT T w _ _ l)=>if(decide (v=w.length)&&(decide (s=T.size)&&decide (n=l.length)))=true then K a (h.set j (.var (.agg (ds.set i (.rw id))) st)) else none
    |_=>none
   |_=>none
  |_=>none
 |_=>none
def ZxG(t:Tmp)(a:yL TD)(h:yL TEnt)(K:Kh O):yO O:=
 match a[t]? with
 |some (.rv id v s 0 n)=>match h[id]? with
  |some (.rowT T w _ _ l)=>if(decide (v=w.length)&&(decide (s=T.size)&&decide (n=l.length)))=true then K (a.set t (.rw id)) h else none
  |_=>none
 |_=>none
def ZxH(t:Tmp)(a:yL TD)(h:yL TEnt)(K:Kh O):yO O:=
 match a[t]? with
 |some (.ref j [])=>match h[j]? with
  |some (.var (.rv id v s 0 n) st)=>match h[id]? with
   |some (.rowT T w _ _ l)=>if(decide (v=w.length)&&(decide (s=T.size)&&decide (n=l.length)))=true then K a (h.set j (.var (.rw id) st)) else none
   |_=>none
  |_=>none
 |_=>none
def ZLJ(t:Tmp)(i:Nat)(T:Ty)(a:yL TD)(h:yL TEnt)(K:Kh O):yO O:=
 match a[t]? with
 |some (.ref j [])=>match h[j]? with
  |some (.var (.agg ds) st)=>match ds[i]? with
   |some (.p x)=>(TP.to ZnN x T).bind λy=>K a (h.set j (.var (.agg (ds.set i (.p (.v T y)))) st))
   |_=>none
  |_=>none
 |_=>none
def ZG3(t:Tmp)(a:yL TD)(h:yL TEnt)(K:Kh O):yO O:=
 match a[t]? with
 |some (.ref j [])=>match h[j]? with
  |some (.var (.p (.arr n s xs)) st)=>K a (h.set j (.var (.arr n s (xs.map TD.p)) st))
  |_=>K a h
 |_=>K a h
def ZCs(z:Int)(t:Tmp)(a:yL TD)(h:yL TEnt)(K:Kh O):yL Nat->yO O
 |[]=>none
 |n::r=>if(z==(n:Int))=true then K (a.set t (.p (.v (.int .i64) (n:Int)))) h else ZCs z t a h K r
def ZCt(t:Tmp)(ks:yL Nat)(a:yL TD)(h:yL TEnt)(K:Kh O):yO O:=
 match a.getD t .junk with
 |.p (.v (.int .i64) z)=>ZCs z t a h K ks
 |_=>none
def ZQa(t:Tmp)(a:yL TD)(h:yL TEnt)(K:Kh O):yO O:=
 match a.getD t .junk with
 |.ref _ _=>K a h
 |_=>none
def ghT:GOp->yL TD->yL TEnt->Kh O->yO O
 |.done t,a,h,K=>ZxF t a h K
 |.fresh t i,a,h,K=>Zwv t i a h K
 |.rowt t yQ T e,a,h,K=>ZG0 t yQ T e a h K
 |.freshS t,a,h,K=>ZxG t a h K
 |.freshV t,a,h,K=>ZxH t a h K
 |.freshDone t i,a,h,K=>Zwv t i a h λa h=>ZxF t a h K
 |.any t i T,a,h,K=>ZLJ t i T a h K
 |.melt t,a,h,K=>ZG3 t a h K
 |.split t ks,a,h,K=>ZCt t ks a h K
 |.nn t,a,h,K=>ZQa t a h K
def ghO(g:yO GOp)(a:yL TD)(h:yL TEnt)(K:Kh O):yO O:=
 match g with
 |none=>K a h
 |some g=>ghT g a h K
theorem ZOf{H:yL TEnt}{e:TEnt}(h:H.all (TEnt.free H.length)=true):erH (H++[e])=erH H++[e.er (lk (H++[e]))]:=by
 unfold erH;rw[yas];congr 1;refine ycn λx hx=> ?_;have hf:=ybg.1 h x hx;exact(ZEH (λid t hn=>ZeU id t hn) x hf).symm
theorem ZOg{H:yL TEnt}{e:TEnt}{a:yL TD}(h:TD.frees H.length a=true):TD.ers (lk (H++[e])) a=TD.ers (lk H) a:=(ers_free (λid t hn=>ZeU id t hn) a h).symm
theorem ZEU{t:Tmp}{yQ:yL Nat}{T:Ty}{e:yc}{a:yL TD}{h:yL TEnt}{K:Kh O}(k:ZG0 t yQ T e a h K=some out):
 ∃a' h',K a' h'=some out/\a'.length=a.length/\V0 (erH h) (erH h')/\∀(σ:Sg)(act:Act),RepT σ (TD.ers (lk h) a) act->RepT σ (TD.ers (lk h') a') act:=by
 unfold ZG0 at k;split at k
 ·rename_i id hid;split at k
  ·rename_i d hd;obtain⟨d',h1,k⟩:=yf.1 k;obtain⟨h2,k⟩:=Za k;rw[yj] at h2;have hlt:id < h.length:=(yq.1 hd).1;have hd':(h++[TEnt.rowT T [] true e []])[id]? =some (.var d true):=by rw[yar hlt];exact hd
   have hL:lk ((h++[TEnt.rowT T [] true e []]).set id (.var d' true))=lk (h++[TEnt.rowT T [] true e []]):=Zas hd' rfl rfl;refine⟨_,_,k,rfl, ?_,λσ act r=> ?_⟩
   ·have e1:erH ((h++[TEnt.rowT T [] true e []]).set id (.var d' true))=(erH h++[Ent.row 0 T.size true e (.p (.arr 0 T.size []))]).set id (.var (d'.er (lk (h++[TEnt.rowT T [] true e []]))) true):=by
     rw[Vn hL,ZOf h2.2];rfl
    rw[e1];have hj:(erH h)[id]? =some (.var (d.er (lk h)) true):=by rw[Ym hd];rfl
    refine ZOd (yQ:=yQ) hj ?_;have e2:=Zps (L:=lk (h++[TEnt.rowT T [] true e []])) yQ d d' h1;have e3:d.er (lk (h++[TEnt.rowT T [] true e []]))=d.er (lk h):=(ZgH (λid t hn=>ZeU id t hn) d (ybg.1 h2.2 _ (List.mem_of_getElem? hd))).symm;rw[e3,(Zdf (T:=T) (v:=[]) (l:=[]) (List.getElem?_concat_length ..)).1] at e2;rw[ZS];exact e2
   ·rw[hL,ZOg h2.1];exact r
  ·cases k
 ·cases k
theorem ZLK(e:TEnt):lkE (some (ZnS e))=lkE (some e):=by cases e <;> rfl
theorem Zlp(ids:yL Nat)(H:yL TEnt)(i:Nat):(Zd8 ids H)[i]? =(H[i]?).map λe=>if ids.contains i then ZnS e else e:=by
 unfold Zd8;rw[List.getElem?_zipWith];rcases Nat.lt_or_ge i H.length with h|h
 ·rw[List.getElem?_range h,yab h];rfl
 ·rw[yaq (by simpa using h),yaq h];rfl
theorem ZAT(ids:yL Nat)(H:yL TEnt):lk (Zd8 ids H)=lk H:=by
 funext i;unfold lk;rw[Zlp]
 cases H[i]? with
 |none=>rfl
 |some e=>
  show lkE (some (if ids.contains i=true then ZnS e else e))=_
  split
  ·exact ZLK e
  ·rfl
theorem ZJO(ids:yL Nat)(H:yL TEnt):WkH (erH H) (erH (Zd8 ids H)):=by
 refine ZGZ (by rw[ZS,ZS];unfold Zd8;simp) λi a b h1 h2=> ?_;unfold erH at h1 h2;rw[yal] at h1 h2;rw[ZAT,Zlp] at h2
 cases he:H[i]? with
 |none=>rw[he] at h1;cases h1
 |some e=>
  rw[he] at h1 h2;cases h1;cases h2;show WkE (e.er (lk H)) (TEnt.er (lk H) (if ids.contains i=true then ZnS e else e))
  split
  ·cases e <;> first|exact .refl _|exact .lock
  ·exact .refl _
theorem ZLL{h H:yL TEnt}{d:TD}{q:TD×yL Nat}(hq:ZET h d=some q)(hL:lk H=lk h)(hl:∀j,j∈q.2->∀e,h[j]? =some e->H[j]? =some (ZnS e)):
 (q.1.er (lk H)).size=(d.er (lk H)).size/\∀σ:Sg,Ok σ->σ.H=erH H->∀us,yH σ (d.er (lk H)) us->yH σ (q.1.er (lk H)) us:=by
 have yS:∀x:TD,(q.1.er (lk H)).size=(q.1.er (lk H)).size/\∀σ:Sg,Ok σ->σ.H=erH H->∀us,yH σ (q.1.er (lk H)) us->yH σ (q.1.er (lk H)) us:=λ_=>⟨rfl,λ_ _ _ _ r=>r⟩
 have row:∀(j:Nat)(v:Nat)(s:Nat)(e:yc)(xs:yL Pl)(T:Ty)(l:yL T.den),(TD.rw j).er (lk H)=.rv j v s 0 xs.length->(erH H)[j]? =some (.row v s false e (.p (.arr xs.length s xs)))->s=T.size->xs=l.map T.enc->
  ((TD.p (.sl none T l)).er (lk H)).size=((TD.rw j).er (lk H)).size/\∀σ:Sg,Ok σ->σ.H=erH H->∀us,yH σ ((TD.rw j).er (lk H)) us->yH σ ((TD.p (.sl none T l)).er (lk H)) us:=by
  intro j v s e xs T l e1 e2 e3 e4;subst e3;rw[e1];refine⟨rfl,λσ ok hH us r=> ?_⟩;have dr:=DeepR.rvp (H:=σ.H) (lo:=0) (n:=xs.length) (by rw[hH];exact e2) (by omega);rw[List.drop_zero,yao] at dr;have:=Zxf ok dr us r;rw[TD.er,TP.pe, <-e4];simpa[yH] using this
 unfold ZET at hq;split at hq
 ·rename_i j;split at hq
  ·rename_i T np v st e pre hd;cases hq;have hH:=hl j (yaw ..) _ hd;have hr:=ZN0 (q:=(v.length,T.size,pre.length+0)) (x:=ZnS (.rowN T np v st e pre [])) hH rfl;refine row j v.length T.size e (pre.map T.enc) T pre (by rw[hr.1,yy];rfl) ?_ rfl rfl;rw[Ym hH,yy];simp only[ZnS,TEnt.er,yce,yaz,yco,ybw]
  ·rename_i T v st e l hd;cases hq;have hH:=hl j (yaw ..) _ hd;have hr:=Zdf (T:=T) (v:=v) (st:=false) (e:=e) (l:=l) hH;refine row j v.length T.size e (l.map T.enc) T l (by rw[hr.1,yy]) ?_ rfl rfl;rw[Ym hH,yy];rfl
  ·cases hq
 ·cases hq;exact yS d
theorem ZAU{h H:yL TEnt}:∀{ds:yL TD}{q:yL TD×yL Nat},ZxE h ds=some q->lk H=lk h->(∀j,j∈q.2->∀e,h[j]? =some e->H[j]? =some (ZnS e))->
 Dv.sizes (TD.ers (lk H) q.1)=Dv.sizes (TD.ers (lk H) ds)/\∀σ:Sg,Ok σ->σ.H=erH H->∀us,repDs σ (TD.ers (lk H) ds) us->repDs σ (TD.ers (lk H) q.1) us
 |[],q,hq,hL,hl=>by cases hq;exact⟨rfl,λ_ _ _ _ r=>r⟩
 |d::r,q,hq,hL,hl=>by
  simp only[ZxE] at hq;split at hq
  ·rename_i q1 q2 h1 h2;cases hq;obtain⟨a1,a2⟩:=ZLL h1 hL (λj hj=>hl j (List.mem_append_left _ hj));obtain⟨b1,b2⟩:=ZAU h2 hL (λj hj=>hl j (List.mem_append_right _ hj));refine⟨by simp only[TD.ers,Dv.sizes];rw[a1,b1],λσ ok hH us rr=> ?_⟩;simp only[TD.ers,repDs] at rr ⊢;obtain⟨u1,u2,e1,e2,e3⟩:=rr;exact⟨u1,u2,e1,a2 σ ok hH _ e2,b2 σ ok hH _ e3⟩
  ·cases hq
theorem Zu4{t:Tmp}{a:yL TD}{h:yL TEnt}{K:Kh O}(k:ZxF t a h K=some out):
 ∃a' h',K a' h'=some out/\a'.length=a.length/\V0 (erH h) (erH h')/\∀(σ:Sg)(act:Act),RepT σ (TD.ers (lk h) a) act->RepT σ (TD.ers (lk h') a') act:=by
 unfold ZxF at k;split at k
 ·rename_i id hid;split at k
  ·rename_i ds st hd;obtain⟨q,h1,k⟩:=Zu3 k
   have hd2:(Zd8 q.2 h)[id]? =some (.var (.agg ds) st):=by
    rw[Zlp,hd];show some (if q.2.contains id=true then ZnS (.var (.agg ds) st) else .var (.agg ds) st)=_
    split <;> rfl
   have hL0:lk (Zd8 q.2 h)=lk h:=ZAT _ _;have hL:lk ((Zd8 q.2 h).set id (.var (.agg q.1) st))=lk (Zd8 q.2 h):=Zas hd2 rfl rfl;refine⟨_,_,k,rfl,(ZLH (ZJO q.2 h)).trans ?_,λσ act rr=>by rw[hL,hL0];exact rr⟩;rw[Vn hL];have hj:(erH (Zd8 q.2 h))[id]? =some (.var (.agg (TD.ers (lk (Zd8 q.2 h)) ds)) st):=by rw[Ym hd2];rfl
   obtain⟨c1,c2⟩:=ZAU (H:=Zd8 q.2 h) h1 hL0 (λj hj e he=>by
    rw[Zlp,he];show some (if q.2.contains j=true then ZnS e else e)=_
    rw[yW (by simpa using hj)])
   refine ZOe hj ?_ λσ ok hH us r=> ?_
   ·exact c1
   ·simp only[TD.er,yH] at r ⊢;exact c2 σ ok hH us r
  ·cases k
 ·cases k
theorem ZEV{L:Lk}{ds:yL TD}{i:Nat}{x y:TD}(h:ds[i]? =some x)(e:y.er L=x.er L):TD.ers L (ds.set i y)=TD.ers L ds:=by
 rw[ZN,ZN,ybp,e];apply ybr;intro k;by_cases hk:i=k
 ·subst hk;rw[ycv (by rw[yy];exact(yq.1 h).1),yal,h];rfl
 ·rw[List.getElem?_set_ne hk]
theorem Zsv{t:Tmp}{i:Nat}{a:yL TD}{h:yL TEnt}{K:Kh O}(k:Zwv t i a h K=some out):
 ∃a' h',K a' h'=some out/\a'.length=a.length/\V0 (erH h) (erH h')/\∀(σ:Sg)(act:Act),RepT σ (TD.ers (lk h) a) act->RepT σ (TD.ers (lk h') a') act:=by
 unfold Zwv at k;split at k
 ·rename_i j hj;split at k
  ·rename_i ds st hd;split at k
   ·rename_i id v s n hi;split at k
    ·rename_i T w st' e l hr;obtain⟨c,k2⟩:=Za k;clear k;rw[yj,yj,yP,yP,yP] at c;obtain⟨rfl,rfl,rfl⟩:=c;have hL:lk (h.set j (.var (.agg (ds.set i (.rw id))) st))=lk h:=Zas hd rfl rfl
     have he:(TD.rw id).er (lk h)=(TD.rv id w.length T.size 0 l.length).er (lk h):=by
      refine(ZCn (v:=w) (s:=T.size) (N:=l.length) ?_).1;unfold Yb lk;dsimp only;rw[hr];rfl
     refine⟨_,_,k2,rfl, ?_,λσ act rr=>by rw[hL];exact rr⟩
     have e2:erH (h.set j (.var (.agg (ds.set i (.rw id))) st))=erH h:=by
      rw[Vn hL];show(erH h).set j (.var (.agg (TD.ers (lk h) (ds.set i (.rw id)))) st)=erH h;rw[ZEV hi he];apply ybr;intro q;by_cases hq:j=q
      ·subst hq;have hjl:(erH h)[j]? =some (.var (.agg (TD.ers (lk h) ds)) st):=by rw[Ym hd];rfl
       rw[ycv (yq.1 hjl).1,hjl]
      ·rw[List.getElem?_set_ne hq]
     rw[e2];exact V0.refl _
    ·cases k
   ·cases k
  ·cases k
 ·cases k
theorem ZEW{h:yL TEnt}{id:Nat}{T:Ty}{w:yL Unit}{st:Bool}{e:yc}{l:yL T.den}(hr:h[id]? =some (.rowT T w st e l)):(TD.rw id).er (lk h)=(TD.rv id w.length T.size 0 l.length).er (lk h):=by
 refine(ZCn (v:=w) (s:=T.size) (N:=l.length) ?_).1;unfold Yb lk;dsimp only;rw[hr];rfl
theorem ZzB{t:Tmp}{a:yL TD}{h:yL TEnt}{K:Kh O}(k:ZxG t a h K=some out):
 ∃a' h',K a' h'=some out/\a'.length=a.length/\V0 (erH h) (erH h')/\∀(σ:Sg)(act:Act),RepT σ (TD.ers (lk h) a) act->RepT σ (TD.ers (lk h') a') act:=by
 unfold ZxG at k;split at k
 ·rename_i id v s n hi;split at k
  ·rename_i T w st' e l hr;obtain⟨c,k2⟩:=Za k;clear k;rw[yj,yj,yP,yP,yP] at c;obtain⟨rfl,rfl,rfl⟩:=c;exact⟨_,_,k2,ybq,V0.refl _,λσ act rr=>by rw[ZEV hi (ZEW hr)];exact rr⟩
  ·cases k
 ·cases k
theorem ZzC{t:Tmp}{a:yL TD}{h:yL TEnt}{K:Kh O}(k:ZxH t a h K=some out):
 ∃a' h',K a' h'=some out/\a'.length=a.length/\V0 (erH h) (erH h')/\∀(σ:Sg)(act:Act),RepT σ (TD.ers (lk h) a) act->RepT σ (TD.ers (lk h') a') act:=by
 unfold ZxH at k;split at k
 ·rename_i j hj;split at k
  ·rename_i id v s n st hd;split at k
   ·rename_i T w st' e l hr;obtain⟨c,k2⟩:=Za k;clear k;rw[yj,yj,yP,yP,yP] at c;obtain⟨rfl,rfl,rfl⟩:=c;have hL:lk (h.set j (.var (.rw id) st))=lk h:=Zas hd rfl rfl;refine⟨_,_,k2,rfl, ?_,λσ act rr=>by rw[hL];exact rr⟩
    have e2:erH (h.set j (.var (.rw id) st))=erH h:=by
     rw[Vn hL];show(erH h).set j (.var ((TD.rw id).er (lk h)) st)=erH h;rw[ZEW hr];apply ybr;intro q;by_cases hq:j=q
     ·subst hq;have hjl:(erH h)[j]? =some (.var ((TD.rv id w.length T.size 0 l.length).er (lk h)) st):=by rw[Ym hd];rfl
      rw[ycv (yq.1 hjl).1,hjl]
     ·rw[List.getElem?_set_ne hq]
    rw[e2];exact V0.refl _
   ·cases k
  ·cases k
 ·cases k
theorem ZIr:∀{l:yL Dv}{i:Nat}{d e:Dv},l[i]? =some d->Wk d e->WkL l (l.set i e)
 |[],_,_,_,h,_=>by simp at h
 |x::r,0,d,e,h,k=>by
  simp only[ybb,yi] at h;subst h
  exact .cons k (WkL.refl r)
 |x::r,i+1,d,e,h,k=>by
  simp only[yax] at h;exact .cons (Wk.refl x) (ZIr h k)
theorem ZLM{L:Lk}:∀{ds:yL TD}{i:Nat}{d e:TD},ds[i]? =some d->(TD.ers L ds)[i]? =some (d.er L)/\TD.ers L (ds.set i e)=(TD.ers L ds).set i (e.er L)
 |[],_,_,_,h=>by simp at h
 |x::r,0,d,e,h=>by
  simp only[ybb,yi] at h;subst h
  exact⟨rfl,rfl⟩
 |x::r,i+1,d,e,h=>by
  simp only[yax] at h;obtain⟨h1,h2⟩:=ZLM (e:=e) h;exact⟨h1,by show x.er L::TD.ers L (r.set i e)=_;rw[h2];rfl⟩
theorem ZG4{t:Tmp}{i:Nat}{T:Ty}{a:yL TD}{h:yL TEnt}{K:Kh O}(k:ZLJ t i T a h K=some out):
 ∃a' h',K a' h'=some out/\a'.length=a.length/\V0 (erH h) (erH h')/\∀(σ:Sg)(act:Act),RepT σ (TD.ers (lk h) a) act->RepT σ (TD.ers (lk h') a') act:=by
 unfold ZLJ at k;split at k
 ·rename_i j hj;split at k
  ·rename_i ds st hd;split at k
   ·rename_i x hx;obtain⟨y,h1,k⟩:=yf.1 k;have hL:lk (h.set j (.var (.agg (ds.set i (.p (.v T y)))) st))=lk h:=Zas hd rfl rfl;refine⟨_,_,k,rfl, ?_,λσ act rr=>by rw[hL];exact rr⟩;rw[Vn hL];have hjl:(erH h)[j]? =some (.var (.agg (TD.ers (lk h) ds)) st):=by rw[Ym hd];rfl
    obtain⟨e1,e2⟩:=ZLM (L:=lk h) (e:=.p (.v T y)) hx;refine ZLH (WkH.set_at hjl (WkE.var ?_));show Wk (.agg (TD.ers (lk h) ds)) (.agg (TD.ers (lk h) (ds.set i (.p (.v T y)))));rw[e2];exact WkL.agg (ZIr e1 (Wk.p (ZEl h1)))
   ·cases k
  ·cases k
 ·cases k
theorem Wk.melt{n s:Nat}{xs:yL Pl}:Wk (.p (.arr n s xs)) (.arr n s (xs.map Dv.p)):=⟨rfl,rfl,λσ vs r=>by
 simp only[yH,repC] at r ⊢;exact⟨by rw[yy];exact r.1,λx hx=>by obtain⟨y,hy,rfl⟩:=List.mem_map.1 hx;exact r.2.1 y hy,Zk9.2 r.2.2⟩⟩
theorem ZEX{t:Tmp}{a:yL TD}{h:yL TEnt}{K:Kh O}(k:ZG3 t a h K=some out):
 ∃a' h',K a' h'=some out/\a'.length=a.length/\V0 (erH h) (erH h')/\∀(σ:Sg)(act:Act),RepT σ (TD.ers (lk h) a) act->RepT σ (TD.ers (lk h') a') act:=by
 unfold ZG3 at k;split at k
 ·rename_i j hj;split at k
  ·rename_i n s xs st hd;have hL:lk (h.set j (.var (.arr n s (xs.map TD.p)) st))=lk h:=Zas hd rfl rfl;refine⟨_,_,k,rfl, ?_,λσ act rr=>by rw[hL];exact rr⟩;rw[Vn hL];have hjl:(erH h)[j]? =some (.var (.p (.arr n s (TP.pes xs))) st):=by rw[Ym hd];rfl
   refine ZLH (WkH.set_at hjl (WkE.var ?_));show Wk (.p (.arr n s (TP.pes xs))) (.arr n s (TD.ers (lk h) (xs.map TD.p)))
   have e:TD.ers (lk h) (xs.map TD.p)=(TP.pes xs).map Dv.p:=by
    rw[ZN,Zeu,ybe,ybe];rfl
   rw[e];exact Wk.melt
  ·exact⟨_,_,k,rfl,V0.refl _,λ_ _ r=>r⟩
 ·exact⟨_,_,k,rfl,V0.refl _,λ_ _ r=>r⟩
theorem Zu5{z:Int}{t:Tmp}{a:yL TD}{h:yL TEnt}{K:Kh O}(ha:a.getD t .junk=.p (.v (.int .i64) z)):∀{ks:yL Nat},ZCs z t a h K ks=some out->K a h=some out
 |[],k=>by cases k
 |n::r,k=>by
  unfold ZCs at k;split at k
  ·rename_i e;have e:z=(n:Int):=by simpa using e
   rw[set_same (by rw[ha,e])] at k;exact k
  ·exact Zu5 ha k
theorem ZCu{t:Tmp}{ks:yL Nat}{a:yL TD}{h:yL TEnt}{K:Kh O}(k:ZCt t ks a h K=some out):
 ∃a' h',K a' h'=some out/\a'.length=a.length/\V0 (erH h) (erH h')/\∀(σ:Sg)(act:Act),RepT σ (TD.ers (lk h) a) act->RepT σ (TD.ers (lk h') a') act:=by
 unfold ZCt at k;split at k
 ·rename_i z hz;exact⟨_,_,Zu5 hz k,rfl,V0.refl _,λ_ _ r=>r⟩
 ·cases k
theorem ZLN{g:yO GOp}{a:yL TD}{h:yL TEnt}{K:Kh O}(k:ghO g a h K=some out):
 ∃a' h',K a' h'=some out/\a'.length=a.length/\V0 (erH h) (erH h')/\∀(σ:Sg)(act:Act),RepT σ (TD.ers (lk h) a) act->RepT σ (TD.ers (lk h') a') act:=by
 unfold ghO at k;split at k
 ·exact⟨_,_,k,rfl,V0.refl _,λ_ _ r=>r⟩
 ·rename_i g
  cases g with
  |done t=>exact Zu4 k
  |fresh t i=>exact Zsv k
  |rowt t yQ T e=>exact ZEU k
  |freshS t=>exact ZzB k
  |freshV t=>exact ZzC k
  |freshDone t i=>
   obtain⟨a1,h1,k,l1,g1,r1⟩:=Zsv (K:=λa h=>ZxF t a h K) k;obtain⟨a2,h2,k,l2,g2,r2⟩:=Zu4 k
   exact⟨a2,h2,k,l2.trans l1,g1.trans g2,λσ act r=>r2 σ act (r1 σ act r)⟩
  |any t i T=>exact ZG4 k
  |melt t=>exact ZEX k
  |split t ks=>exact ZCu k
  |nn t=>
   replace k:ZQa t a h K=some out:=k
   unfold ZQa at k;split at k
   ·exact⟨_,_,k,rfl,V0.refl _,λ_ _ r=>r⟩
   ·cases k
end
end Go.Ev
end
section
namespace Go.Ev
section
variable{P:yg}
theorem ZEY{x y:Code}{ts ts1 ts2:yL Dv}{H H1 H2:yL Ent}{ex:Ex}(r1:Vt P x ts H .normal ts1 H1)(r2:Vt P y ts1 H1 ex ts2 H2):Vt P (.seq x y) ts H ex ts2 H2:=by
 intro σ a ok hH yM;refine wp_seq (wp_mono (r1 σ a ok hH yM) ?_);rintro e a' w' ⟨rfl,σ1,rfl,e1,to1,ok1,hrep1⟩;refine wp_mono (r2 σ1 a' ok1 e1 hrep1) ?_;rintro e a'' w'' ⟨rfl,σ2,rfl,e2,to2,ok2,hrep2⟩;exact⟨rfl,σ2,rfl,e2,to1.trans to2,ok2,hrep2⟩
theorem ZAV{x y:Code}{ts ts1:yL Dv}{H H1:yL Ent}{ex:Ex}(hne:ex≠ .normal)(r1:Vt P x ts H ex ts1 H1):Vt P (.seq x y) ts H ex ts1 H1:=by
 intro σ a ok hH yM;refine wp_seq (wp_mono (r1 σ a ok hH yM) ?_);rintro e a' w' ⟨rfl,hq⟩
 cases ex with
 |normal=>exact absurd rfl hne
 |exit id=>exact⟨rfl,hq⟩
 |ret=>exact⟨rfl,hq⟩
theorem Zpz{c:yn}{x y:Code}{ts ts1:yL Dv}{H H1:yL Ent}{ex:Ex}{b:Bool}(hc:ZC P ts 0 c=.p (.bool b))(r1:Vt P (if b then x else y) ts H ex ts1 H1):Vt P (.cond c x y) ts H ex ts1 H1:=by
 intro σ a ok hH yM;have hv:=Zs (P:=P) yM 0 c;rw[hc] at hv;cases b
 ·exact wp_cond_false (Y4 hv) (r1 σ a ok hH yM)
 ·exact wp_cond_true (Y4 hv) (r1 σ a ok hH yM)
def ZCv(id:Nat):Ex->Ex
 |.exit i=>if i=id then .normal else .exit i
 |ex=>ex
theorem ZG5{id:Nat}{body:Code}{ts ts1:yL Dv}{H H1:yL Ent}{ex:Ex}(r1:Vt P body ts H ex ts1 H1):Vt P (.block id body) ts H (ZCv id ex) ts1 H1:=by
 intro σ a ok hH yM;refine wp_block (wp_mono (r1 σ a ok hH yM) ?_);rintro e a' w' ⟨rfl,hq⟩
 cases ex with
 |normal=>exact⟨rfl,hq⟩
 |exit id'=>
  simp only[Ex.to,Exit.inBlock,ZCv];split
  ·exact⟨rfl,hq⟩
  ·exact⟨rfl,hq⟩
 |ret=>exact⟨rfl,hq⟩
theorem ZG6{body:Code}{ts ts1:yL Dv}{H H1:yL Ent}{ex:Ex}(r1:Vt P body ts H ex ts1 H1):Vt P (.scope body) ts H ex ts1 H1:=by
 intro σ a ok hH yM;refine wp_scope_straight (wp_mono (r1 σ a ok hH yM) ?_);rintro e a' w' ⟨rfl,hq⟩;cases ex <;> exact⟨rfl,hq⟩
theorem ZJP{ts:yL Dv}{H:yL Ent}:Vt P .skip ts H .normal ts H:=λσ a ok hH yM=>wp_skip ⟨rfl,σ,rfl,hH,To.refl σ,ok,yM⟩
theorem ZG7{n:Nat}{ts:yL Dv}{H:yL Ent}:Vt P (.label n) ts H .normal ts H:=λσ a ok hH yM=>wp_label ⟨rfl,σ,rfl,hH,To.refl σ,ok,yM⟩
theorem ZJQ{n:Nat}{ts:yL Dv}{H:yL Ent}:Vt P (.exit n) ts H (.exit n) ts H:=λσ a ok hH yM=>wp_exit ⟨rfl,σ,rfl,hH,To.refl σ,ok,yM⟩
theorem ZLO{ts:yL Dv}{H:yL Ent}:Vt P .ret ts H .ret ts H:=λσ a ok hH yM=>wp_ret ⟨rfl,σ,rfl,hH,To.refl σ,ok,yM⟩
theorem ZJR{c:Code}{ts ts1:yL Dv}{H H1:yL Ent}{ex:Ex}(keep:yL Nat)(r:Vt P c ts H ex ts1 H1):Vt P c ts H ex (ZQ keep 0 ts1) H1:=by
 intro σ a ok hH yM;refine wp_mono (r σ a ok hH yM) ?_;rintro e a' w' ⟨rfl,σ1,rfl,e1,to1,ok1,hrep1⟩;exact⟨rfl,σ1,rfl,e1,to1,ok1,Zcu keep hrep1⟩
def ZEZ(n0:Nat)(sl:Slots)(es:yL ESh)(a:yL TD)(h:yL TEnt):yO (yL TV):=
 if once (yv n0++[]) then(Vd h (yv n0++[]) (yv n0++[])).bind λh2=>(TD.rns (toIds (yv n0++[])) (Zmv (sl.map (·.1)) 0 a)).bind λa2=>
  (Sh.mts (lk h2) (shs sl a.length) a2).bind λq=>(ESh.mts (lk h2) es h2).bind λw=>some (q.2++w.2)
 else none
theorem ZG8{n0:Nat}{sl:Slots}{es:yL ESh}{a:yL TD}{h:yL TEnt}{vs:yL TV}(k:ZEZ n0 sl es a h=some vs):
 ∃a3 h3,Zba a.length sl es vs=some (a3,h3)/\∀{c:Code}{ts:yL Dv}{H:yL Ent}{ex:Ex},H.length=n0->Vt P c ts H ex (TD.ers (lk h) a) (erH h)->Vt P c ts H ex (TD.ers (lk h3) a3) (erH h3):=by
 unfold ZEZ at k;split at k
 ·rename_i ho;obtain⟨h2,h1,k⟩:=yf.1 k;obtain⟨a2,e2,k⟩:=yf.1 k;obtain⟨q,e3,k⟩:=yf.1 k;obtain⟨w,e4,k⟩:=yf.1 k;cases k;obtain⟨g1,g2⟩:=Zkk e4;have hc:∀id t,Yb (lk h2) id t none=Yb (lk w.1) id t none:=λid t=>by rw[g2]
  refine⟨q.1,w.1, ?_,λ{c ts H ex}hl r=> ?_⟩
  ·unfold Zba;rw[mts_fills _ _ _ e3];have:=ZbT e4 [];rw[yaz] at this;rw[ya,this];rfl
  ·have r1:=ZJR (sl.map (·.1)) r;rw[<-Zst] at r1;have r2:=ZJx [] [] r1 (by rw[hl];exact ho) (by rw[hl];exact W4 (Zbq h1) h1) (by rw[hl];exact rns_er (Zbq h1) _ _ e2);exact ZAD r2 (mts_wk hc _ _ _ e3) (Zpw hc e4)
 ·cases k
theorem ZG9{n0:Nat}{sl:Slots}{es:yL ESh}{a:yL TD}{h:yL TEnt}{vs:yL TV}(hn:h.length=n0)(k:ZEZ n0 sl es a h=some vs):
 ∃a3 h3,Zba a.length sl es vs=some (a3,h3)/\∀(σ:Sg)(act:Act),Ok σ->σ.H=erH h->RepT σ (TD.ers (lk h) a) act->∃σ':Sg,σ'.w=σ.w/\σ'.H=erH h3/\To σ σ'/\Ok σ'/\RepT σ' (TD.ers (lk h3) a3) act:=by
 subst hn;unfold ZEZ at k;split at k
 ·rename_i ho;obtain⟨h2,h1,k⟩:=yf.1 k;obtain⟨a2,e2,k⟩:=yf.1 k;obtain⟨q,e3,k⟩:=yf.1 k;obtain⟨w,e4,k⟩:=yf.1 k;cases k;obtain⟨g1,g2⟩:=Zkk e4;have hc:∀id t,Yb (lk h2) id t none=Yb (lk w.1) id t none:=λid t=>by rw[g2]
  refine⟨q.1,w.1, ?_,λσ act ok hH yM=> ?_⟩
  ·unfold Zba;rw[mts_fills _ _ _ e3];have:=ZbT e4 [];rw[yaz] at this;rw[ya,this];rfl
  ·have r1:=Zcu (sl.map (·.1)) yM;rw[<-Zst] at r1
   have hin:subEnts σ.H (yv σ.H.length++[]) (yv σ.H.length++[])=some (erH h2):=by
    rw[hH,ZS];exact W4 (Zbq h1) h1
   have ho':once (yv σ.H.length++[])=true:=by rw[hH,ZS];exact ho
   have e2':Dv.rns (toIds (yv σ.H.length++[])) (TD.ers (lk h) (Zmv (sl.map (·.1)) 0 a))=some (TD.ers (lk h2) a2):=by
    rw[hH,ZS];exact rns_er (Zbq h1) _ _ e2
   have r2:=ZEe (Zlk hin) e2' r1;have to1:=Zwn ok (To.refl σ) ho' hin;have ok1:=Zwm ok ho' hin;obtain⟨to2,ok2⟩:=ZrV (σ:=Zqx σ (yv σ.H.length++[]) (erH h2)) ok1 (H':=erH w.1) (Zpw hc e4);exact⟨{ Zqx σ (yv σ.H.length++[]) (erH h2) with H:=erH w.1},rfl,rfl,to1.trans to2,ok2,(mts_wk hc _ _ _ e3).repT (r2.to to2.leaf)⟩
 ·cases k
def ZQb(L:Lk):ESh->TEnt->yO TEnt
 |.rowN _ _ _ _,.rowM u np v st e pre mid post=>(ZP0 L u mid).map λy=>.rowN u np v st e (pre++[y]) post
 |_,x=>some x
def ZLP(L:Lk):yL ESh->yL TEnt->yO (yL TEnt)
 |[],h=>some h
 |_::_,[]=>some []
 |s::r,x::h=>match ZQb L s x,ZLP L r h with
  |some y,some ys=>some (y::ys)
  |_,_=>none
theorem ZOh{L:Lk}{s:ESh}{x y:TEnt}(h:ZQb L s x=some y):lkE (some y)=lkE (some x)/\WkE (x.er L) (y.er L):=by
 unfold ZQb at h;split at h
 ·rename_i u np v st e pre mid post;obtain⟨c,h1,rfl⟩:=Zd h;refine⟨?_,ZIi (ZIf h1)⟩;simp only[lkE,yo,yaj,yco];rw[Nat.add_assoc,Nat.add_comm (0+1)]
 ·cases h;exact⟨rfl,.refl _⟩
theorem ZIs{L:Lk}:∀{es:yL ESh}{h h':yL TEnt},ZLP L es h=some h'->h'.length=h.length/\(∀j:Nat,lkE (h'[j]?)=lkE (h[j]?))/\WkH (h.map (TEnt.er L)) (h'.map (TEnt.er L))
 |[],h,h',k=>by cases k;exact⟨rfl,λ_=>rfl,WkH.refl _⟩
 |_::_,[],h',k=>by cases k;exact⟨rfl,λ_=>rfl,WkH.refl _⟩
 |s::r,x::h,h',k=>by
  simp only[ZLP] at k;split at k
  ·rename_i y ys h1 h2;cases k;obtain⟨a1,a2⟩:=ZOh h1;obtain⟨b1,b2,b3⟩:=ZIs h2;refine⟨by simp[b1],λj=> ?_,.cons a2 b3⟩
   cases j with
   |zero=>exact a1
   |succ j=>exact b2 j
  ·cases k
theorem ZIt{es:yL ESh}{h h':yL TEnt}(k:ZLP (lk h) es h=some h'):h'.length=h.length/\lk h'=lk h/\WkH (erH h) (erH h'):=by
 obtain⟨a,b,c⟩:=ZIs k;have e:lk h'=lk h:=funext b;refine⟨a,e, ?_⟩;unfold erH;rw[e];exact c
def ZCw(n0:Nat)(sl:Slots)(es:yL ESh)(a:yL TD)(h:yL TEnt):yO (yL TV):=(ZLP (lk h) es h).bind λh=>ZEZ n0 sl es a h
theorem ZAW{n0:Nat}{sl:Slots}{es:yL ESh}{a:yL TD}{h:yL TEnt}{vs:yL TV}(k:ZCw n0 sl es a h=some vs):
 ∃a3 h3,Zba a.length sl es vs=some (a3,h3)/\∀{c:Code}{ts:yL Dv}{H:yL Ent}{ex:Ex},H.length=n0->Vt P c ts H ex (TD.ers (lk h) a) (erH h)->Vt P c ts H ex (TD.ers (lk h3) a3) (erH h3):=by
 obtain⟨h1,k1,k2⟩:=yf.1 k;obtain⟨e1,e2,e3⟩:=ZIt k1;obtain⟨a3,h3,g1,g2⟩:=ZG8 (P:=P) k2;refine⟨a3,h3,g1,λhl r=>g2 hl ?_⟩;rw[e2];exact ZAD r (WkL.refl _) e3
theorem ZAX{n0:Nat}{sl:Slots}{es:yL ESh}{a:yL TD}{h:yL TEnt}{vs:yL TV}(hn:h.length=n0)(k:ZCw n0 sl es a h=some vs):
 ∃a3 h3,Zba a.length sl es vs=some (a3,h3)/\∀(σ:Sg)(act:Act),Ok σ->σ.H=erH h->RepT σ (TD.ers (lk h) a) act->∃σ':Sg,σ'.w=σ.w/\σ'.H=erH h3/\To σ σ'/\Ok σ'/\RepT σ' (TD.ers (lk h3) a3) act:=by
 obtain⟨h1,k1,k2⟩:=yf.1 k;obtain⟨e1,e2,e3⟩:=ZIt k1;obtain⟨a3,h3,g1,g2⟩:=ZG9 (by rw[e1];exact hn) k2;refine⟨a3,h3,g1,λσ act ok hH hr=> ?_⟩;obtain⟨to,ok'⟩:=ZrV ok (H':=erH h1) (by rw[hH];exact e3);obtain⟨σ2,q1,q2,q3,q4,q5⟩:=g2 { σ with H:=erH h1} act ok' rfl (by rw[e2];exact hr.to to.leaf);exact⟨σ2,q1,q2,to.trans q3,q4,q5⟩
structure Lp where
 sl:Slots
 es:List ESh
 I:List Ty
 xs:List XSh
 L:Ty.dens I->Option (XSh.sum xs)
def Lp.Is(P:yg)(n:Nat)(c:Code)(lp:Lp):Prop:=
 ∀v o,lp.L v=some o->∀s,Zba n lp.sl lp.es (ofD lp.I v)=some s->∀e vs s',ZEK lp.xs o e vs->Zba n e.sl e.es vs=some s'->
  Vt P c (TD.ers (lk s.2) s.1) (erH s.2) e.ex (TD.ers (lk s'.2) s'.1) (erH s'.2)
abbrev Lp.Ok(P:yg)(n:Nat)(body:Code)(lp:Lp):Prop:=lp.Is P n (.loop body)
structure FI where
 hi:HI:={}
 lp:List (Nat×Lp):=[]
 bk:List (Nat×Lp):=[]
 gh:List (Nat×GOp):=[]
 un:Nat:=0
def Code.nl:Code->Nat
 |.seq a b=>Code.nl a+Code.nl b
 |.cond _ a b=>Code.nl a+Code.nl b
 |.block _ a=>Code.nl a
 |.scope a=>Code.nl a
 |.loop a=>Code.nl a+1
 |_=>0
def Code.ns:Code->Nat
 |.seq a b=>Code.ns a+Code.ns b+1
 |.cond _ a b=>Code.ns a+Code.ns b
 |.block _ a=>Code.ns a
 |.scope a=>Code.ns a
 |.loop a=>Code.ns a
 |_=>0
theorem ZcA:∀c:Code,(ZK c).length=Code.nl c
 |.seq a b=>by simp only[ZK,yo,ZcA a,ZcA b,Code.nl]
 |.cond _ a b=>by simp only[ZK,yo,ZcA a,ZcA b,Code.nl]
 |.block _ a=>by simp only[ZK,ZcA a,Code.nl]
 |.scope a=>by simp only[ZK,ZcA a,Code.nl]
 |.loop a=>by simp only[ZK,yaj,ZcA a,Code.nl]
 |.skip=>rfl
 |.region _ _ _=>rfl
 |.rangeFunc _ _ _ _=>rfl
 |.exit _=>rfl
 |.ret=>rfl
 |.label _=>rfl
 |.goto _=>rfl
 |.refuse _=>rfl
def Zww{O:Type}(step:yL TD->yL TEnt->Kc O->yO O):Nat->yL TD->yL TEnt->Kc O->yO O
 |0,_,_,_=>none
 |k+1,a,h,K=>step a h λex a' h'=>match ex with
  |.normal=>Zww step k a' h' K
  |ex=>K ex a' h'
theorem Zu6{O:Type}{body:Code}{N:Nat}{step:yL TD->yL TEnt->Kc O->yO O}
 (hs:∀(a:yL TD)(h:yL TEnt)(K:Kc O)(out:O),a.length=N->step a h K=some out->∃ex a' h',K ex a' h'=some out/\a'.length=N/\Vt P body (TD.ers (lk h) a) (erH h) ex (TD.ers (lk h') a') (erH h')):
 ∀(k:Nat)(a:yL TD)(h:yL TEnt)(K:Kc O)(out:O),a.length=N->Zww step k a h K=some out->∃ex a' h',K ex a' h'=some out/\a'.length=N/\ZAy P body (TD.ers (lk h) a) (erH h) ex (TD.ers (lk h') a') (erH h')
 |0,_,_,_,_,_,k=>by cases k
 |n+1,a,h,K,out,hN,k=>by
  unfold Zww at k;obtain⟨ex,a1,h1,k1,k2,k3⟩:=hs _ _ _ _ hN k;split at k1
  ·obtain⟨ex2,a2,h2,k4,k5,k6⟩:=Zu6 hs n a1 h1 K out k2 k1;exact⟨ex2,a2,h2,k4,k5,ZAA [] k3 k6⟩
  ·rename_i hne;exact⟨_,a1,h1,k1,k2,ZAz hne k3⟩
def ZtR(m:Nat)(a:yL TD)(h:yL TEnt):yL (Nat×Lp)->yO (Σ bk:Lp,Ty.dens bk.I)
 |[]=>none
 |q::r=>if Nat.beq q.1 m=true then match (ZCw h.length q.2.sl q.2.es a h).bind (toD q.2.I) with
   |some v=>some ⟨q.2,v⟩
   |none=>ZtR m a h r
  else ZtR m a h r
theorem ZiZ{m:Nat}{a:yL TD}{h:yL TEnt}{b:Σ bk:Lp,Ty.dens bk.I}:∀{l:yL (Nat×Lp)},ZtR m a h l=some b->(m,b.1)∈l/\∃vs,ZCw h.length b.1.sl b.1.es a h=some vs/\toD b.1.I vs=some b.2
 |[],k=>by cases k
 |q::r,k=>by
  unfold ZtR at k;split at k
  ·rename_i hm;split at k
   ·rename_i v hv;cases k;have e:=Nat.eq_of_beq_eq_true hm;refine⟨?_,yf.1 hv⟩;rw[<-e];exact yaw ..
   ·obtain⟨h1,h2⟩:=ZiZ k;exact⟨yay _ h1,h2⟩
  ·obtain⟨h1,h2⟩:=ZiZ k;exact⟨yay _ h1,h2⟩
def evT{O:Type}(P:yg)(fi:FI)(specs:Sp P):Code->Nat->Nat->yL TD->yL TEnt->Kc O->yO O
 |.skip,_,_,a,h,K=>K .normal a h
 |.label _,_,_,a,h,K=>K .normal a h
 |.region _ ops draw,_,_,a,h,K=>if draw=true then ZP8 P fi.hi specs ops a h λa' h'=>K .normal a' h' else ZLB P fi.hi specs ops ops.toList a h λa' h' _=>K .normal a' h'
 |.seq x y,n,m,a,h,K=>ghO (fi.gh.lookup m) a h λa h=>match ZtR m a h fi.bk with
  |none=>evT P fi specs x n (m+1) a h λex a' h'=>match ex with
   |.normal=>evT P fi specs y (n+Code.nl x) (m+1+Code.ns x) a' h' K
   |ex=>K ex a' h'
  |some bk=>(bk.1.L bk.2).bind λo=>xT a.length bk.1.xs o λex a' h'=>match ex with
   |.normal=>evT P fi specs y (n+Code.nl x) (m+1+Code.ns x) a' h' K
   |ex=>K ex a' h'
 |.cond c x y,n,m,a,h,K=>((arT P a 0 c).bind TD.boolT).bind λb=>match c with
  |.tmp t=>if b=true then evT P fi specs x n m (a.set t (ZzA true)) h K else evT P fi specs y (n+Code.nl x) (m+Code.ns x) (a.set t (ZzA false)) h K
  |_=>if b=true then evT P fi specs x n m a h K else evT P fi specs y (n+Code.nl x) (m+Code.ns x) a h K
 |.block id body,n,m,a,h,K=>evT P fi specs body n m a h λex a' h'=>K (ZCv id ex) a' h'
 |.loop body,n,m,a,h,K=>match ZtR n a h fi.lp with
  |some lp=>(lp.1.L lp.2).bind λo=>xT a.length lp.1.xs o K
  |none=>Zww (λa h K=>evT P fi specs body (n+1) m a h K) fi.un a h K
 |.scope body,n,m,a,h,K=>evT P fi specs body n m a h K
 |.exit id,_,_,a,h,K=>K (.exit id) a h
 |.ret,_,_,a,h,K=>K .ret a h
 |_,_,_,_,_,_=>none
def Ve:Code->yL Code
 |.seq a b=>a::(Ve a++Ve b)
 |.cond _ a b=>Ve a++Ve b
 |.block _ a=>Ve a
 |.scope a=>Ve a
 |.loop a=>Ve a
 |_=>[]
theorem ZcB:∀c:Code,(Ve c).length=Code.ns c
 |.seq a b=>by simp only[Ve,yaj,yo,ZcB a,ZcB b,Code.ns]
 |.cond _ a b=>by simp only[Ve,yo,ZcB a,ZcB b,Code.ns]
 |.block _ a=>by simp only[Ve,ZcB a,Code.ns]
 |.scope a=>by simp only[Ve,ZcB a,Code.ns]
 |.loop a=>by simp only[Ve,ZcB a,Code.ns]
 |.skip=>rfl
 |.region _ _ _=>rfl
 |.rangeFunc _ _ _ _=>rfl
 |.exit _=>rfl
 |.ret=>rfl
 |.label _=>rfl
 |.goto _=>rfl
 |.refuse _=>rfl
def Zmw(P:yg)(fi:FI)(N:Nat)(c:Code)(m:Nat):Prop:=∀(k:Nat)(x:Code),(Ve c)[k]? =some x->∀bk,(m+k,bk)∈fi.bk->bk.Is P N x
theorem ZLQ{fi:FI}{N:Nat}{x y c:Code}{m:Nat}(e:Ve c=Ve x++Ve y)(h:Zmw P fi N c m):Zmw P fi N x m:=λk b hk=>h k b (by
 rw[e,yar (yq.1 hk).1];exact hk)
theorem ZJS{fi:FI}{N:Nat}{x y c:Code}{m:Nat}(e:Ve c=Ve x++Ve y)(h:Zmw P fi N c m):Zmw P fi N y (m+Code.ns x):=λk b hk lp hl=>h (Code.ns x+k) b (by
 rw[e,yat (by rw[ZcB];omega),ZcB];rw[show Code.ns x+k - Code.ns x=k by omega];exact hk) lp (by rw[<-Nat.add_assoc];exact hl)
theorem ZLR{fi:FI}{N:Nat}{x y:Code}{m:Nat}(h:Zmw P fi N (.seq x y) m):Zmw P fi N x (m+1):=λk b hk lp hl=>h (k+1) b (by
 rw[Ve,yax,yar (yq.1 hk).1];exact hk) lp (by rw[show m+(k+1)=m+1+k by omega];exact hl)
theorem ZE0{fi:FI}{N:Nat}{x y:Code}{m:Nat}(h:Zmw P fi N (.seq x y) m):Zmw P fi N y (m+1+Code.ns x):=λk b hk lp hl=>h (Code.ns x+k+1) b (by
 rw[Ve,yax,yat (by rw[ZcB];omega),ZcB];rw[show Code.ns x+k - Code.ns x=k by omega];exact hk) lp (by rw[show m+(Code.ns x+k+1)=m+1+Code.ns x+k by omega];exact hl)
def Zqz(P:yg)(fi:FI)(N:Nat)(c:Code)(n:Nat):Prop:=∀(k:Nat)(b:Code),(ZK c)[k]? =some (.loop b)->∀lp,(n+k,lp)∈fi.lp->lp.Ok P N b
theorem ZE1{fi:FI}{N:Nat}{x y c:Code}{n:Nat}(e:ZK c=ZK x++ZK y)(h:Zqz P fi N c n):Zqz P fi N x n:=λk b hk=>h k b (by
 rw[e,yar (yq.1 hk).1];exact hk)
theorem ZAY{fi:FI}{N:Nat}{x y c:Code}{n:Nat}(e:ZK c=ZK x++ZK y)(h:Zqz P fi N c n):Zqz P fi N y (n+Code.nl x):=λk b hk lp hl=>h (Code.nl x+k) b (by
 rw[e,yat (by rw[ZcA];omega),ZcA];rw[show Code.nl x+k - Code.nl x=k by omega];exact hk) lp (by rw[<-Nat.add_assoc];exact hl)
theorem VF{O:Type}{fi:FI}{specs:Sp P}{out:O}{N:Nat}(ok:SpOk specs):∀(c:Code)(n m:Nat)(a:yL TD)(h:yL TEnt)(K:Kc O),a.length=N->Zqz P fi N c n->Zmw P fi N c m->evT P fi specs c n m a h K=some out->
 ∃ex a' h',K ex a' h'=some out/\a'.length=N/\Vt P c (TD.ers (lk h) a) (erH h) ex (TD.ers (lk h') a') (erH h')
 |.skip,n,m,a,h,K,hN,hl,hb0,k=>⟨_,_,_,k,hN,ZJP⟩
 |.label _,n,m,a,h,K,hN,hl,hb0,k=>⟨_,_,_,k,hN,ZG7⟩
 |.exit _,n,m,a,h,K,hN,hl,hb0,k=>⟨_,_,_,k,hN,ZJQ⟩
 |.ret,n,m,a,h,K,hN,hl,hb0,k=>⟨_,_,_,k,hN,ZLO⟩
 |.region id ops draw,n,m,a,h,K,hN,hl,hb0,k=>by
  unfold evT at k
  cases draw with
  |true=>
   rw[yW rfl] at k;obtain⟨a',h',k1,k2,k3⟩:=ZJL ok k
   exact⟨_,_,_,k1,by rw[k2,hN],k3 id⟩
  |false=>
   rw[yX (by decide)] at k;obtain⟨a',h',hs,k1,k2,k3⟩:=ZJM ok k
   exact⟨_,_,_,k1,by rw[k2,hN],k3 id⟩
 |.seq x y,n,m,a,h,K,hN,hl,hb0,k=>by
  have hx:=ZE1 (x:=x) (y:=y) rfl hl;have hy:=ZAY (x:=x) (y:=y) rfl hl;unfold evT at k;obtain⟨a0,h0,k,hN0,gst⟩:=ZLN k;rw[hN] at hN0
  suffices key:∃ex a' h',K ex a' h'=some out/\a'.length=N/\Vt P (.seq x y) (TD.ers (lk h0) a0) (erH h0) ex (TD.ers (lk h') a') (erH h') by
   obtain⟨ex,a',h',g1,g2,g3⟩:=key;exact⟨ex,a',h',g1,g2,ZOc gst g3⟩
  clear gst;have hN:=hN0;clear hN0;split at k
  ·obtain⟨ex,a1,h1,k1,k2,k3⟩:=VF ok x _ _ _ _ _ hN hx (ZLR hb0) k;split at k1
   ·obtain⟨ex2,a2,h2,k4,k5,k6⟩:=VF ok y _ _ _ _ _ k2 hy (ZE0 hb0) k1;exact⟨_,_,_,k4,k5,ZEY k3 k6⟩
   ·rename_i hne;exact⟨_,_,_,k1,k2,ZAV hne k3⟩
  ·rename_i bkv hbk;obtain⟨bk,v⟩:=bkv;obtain⟨hbk,vs,j1,j2⟩:=ZiZ hbk;dsimp only at hbk j1 j2 k;obtain⟨o,j3,k⟩:=yf.1 k;obtain⟨e,vs',s,g1,g2,g3⟩:=Zwt k;obtain⟨a3,h3,j4,j5⟩:=ZAX rfl j1;have hok:=hb0 0 x rfl bk (by rw[ybw];exact hbk);rw[hN] at g2 j4;have e1:=Zev _ _ _ j2;have r:=hok v o j3 (a3,h3) (by rw[e1];exact j4) e vs' s g1 g2
   have k3:Vt P x (TD.ers (lk h0) a0) (erH h0) e.ex (TD.ers (lk s.2) s.1) (erH s.2):=by
    intro σ act okσ hH yM;obtain⟨σ1,p1,p2,p3,p4,p5⟩:=j5 σ act okσ hH yM;rw[<-p1];refine wp_mono (r σ1 act p4 p2 p5) ?_;rintro e' a' w' ⟨rfl,σ2,q1,q2,q3,q4,q5⟩;exact⟨rfl,σ2,q1,q2,p3.trans q3,q4,q5⟩
   split at g3
   ·rename_i he;rw[he] at k3;obtain⟨ex2,a2,h2,k4,k5,k6⟩:=VF ok y _ _ _ _ _ (Zpy g2) hy (ZE0 hb0) g3;exact⟨_,_,_,k4,k5,ZEY k3 k6⟩
   ·rename_i hne
    exact⟨_,_,_,g3,Zpy g2,ZAV hne k3⟩
 |.cond c x y,n,m,a,h,K,hN,hl,hb0,k=>by
  have hx:=ZE1 (x:=x) (y:=y) rfl hl;have hy:=ZAY (x:=x) (y:=y) rfl hl;have bx:=ZLQ (x:=x) (y:=y) rfl hb0;have bY:=ZJS (x:=x) (y:=y) rfl hb0;unfold evT at k;obtain⟨b,k0,k⟩:=yf.1 k;obtain⟨d,k00,k01⟩:=yf.1 k0;have hc:=ZA (L:=lk h) k00;rw[Zkh k01] at hc;split at k
  ·rename_i t;cases k00;have e:=ZEQ k01;split at k
   ·rename_i hb;subst hb;rw[set_same e] at k;obtain⟨ex,a1,h1,k1,k2,k3⟩:=VF ok x _ _ _ _ _ hN hx bx k;exact⟨_,_,_,k1,k2,Zpz hc k3⟩
   ·rename_i hb;have hb:b=false:=by simpa using hb
    subst hb;rw[set_same e] at k;obtain⟨ex,a1,h1,k1,k2,k3⟩:=VF ok y _ _ _ _ _ hN hy bY k;exact⟨_,_,_,k1,k2,Zpz hc k3⟩
  ·split at k
   ·rename_i hb;subst hb;obtain⟨ex,a1,h1,k1,k2,k3⟩:=VF ok x _ _ _ _ _ hN hx bx k;exact⟨_,_,_,k1,k2,Zpz hc k3⟩
   ·rename_i hb;have hb:b=false:=by simpa using hb
    subst hb;obtain⟨ex,a1,h1,k1,k2,k3⟩:=VF ok y _ _ _ _ _ hN hy bY k
    exact⟨_,_,_,k1,k2,Zpz hc k3⟩
 |.block id body,n,m,a,h,K,hN,hl,hb0,k=>by
  unfold evT at k;obtain⟨ex,a1,h1,k1,k2,k3⟩:=VF ok body _ _ _ _ _ hN hl hb0 k
  exact⟨_,_,_,k1,k2,ZG5 k3⟩
 |.scope body,n,m,a,h,K,hN,hl,hb0,k=>by
  unfold evT at k;obtain⟨ex,a1,h1,k1,k2,k3⟩:=VF ok body _ _ _ _ _ hN hl hb0 k
  exact⟨_,_,_,k1,k2,ZG6 k3⟩
 |.loop body,n,m,a,h,K,hN,hl,hb0,k=>by
  unfold evT at k;split at k
  ·rename_i lpv hlp;obtain⟨lp,v⟩:=lpv;obtain⟨hlp,vs,j1,j2⟩:=ZiZ hlp;dsimp only at hlp j1 j2 k;obtain⟨o,j3,k⟩:=yf.1 k;obtain⟨e,vs',s,g1,g2,g3⟩:=Zwt k;obtain⟨a3,h3,j4,j5⟩:=ZAX rfl j1;have hok:=hl 0 body rfl lp (by rw[ybw];exact hlp);rw[hN] at g2 j4;have e1:=Zev _ _ _ j2;have r:=hok v o j3 (a3,h3) (by rw[e1];exact j4) e vs' s g1 g2;refine⟨_,_,_,g3,Zpy g2, ?_⟩;intro σ act okσ hH yM;obtain⟨σ1,p1,p2,p3,p4,p5⟩:=j5 σ act okσ hH yM;rw[<-p1];refine wp_mono (r σ1 act p4 p2 p5) ?_;rintro e' a' w' ⟨rfl,σ2,q1,q2,q3,q4,q5⟩;exact⟨rfl,σ2,q1,q2,p3.trans q3,q4,q5⟩
  ·have hl1:Zqz P fi N body (n+1):=λk b hk lp hl2=>hl (k+1) b (by rw[ZK,yax];exact hk) lp (by rw[show n+(k+1)=n+1+k by omega];exact hl2);obtain⟨ex,a1,h1,k1,k2,k3⟩:=Zu6 (λa h K out hN k=>VF ok body _ _ _ _ K hN hl1 hb0 k) _ _ _ _ _ hN k
   exact⟨ex,a1,h1,k1,k2,ZAB k3⟩
 |.rangeFunc _ _ _ _,_,_,_,_,_,_,_,_,k=>by cases k
 |.goto _,_,_,_,_,_,_,_,_,k=>by cases k
 |.refuse _,_,_,_,_,_,_,_,_,k=>by cases k
end
end Go.Ev
end
