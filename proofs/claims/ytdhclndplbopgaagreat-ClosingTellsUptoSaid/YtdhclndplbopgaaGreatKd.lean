/- Parts of the proof, in one file. -/
import Derived.Test.YtdhclndplbopgaaGreatKc
open Bool renaming and_eq_true → yi, false_eq_true → ybt, or_eq_true → ych
open Go renaming TypeId → yc, Program → yg, Operand → yo, FuncId → yv
open List renaming length_append → yl, getElem?_eq_some_iff → yq, range → yu, nil_append → yw, replicate → yy, getElem?_eq_getElem → yab, length_map → yac, append_assoc → yad, cons_append → yae, length_cons → yai, map_cons → yaj, getElem?_map → yan, getElem?_append_left → yao, getElem?_eq_none → yap, getElem?_cons_succ → yaq, take_length → yat, getElem?_cons_zero → yau, getElem?_append_right → yax, mem_cons_self → yay, mem_cons_of_mem → yba, map_append → ybb, append_nil → ybd, mem_cons → ybh, map_map → ybi, all_eq_true → ybj, length_set → ybn, ext_getElem? → ybs, map_set → ybv, getElem?_set → ybw, map_take → yck, getElem?_take → ycl, length_replicate → ycq, map_congr_left → yct, getElem?_set_self → ycx, getD_eq_getElem?_getD → yda
open Nat renaming le_refl → yj, zero_add → ybe, lt_or_ge → ycb, add_zero → yce, add_assoc → yci
open Option renaming bind_some → ya, bind_eq_some_iff → yf, map_eq_some_iff → yn, map_some → yaa
open Option.some renaming injEq → yp, inj → ybk
set_option linter.unusedVariables false
set_option linter.unusedSimpArgs false
section
namespace Go.Ev
section
variable{P:yg}{o:Oper}{ts all:yL TD}{H:yL TEnt}{O:Type}{K:Kn O}{out:O}
theorem ZkH{id:Nat}{e x:TEnt}(hx:H[id]? =some x)(h1:x.isLog=false)(h2:e.isLog=false):TD.ers (lk (H.set id e)) all=TD.ers (lk H) all:=by rw[ZeL hx h1 h2]
def ZzB(P:yg)(t:yc)(all:yL TD)(H:yL TEnt)(K:Kn O)(kd vd:yc->yO TD):TD->yO O
 |.mp id=>match P.underlying t with
  |some (.map kt et)=>(ZBF H id).bind λm=>(kd kt).bind λx=>(ZIq x m.k).bind λkey=>((vd et).bind (TD.flat (lk H))).bind λz=>(TP.to Zpv z m.v).bind λy=>
   if Ztq P kt m.k=true then K all .junk (H.set id (.map m.tid m.k m.v (@ZBo m.k.den m.v.den (Ty.deq m.k) m.l key y))) [.kvs (kvl m.k.enc m.v.enc (@ZBo m.k.den m.v.den (Ty.deq m.k) m.l key y))] 2 else none
  |_=>none
 |_=>none
theorem ZzC{t:yc}{x k v:yo}{xd:TD}(ho:o.op=.mapUpdate t x k v)(hx:arT P ts t x=some xd)(h:ZzB P t all H K (λkt=>arT P ts kt k) (λet=>arT P ts et v) xd=some out):
 ∃a d H' hs c,K a d H' hs c=some out/\Good P o ts all H a d H' hs c:=by
 have hv:=ZM (L:=lk H) hx;unfold ZzB at h;split at h
 ·rename_i id;split at h
  ·rename_i kt et hu;obtain⟨m,h1,h⟩:=yf.1 h;obtain⟨kd,h2,h⟩:=yf.1 h;obtain⟨key,h3,h⟩:=yf.1 h;obtain⟨z,h4,h⟩:=yf.1 h;obtain⟨zd,h40,h41⟩:=yf.1 h4;obtain⟨y,h6,h⟩:=yf.1 h;obtain⟨h5,h⟩:=Za h;obtain⟨e1,e2⟩:=Zql h1;have hk:=ZM (L:=lk H) h2;rw[ZBG h3] at hk;have hz:=ZM (L:=lk H) h40
   letI:=Ty.deq m.k
   refine⟨_,_,_,_,_,h,ZkH e1 rfl rfl,rfl,or3 (⟨rfl,λyQ=> ?_,λyQ=> ?_,[fitP P 20 kt (m.k.enc key),Zpr P kt (kvl m.k.enc m.v.enc m.l),Zpq (kvl m.k.enc m.v.enc m.l) (m.k.enc key) z.pe.soft (kvl m.k.enc m.v.enc (ZBo m.l key y))],
    ⟨ZoE h5 key,Zsk (ZoE h5) _,by rw[Zlu z m.v y h6];exact Zvw (Zzw h5) _ _ _,ytt⟩,λyQ=> ?_⟩)⟩
   ·unfold evN;rw[ho]
   ·unfold evR;rw[ho]
   ·unfold evE;rw[ho];dsimp only;rw[hu,hv];dsimp only[TD.er];rw[hk,hz,ZBw h41,e2]
    try dsimp only
    rw[yae,yw]
    try dsimp only
    rw[yW (ZDI h5),ZaJ (ZeL e1 rfl rfl)];rfl
  ·cases h
 ·cases h
def TP.nilT(x:TP)(T:Ty):Bool:=
 match x with
 |.sl (some false) t []=>decide (t.size=T.size)
 |_=>false
theorem ZFb{x:TP}{T:Ty}(h:x.nilT T=true):x.pe=.sl (some false) T.size []:=by
 unfold TP.nilT at h;split at h
 ·rename_i t;show Pl.sl (some false) t.size []=_;rw[yF h]
 ·cases h
def Zlz(T:Ty)(new:TD):yL Nat->TD->yO TD
 |[],.p x=>if x.nilT T then some new else none
 |i::r,.p x=>x.parts.bind λl=>(l[i]?).bind λz=>(Zlz T new r (.p z)).map λy=>.agg ((l.map .p).set i y)
 |i::r,.agg ds=>(ds[i]?).bind λz=>(Zlz T new r z).map λy=>.agg (ds.set i y)
 |_,_=>none
theorem ZoF{L:Lk}{T:Ty}{new:TD}:∀(yS:yL Nat)(d d':TD),Zlz T new yS d=some d'->Ws (d.er L) yS T.size (new.er L)=some (d'.er L)
 |[],d,d',h=>by
  cases d with
  |p x=>
   simp only[Zlz] at h;split at h
   ·rename_i hn;cases h;rw[TD.er,ZFb hn];simp[Ws]
   ·cases h
  |_=>cases h
 |i::r,d,d',h=>by
  cases d with
  |p x=>
   simp only[Zlz] at h;obtain⟨l,h1,h⟩:=yf.1 h;obtain⟨z,h2,h⟩:=yf.1 h;obtain⟨y,h3,rfl⟩:=Zd h;have:=ZoF (L:=L) r (.p z) y h3;rw[TD.er,ZBt h1];unfold Ws;rw[show(TP.pes l)[i]? =some z.pe by rw[Ze8,yan,h2];rfl];dsimp only;rw[TD.er] at this
   rw[this,yaa,TD.er,ZW,ybv, <-ZW,ZIk]
  |agg ds=>
   simp only[Zlz] at h;obtain⟨z,h2,h⟩:=yf.1 h;obtain⟨y,h3,rfl⟩:=Zd h;have:=ZoF (L:=L) r z y h3;rw[TD.er];unfold Ws;rw[Zjp h2];dsimp only
   rw[this,yaa,TD.er,ZW,ZW,ybv]
  |_=>cases h
def Zq8(d:TD)(n:Nat):yL (yL Nat×Ty×yc)->yO (TD×yL (Ty×yc))
 |[]=>some (d,[])
 |q::r=>(Zlz q.2.1 (.own n none q.2.1 none) q.1 d).bind λd'=>(Zq8 d' (n+1) r).map λz=>(z.1,(q.2.1,q.2.2)::z.2)
def ghH(l:yL (yL Nat×Ty×yc)):yL Hint:=l.map λq=>.ghost q.1 q.2.1.size q.2.2
def ZBK(l:yL (Ty×yc)):yL TEnt:=l.map λq=>.log q.1 q.2 []
def ZIr(L:Lk)(n:Nat):Prop:=∀id t,n<=id->Yy L id t none=[]
theorem Zqn{L:Lk}:∀(l:yL (yL Nat×Ty×yc))(d:TD)(n:Nat)(z:TD×yL (Ty×yc)),ZIr L n->Zq8 d n l=some z->∀yQ,
 Y4 (d.er L) n (ghH l++.raw::yQ)=(z.1.er L,z.2.map (λq=>Ent.log q.1.size q.2 []),.raw::yQ)
 |[],d,n,z,hN,h,yQ=>by cases h;rfl
 |q::r,d,n,z,hN,h,yQ=>by
  simp only[Zq8] at h;obtain⟨d',h1,h⟩:=yf.1 h;obtain⟨w,h2,rfl⟩:=Zd h;have e:=ZoF (L:=L) q.1 d d' h1;rw[TD.er,hN n q.2.1 (yj _)] at e;have ih:=Zqn r d' (n+1) w (λid t h=>hN id t (by omega)) h2 yQ;show Y4 (d.er L) n (.ghost q.1 q.2.1.size q.2.2::(ghH r++.raw::yQ))=_;unfold Y4;rw[show Ws (d.er L) q.1 q.2.1.size (Dv.own n none q.2.1.size [])=some (d'.er L) from e]
  dsimp only;rw[ih];rfl
theorem ZIs(H:yL TEnt):ZIr (lk H) H.length:=λid t h=>by
 unfold Yy lk;rw[yap h];rfl
theorem Zsr:∀(l:yL (Ty×yc))(H:yL TEnt),(∀id t,Yy (lk H) id t none=Yy (lk (H++ZBK l)) id t none)/\erH (H++ZBK l)=erH H++l.map (λq=>Ent.log q.1.size q.2 [])
 |[],H=>by simp[ZBK]
 |q::l,H=>by
  have e:H++ZBK (q::l)=(H++[.log q.1 q.2 []])++ZBK l:=by simp[ZBK]
  obtain⟨h1,h2⟩:=Zsr l (H++[.log q.1 q.2 []]);rw[e];refine⟨λid t=>(Zq7 id t).trans (h1 id t), ?_⟩;rw[h2,Zzv];simp
def newVar(hi:HI)(dst:yO Tmp)(d:TD)(all:yL TD)(H:yL TEnt)(K:Kn O):yO O:=
 match dst with
 |some t=>match hi.ghost.lookup t with
  |some l=>(Zq8 d (H.length+1) l).bind λz=>K all (.ref H.length []) (H++[.var z.1 true]++ZBK z.2) (ghH l++[.raw]) 2
  |none=>K all (.ref H.length []) (H++[.var d true]) [.raw] 2
 |none=>none
theorem Ztr{hi:HI}{dst:yO Tmp}{d:TD}(h:newVar hi dst d all H K=some out):
 ∃H' hs gd gl,K all (.ref H.length []) H' hs 2=some out/\TD.ers (lk H') all=TD.ers (lk H) all/\erH H'=erH H++Ent.var gd true::gl/\∀yQ,Y4 (d.er (lk H)) ((erH H).length+1) (hs++yQ)=(gd,gl,.raw::yQ):=by
 unfold newVar at h;split at h
 ·rename_i t;split at h
  ·rename_i l hl;obtain⟨z,h1,h⟩:=yf.1 h;obtain⟨c1,c2⟩:=Zsr z.2 (H++[.var z.1 true]);have hL:lk (H++[.var z.1 true])=lk H:=Zly rfl;refine⟨_,_,z.1.er (lk H),z.2.map (λq=>Ent.log q.1.size q.2 []),h, ?_, ?_,λyQ=> ?_⟩
   ·rw[<-ers_cont c1 all,hL]
   ·rw[c2,ZkE hL];simp[TEnt.er]
   ·rw[Yb,yad];exact Zqn l d _ z (λid t hh=>ZIs H id t (by omega)) h1 yQ
  ·refine⟨_,_,d.er (lk H),[],h,ZkF rfl, ?_,λyQ=> ?_⟩
   ·rw[ZkE (Zly rfl)];rfl
   ·rfl
 ·cases h
def ZDL(P:yg)(hi:HI)(dst:yO Tmp)(t:yc)(all:yL TD)(H:yL TEnt)(K:Kn O):yO O:=
 (P.info? t).bind λi=>(ZBH P t).bind λz=>if(zOk i&&okT P t (Vo P t)&&(Vo P t).solid)=true then newVar hi dst (.p z) all H K else none
theorem ZBL{hi:HI}{t:yc}(ho:o.op=.alloc t)(h:ZDL P hi o.dst t all H K=some out):∃a d H' hs c,K a d H' hs c=some out/\Good P o ts all H a d H' hs c:=by
 unfold ZDL at h;obtain⟨i,h1,h⟩:=yf.1 h;obtain⟨z,h2,h⟩:=yf.1 h;obtain⟨h3,h⟩:=Za h;obtain⟨H',hs,gd,gl,k1,k2,k3,k4⟩:=Ztr h;refine⟨_,_,_,_,_,k1,k2,rfl,or3 (⟨rfl,λyQ=> ?_,λyQ=> ?_,[],zT,λyQ=> ?_⟩)⟩
 ·unfold evN;rw[ho]
 ·unfold evR;rw[ho]
 ·have k5:=k4 yQ;rw[TD.er, <-ZvE h2] at k5;unfold evE;rw[ho];dsimp only;rw[h1];dsimp only;rw[k5];dsimp only;rw[yW h3,k3,Yb];rfl
def ZKR(L:Lk)(d:TD):TD:=
 match d.plain L with
 |some y=>.p y
 |none=>d
theorem ZKS{L:Lk}(d:TD):(ZKR L d).er L=ZDf (d.er L):=by
 unfold ZKR ZDf
 cases h:d.plain L with
 |none=>rw[ZvD h]
 |some y=>rw[Zx6 h];rfl
def ZMK(hi:HI)(dst:yO Tmp)(all:yL TD)(H:yL TEnt)(K:Kn O)(d:TD):yO O:=
 if((ZKR (lk H) d).er (lk H)).solid=true then newVar hi dst (ZKR (lk H) d) all H K else none
theorem ZGO{hi:HI}{t:yc}{x:yo}{xd:TD}(ho:o.op=.box t x)(hx:arT P ts t x=some xd)(h:ZMK hi o.dst all H K xd=some out):∃a d H' hs c,K a d H' hs c=some out/\Good P o ts all H a d H' hs c:=by
 have hv:=ZM (L:=lk H) hx;unfold ZMK at h;obtain⟨h3,h⟩:=Za h;obtain⟨H',hs,gd,gl,k1,k2,k3,k4⟩:=Ztr h;refine⟨_,_,_,_,_,k1,k2,rfl,or3 (⟨rfl,λyQ=> ?_,λyQ=> ?_,[],zT,λyQ=> ?_⟩)⟩
 ·unfold evN;rw[ho]
 ·unfold evR;rw[ho]
 ·have k5:=k4 yQ;rw[ZKS] at k5 h3;unfold evE;rw[ho];dsimp only;rw[hv,k5];dsimp only;rw[yW h3,k3,Yb];rfl
def TD.meltP(L:Lk)(v:TD):TD:=
 match v.flat L with
 |some x=>.p x
 |none=>v
theorem ZvG{L:Lk}(v:TD):(v.meltP L).er L=(v.er L).meltP:=by
 unfold TD.meltP Dv.meltP;rw[ZuA];cases v.flat L <;> rfl
def ZzD(L:Lk)(yS:yL Stp)(d v:TD):yO TD:=
 match d,yS with
 |.p _,_=>some (v.meltP L)
 |_,[]=>some (v.meltP L)
 |_,_=>some v
theorem Zss{L:Lk}{yS:yL Stp}{d v new:TD}(h:ZzD L yS d v=some new):ZhQ (yS.map Stp.i) (d.er L) (v.er L)=some (new.er L):=by
 unfold ZzD at h;split at h
 ·cases h;unfold ZhQ;rw[TD.er];dsimp only;rw[ZvG]
 ·cases h;unfold ZhQ;split
  ·rw[ZvG]
  ·simp only[List.map_nil];rw[ZvG]
 ·rename_i h1 h2;cases h;unfold ZhQ;split
  ·rename_i z hz;cases d <;> first|cases hz|skip
   rename_i q;exact absurd rfl (h1 q)
  ·cases yS with
   |nil=>exact absurd rfl h2
   |cons _ _=>rfl
def ZoG(P:yg)(t:yc)(new sub:Dv):Bool:=new.solid&&new.size==sub.size&&P.cellsOf t==new.size&&(P.info? t).isSome&&new.isAgg==sub.isAgg
def ZN5(hi:HI):yo->yL (yL Nat×Ty×yc)
 |.tmp t=>(hi.gst.lookup t).getD []
 |_=>[]
def ZDM(P:yg)(gs:yL (yL Nat×Ty×yc))(t:yc)(all:yL TD)(H:yL TEnt)(K:Kn O)(v:TD):TD->yO O
 |.ref id yS=>match H[id]? with
  |some (.var d true)=>gpT (lk H) yS d λsub hs put=>(ZzD (lk H) yS d v).bind λnew=>(put new).bind λd'=>(Zq8 d' H.length gs).bind λz=>
   if ZoG P t (new.er (lk H)) (sub.er (lk H))=true then K all .junk (H.set id (.var z.1 true)++ZBK z.2) (hs++(ghH gs++[.raw])) 2 else none
  |_=>none
 |.rref id v' yS=>match H[id]? with
  |some (.row w s true e d)=>gpT (lk H) yS d λsub hs put=>(ZzD (lk H) yS d v).bind λnew=>(put new).bind λd'=>
   if(ZoG P t (new.er (lk H)) (sub.er (lk H))&&w==v'&&rowN (d'.er (lk H)) s==rowN (d.er (lk H)) s)=true then K all .junk (H.set id (.row v' s true e d')) hs 2 else none
  |_=>none
 |_=>none
theorem ZBM{gs:yL (yL Nat×Ty×yc)}{t:yc}{x y:yo}{xd yd:TD}(ho:o.op=.store t x y)(hx:arT P ts 0 x=some xd)(hy:arT P ts t y=some yd)(h:ZDM P gs t all H K yd xd=some out):
 ∃a d H' hs c,K a d H' hs c=some out/\Good P o ts all H a d H' hs c:=by
 have hv:=ZM (L:=lk H) hx;have hw:=ZM (L:=lk H) hy;unfold ZDM at h;split at h
 ·rename_i id yS;split at h
  ·rename_i d hd;obtain⟨sub,hs,put,C,k1,k2,k3,k4⟩:=V8 _ _ _ _ h;obtain⟨new,h1,h2⟩:=yf.1 k1;obtain⟨d',h3,h2⟩:=yf.1 h2;obtain⟨z,h5,h2⟩:=yf.1 h2;obtain⟨h4,h2⟩:=Za h2;unfold ZoG at h4;obtain⟨g1,g2⟩:=Zsr z.2 (H.set id (.var z.1 true));have hL:lk (H.set id (.var z.1 true))=lk H:=ZeL hd rfl rfl;refine⟨_,_,_,_,_,h2, ?_,rfl,or3 (⟨rfl,λyQ=> ?_,λyQ=> ?_,C++[Zh3 yS=QQ yS],Zp.2 ⟨k2,(QR _).symm,ytt⟩,λyQ=> ?_⟩)⟩
   ·rw[<-ers_cont g1 all,hL]
   ·unfold evN;rw[ho]
   ·unfold evR;rw[ho]
   ·have k5:=Zqn gs d' H.length z (ZIs H) h5 yQ;unfold evE;rw[ho];dsimp only;rw[hv,hw];dsimp only[TD.er];rw[Xs hd];dsimp only[TEnt.er];rw[yad,k3 (ghH gs++[Hint.raw]++yQ)];dsimp only;rw[Zss h1];dsimp only;rw[k4 new d' h3 _];dsimp only;rw[yW h4,Yb,yad];rw[show([Hint.raw]++yQ)=.raw::yQ from rfl,k5]
    dsimp only;rw[g2,ZaJ hL];rfl
  ·cases h
 ·rename_i id v' yS;split at h
  ·rename_i w s e d hd;obtain⟨sub,hs,put,C,k1,k2,k3,k4⟩:=V8 _ _ _ _ h;obtain⟨new,h1,h2⟩:=yf.1 k1;obtain⟨d',h3,h2⟩:=yf.1 h2;obtain⟨h4,h2⟩:=Za h2;rw[yi,yi] at h4;obtain⟨⟨h4,h5⟩,h6⟩:=h4;have h4':=h4;unfold ZoG at h4';have hL:lk (H.set id (.row v' s true e d'))=lk H:=ZeL hd rfl rfl;refine⟨_,_,_,_,_,h2,ZkH hd rfl rfl,rfl,or3 (⟨rfl,λyQ=> ?_,λyQ=> ?_,C++[Zh3 yS=QQ yS],Zp.2 ⟨k2,(QR _).symm,ytt⟩,λyQ=> ?_⟩)⟩
   ·unfold evN;rw[ho]
   ·unfold evR;rw[ho]
   ·unfold evE;rw[ho];dsimp only;rw[hv,hw];dsimp only[TD.er];rw[Xs hd];dsimp only[TEnt.er];rw[k3 yQ];dsimp only;rw[Zss h1];dsimp only;rw[k4 new d' h3 _];dsimp only;rw[yW (by simp only[yi] at h4' ⊢;exact⟨⟨h4',h5⟩,h6⟩),ZaJ hL];rfl
  ·cases h
 ·cases h
def ZzE(P:yg)(ts:yL TD)(t:yc)(len:Nat)(parts:yL (Nat×yo))(all:yL TD)(H:yL TEnt)(K:Kn O):yO O:=
 ZGM (lk H) P ts t len parts λT l e=>if(TD.frees H.length all&&H.all (TEnt.free H.length))=true then K all (.own H.length (some true) T none) (H++[.log T e l]) [.own] 2 else none
theorem ZzF{t:yc}{len:Nat}{parts:Array (Nat×yo)}(ho:o.op=.buildSlice t len parts)(h:ZzE P ts t len parts.toList all H K=some out):
 ∃a d H' hs c,K a d H' hs c=some out/\Good P o ts all H a d H' hs c:=by
 unfold ZzE at h;obtain⟨e,T,l,i,xs,h1,hu,hi,hl,hz,hs,hx⟩:=ZoD h;obtain⟨h2,h1⟩:=Za h1;rw[yi] at h2;refine⟨_,_,_,_,_,h1,Zno h2.1,rfl,or3 (⟨rfl,λyQ=> ?_,λyQ=> ?_,[],zT,λyQ=> ?_⟩)⟩
 ·unfold evN;rw[ho];rfl
 ·unfold evR;rw[ho]
 ·unfold evE;rw[ho];dsimp only;rw[yae,yw];dsimp only;rw[hu];dsimp only;rw[hi,hl];dsimp only;rw[yW (by simpa using hz),hx,ZE9 h2.2,Yb,TD.er,ZkG,hs]
def ZBN(P:yg)(T:Ty)(u:yc)(H:yL TEnt)(K:yL T.den->yL Hint->yO O)(x:TD):yO O:=
 match x with
 |.view id yS s lo n=>match P.underlying u with
  |some (.slice _)=>(Ztp H id).bind λd=>gpT (lk H) yS d λsub hs _=>sub.inner.bind λy=>y.arow.bind λr=>(Ty.castL r.t T r.l).bind λl=>
   if(decide (s=T.size))=true then if(decide (lo+n<=r.n))=true then K ((l.drop lo).take n) hs else none else none
  |_=>none
 |.rv id v s lo n=>match P.underlying u,H[id]? with
  |some (.slice _),some (.row w s' _ _ d)=>d.inner.bind λy=>y.arow.bind λr=>(Ty.castL r.t T r.l).bind λl=>
   if(decide (s=T.size)&&decide (s'=T.size)&&w==v)=true then if(decide (lo+n<=r.n))=true then K ((l.drop lo).take n) [] else none else none
  |_,_=>none
 |.rw id=>match P.underlying u,H[id]? with
  |some (.slice _),some (.rowT T' v st e l')=>(Ty.castL T' T l').bind λl=>K l []
  |_,_=>none
 |x=>(ZDD (lk H) P T u x).bind λl=>K l []
theorem Zqo{T:Ty}{u:yc}{x:TD}{K:yL T.den->yL Hint->yO O}(h:ZBN P T u H K x=some out):
 ∃l hs C,K l hs=some out/\AllP C/\∀yQ,Zw6 P T.size u (erH H) (hs++yQ) (x.er (lk H))=some (C,l.map T.enc,yQ):=by
 unfold ZBN at h;split at h
 ·rename_i id yS s lo n;split at h
  ·rename_i e hu;obtain⟨d,h1,h⟩:=yf.1 h;obtain⟨st,h2,h3⟩:=Zh4 h1;obtain⟨sub,hs,put,C,k1,k2,k3,_⟩:=V8 _ _ _ _ h;obtain⟨y,p1,k1⟩:=yf.1 k1;obtain⟨r,p2,k1⟩:=yf.1 k1;obtain⟨l,p3,k1⟩:=yf.1 k1;obtain⟨p4,k1⟩:=Za k1;obtain⟨p5,k1⟩:=Za k1;have p4:=yF p4;have p5:=yF p5
   have esub:sub.er (lk H)=.p (.arr r.n T.size (l.map T.enc)):=by
    rw[W4 p1,TD.er,Zcm p2];obtain⟨e,p3⟩:=ZQ p3;obtain⟨n0,t0,l0⟩:=r;dsimp only at e p3 ⊢;subst e;subst p3;rfl
   refine⟨_,_,C++[Zh3 yS=QQ yS,lo+n<=r.n],k1,Zp.2 ⟨k2,(QR _).symm,p5,ytt⟩,λyQ=> ?_⟩;unfold Zw6;rw[TD.er];dsimp only;rw[hu,h3];dsimp only;rw[k3 yQ,esub];dsimp only;rw[yW (by simp[p4]),yck,List.map_drop]
  ·cases h
 ·rename_i id v s lo n;split at h
  ·rename_i e w s' st e' d hu hd;obtain⟨y,p1,k1⟩:=yf.1 h;obtain⟨r,p2,k1⟩:=yf.1 k1;obtain⟨l,p3,k1⟩:=yf.1 k1;obtain⟨p4,k1⟩:=Za k1;obtain⟨p5,k1⟩:=Za k1;simp only[yi,yP] at p4;have p5:=yF p5
   have esub:d.er (lk H)=.p (.arr r.n T.size (l.map T.enc)):=by
    rw[W4 p1,TD.er,Zcm p2];obtain⟨e,p3⟩:=ZQ p3;obtain⟨n0,t0,l0⟩:=r;dsimp only at e p3 ⊢;subst e;subst p3;rfl
   refine⟨_,_,[lo+n<=r.n],k1,⟨p5,ytt⟩,λyQ=> ?_⟩;unfold Zw6;rw[TD.er];dsimp only;rw[hu,Xs hd,TEnt.er,esub];dsimp only;rw[yW (by simp[p4]),yck,List.map_drop];rfl
  ·cases h
 ·rename_i id;split at h
  ·rename_i e T' v st e' l' hu hd;obtain⟨l,p3,k1⟩:=yf.1 h;obtain⟨eT,p3⟩:=ZQ p3;subst eT;subst p3;refine⟨l,[],[0+l.length<=l.length],k1,⟨by omega,ytt⟩,λyQ=> ?_⟩;unfold Zw6;rw[(Zjt hd).1];dsimp only;rw[hu,Xs hd,TEnt.er];dsimp only;rw[yW (by simp),List.drop_zero, <-yac (f:=T'.enc),yat];simp
  ·cases h
 ·rename_i hx hx2 hx3;obtain⟨l,h1,h⟩:=yf.1 h;refine⟨l,[],[],h,zT,λyQ=> ?_⟩;rw[yw];unfold Zw6;split
  ·rename_i e;cases x <;> first|cases e|skip
   exact absurd rfl (hx _ _ _ _ _)
  ·rename_i e;cases x <;> first|cases e|skip
   ·exact absurd rfl (hx2 _ _ _ _ _)
   ·exact absurd rfl (hx3 _)
  ·rw[Zq5 h1];rfl
structure LogE where
 t:Ty
 e:yc
 l:List t.den
def ZIt(H:yL TEnt)(id:Nat):yO LogE:=
 match H[id]? with
 |some (.log t e l)=>some ⟨t,e,l⟩
 |_=>none
theorem ZDN{id:Nat}{m:LogE}(h:ZIt H id=some m):H[id]? =some (.log m.t m.e m.l):=by
 unfold ZIt at h;split at h
 ·rename_i hd;cases h;exact hd
 ·cases h
def apB(n m b:Nat):Bool:=decide ((n+m)*b<=Zw)&&decide (n+m<=maxLen)
def ZzG(P:yg)(own row:Bool)(t u:yc)(all:yL TD)(H:yL TEnt)(K:Kn O)(y:TD):TD->yO O
 |.own id nn T none=>match P.underlying t with
  |some (.slice e)=>(P.info? e).bind λi=>(ZIt H id).bind λm=>(Ty.castL m.t T m.l).bind λzs=>ZBN P T u H (λys hs=>
   if(zOk i&&decide (i.size=T.size)&&decide (m.e=e)&&decide (T.size≠0))=true then if apB zs.length ys.length i.bytes=true then
    K (TD.stales (lk H) id all) (.own id none T none) ((H.map (TEnt.stale (lk H) id)).set id (.log T e (zs++ys))) hs 2 else none else none) y
  |_=>none
 |.rv id v s lo n=>match P.underlying t with
  |some (.slice e)=>(P.info? e).bind λi=>(Zo1 P tyD e).bind λT=>ZBN P T u H (λys hs=>if ys.isEmpty=true then
    if(zOk i&&decide (P.cellsOf e=T.size))=true then K all (.rv id v s lo n) H (.bare::hs) 2 else none
   else match H[id]? with
    |some (.row w s' true e' d)=>d.inner.bind λy0=>y0.arow.bind λr=>(Ty.castL r.t T r.l).bind λxs=>
     if(zOk i&&decide (i.size=T.size)&&decide (s'=T.size)&&decide (e'=e)&&decide (T.size≠0)&&w==v&&decide (lo=0)&&decide (s=T.size))=true then if(decide (n<=r.n)&&apB n ys.length i.bytes)=true then
      K all (.rv id (v+1) s 0 (n+ys.length)) (H.set id (.row (v+1) s true e (.p (.v (.arr (n+ys.length) T) (xs.take n++ys))))) (.raw::hs) 2 else none else none
    |_=>none) y
  |_=>none
 |.p (.sl (some false) _ [])=>if row then match P.underlying t with
  |some (.slice e)=>(P.info? e).bind λi=>(Zo1 P tyD e).bind λT=>(ZDD (lk H) P T u y).bind λys=>
   if(zOk i&&i.size !=0&&decide (i.size=T.size)&&decide (P.cellsOf e=T.size))=true then if ZDs ys.length i.bytes=true then
    K all (.rv H.length 0 i.size 0 ys.length) (H++[.row 0 i.size true e (.p (.v (.arr ys.length T) ys))]) [.arr] 2 else none else none
  |_=>none else if own then match P.underlying t with
  |some (.slice e)=>(P.info? e).bind λi=>(Zo1 P tyD e).bind λT=>(ZDD (lk H) P T u y).bind λys=>
   if(zOk i&&i.size !=0&&decide (i.size=T.size)&&decide (P.cellsOf e=T.size)&&TD.frees H.length all&&H.all (TEnt.free H.length))=true then if ZDs ys.length i.bytes=true then
    K all (.own H.length none T none) (H++[.log T e ys]) [.own] 2 else none else none
  |_=>none else none
 |_=>none
theorem ZIu{id:Nat}{T:Ty}{e:yc}{l:yL T.den}(H:yL TEnt)(h:id < H.length):Yy (lk (H.set id (.log T e l))) id T none=l:=by
 unfold Yy lk;dsimp only;rw[ycx h];show(Ty.castL T T l).getD []=l;unfold Ty.castL;split
 ·rfl
 ·rename_i h _;exact absurd rfl h
theorem ZlA{L:Lk}{n:Nat}:∀(l:yL TD),(TD.stales L n l).length=l.length
 |[]=>rfl
 |_::r=>by rw[TD.stales,yai,yai,ZlA r]
def ZDO(H:yL TEnt):TD->TD
 |.own id nn T (some zs)=>match H[id]? with
  |some (.log t e l)=>match Ty.castL t T l with
   |some l'=>if@decide (l'=zs) (@instDecidableEqList T.den (Ty.deq T) l' zs)=true then .own id nn T none else .own id nn T (some zs)
   |none=>.own id nn T (some zs)
  |_=>.own id nn T (some zs)
 |d=>d
theorem ZGP(d:TD):(ZDO H d).er (lk H)=d.er (lk H):=by
 unfold ZDO;split
 ·rename_i id nn T zs;split
  ·rename_i t e l hd;split
   ·rename_i l' hc;split
    ·rename_i he;have he:=@of_decide_eq_true _ (@instDecidableEqList T.den (Ty.deq T) l' zs) he;rw[TD.er,TD.er]
     have:Yy (lk H) id T none=zs:=by
      unfold Yy lk;dsimp only;rw[hd];show(Ty.castL t T l).getD []=zs;rw[hc, <-he];rfl
     rw[this];rfl
    ·rfl
   ·rfl
  ·rfl
 ·rfl
theorem ZzH{own row:Bool}{t u:yc}{x y:yo}{c:Call}{xd yd:TD}(ho:o.op=.call c)(hc:c.callee=.builtin .append)(ha:c.args.toList=[x,y])(ht:c.argTypes.toList=[t,u])
 (hv:ZS P (TD.ers (lk H) ts) t x=xd.er (lk H)) (hy:arT P ts u y=some yd) (h:ZzG P own row t u all H K yd xd=some out):∃a d H' hs c,K a d H' hs c=some out/\Good P o ts all H a d H' hs c:=by
 have hw:=ZM (L:=lk H) hy;unfold ZzG at h;split at h
 ·rename_i id nn T;split at h
  ·rename_i e hu;obtain⟨i,h1,h⟩:=yf.1 h;obtain⟨m,h2,h⟩:=yf.1 h;obtain⟨zs,h3,h⟩:=yf.1 h;obtain⟨ys,hs,C,k1,k2,k3⟩:=Zqo h;obtain⟨k4,k6⟩:=Za k1;obtain⟨k5,kk⟩:=Za k6;clear k1 k6;simp only[yi,yP] at k4;obtain⟨⟨⟨g1,g2⟩,g3⟩,g4⟩:=k4;simp only[apB,yi,yP] at k5;have hl:=ZDN h2;obtain⟨mt,me,ml⟩:=m;dsimp only at h3 g3 hl;obtain⟨eT,h3⟩:=ZQ h3;subst eT;subst h3;subst g3;have hlt:id < H.length:=(yq.1 hl).1
   have ec:Yy (lk H) id mt none=zs:=by
    unfold Yy lk;dsimp only;rw[hl];show(Ty.castL mt mt zs).getD []=zs;unfold Ty.castL;split
    ·rfl
    ·rename_i h _;exact absurd rfl h
   refine⟨_,_,_,_,_,kk,ers_stale (λid' t hn=>ZhJ (lk H) id' t hn) all,ZlA all,or3 (⟨rfl,λyQ=> ?_,λyQ=> ?_,
    C++[zs.map mt.enc=zs.map mt.enc,((zs.map mt.enc).length+(ys.map mt.enc).length)*i.bytes<=Zw,(zs.map mt.enc).length+(ys.map mt.enc).length<=maxLen],Zp.2 ⟨k2,rfl,by simpa using k5.1,by simpa using k5.2,ytt⟩,λyQ=> ?_⟩)⟩
   ·unfold evN;rw[ho];dsimp only;rw[hc];dsimp only;rw[ha,ht];split
    ·rename_i e1 e2 e3;simp only[List.cons.injEq,and_true] at e1 e2;obtain⟨rfl,rfl⟩:=e1;obtain⟨rfl,rfl⟩:=e2;rw[hu,hv];rfl
    ·rfl
   ·unfold evR;rw[ho];dsimp only;rw[hc]
   ·unfold evE;rw[ho];dsimp only;rw[hc];dsimp only;rw[ha,ht];dsimp only;rw[hu,hv,hw];dsimp only[TD.er];rw[ec,h1,k3 yQ,Xs hl];dsimp only[TEnt.er];rw[yW (by simp[g1,g2,g4]),ZIo,ZIu _ (by rw[yac];exact hlt),ybb]
  ·cases h
 ·rename_i id v s lo n;split at h
  ·rename_i e hu;obtain⟨i,h1,h⟩:=yf.1 h;obtain⟨T,h2,h⟩:=yf.1 h;obtain⟨ys,hs,C,k1,k2,k3⟩:=Zqo h
   have nN:∀hs,evN P o (TD.ers (lk H) ts) hs=none:=λhs=>by
    unfold evN;rw[ho];dsimp only;rw[hc];dsimp only;rw[ha,ht]
    cases hs with
    |nil=>rfl
    |cons h0 hr=>cases h0 <;> first|rfl|(dsimp only;rw[hu,hv];rfl)
   have nR:∀hs,evR P o (TD.ers (lk H) ts) (erH H) hs=none:=λhs=>by
    unfold evR;rw[ho];dsimp only;rw[hc]
   split at k1
   ·rename_i hemp;obtain⟨k4,k5⟩:=Za k1;simp only[yi,yP] at k4;have hys:ys=[]:=by simpa using hemp
    refine⟨_,_,_,_,_,k5,rfl,rfl,or3 (⟨rfl,λyQ=>nN _,λyQ=>nR _,C++[ys.map T.enc=[]],Zp.2 ⟨k2,by rw[hys];rfl,ytt⟩,λyQ=> ?_⟩)⟩;unfold evE;rw[ho];dsimp only;rw[hc];dsimp only;rw[ha,ht];dsimp only;rw[hu,hv,hw];dsimp only[TD.er];rw[yae];dsimp only;rw[h1,k4.2,k3 yQ];dsimp only;rw[yW k4.1]
   ·split at k1
    ·rename_i w s' e' d hd;obtain⟨y0,p1,q1⟩:=yf.1 k1;obtain⟨r,p2,q2⟩:=yf.1 q1;obtain⟨xs,p3,q3⟩:=yf.1 q2;obtain⟨p4,q4⟩:=Za q3;obtain⟨p5,q5⟩:=Za q4;simp only[yi,yP,yT] at p4;obtain⟨⟨⟨⟨⟨⟨⟨g1,g2⟩,g3⟩,g4⟩,g5⟩,g6⟩,g7⟩,g8⟩:=p4;simp only[apB,yi,yP] at p5
     have esub:d.er (lk H)=.p (.arr r.n T.size (xs.map T.enc)):=by
      rw[W4 p1,TD.er,Zcm p2];obtain⟨e,p3⟩:=ZQ p3;obtain⟨n0,t0,l0⟩:=r;dsimp only at e p3 ⊢;subst e;subst p3;rfl
     refine⟨_,_,_,_,_,q5,ZkH hd rfl rfl,rfl,or3 (⟨rfl,λyQ=>nN _,λyQ=>nR _,C++[n<=r.n,(n+(ys.map T.enc).length)*i.bytes<=Zw,n+(ys.map T.enc).length<=maxLen,true=true\/n=r.n],
      Zp.2 ⟨k2,p5.1,by simpa using p5.2.1,by simpa using p5.2.2,.inl rfl,ytt⟩,λyQ=> ?_⟩)⟩
     unfold evE;rw[ho];dsimp only;rw[hc];dsimp only;rw[ha,ht];dsimp only;rw[hu,hv,hw];dsimp only[TD.er];rw[yae];dsimp only;rw[h1,g8,k3 yQ,Xs hd,TEnt.er,esub];dsimp only;rw[yW (by simp[g1,g2,g3,g4,g5,g6,g7]),ZaJ (ZeL hd rfl rfl)];simp only[TEnt.er,TD.er,TP.pe,Zzj,yac,ybb,yck]
    ·cases k1
  ·cases h
 ·rename_i T0;split at h
  ·split at h
   ·rename_i e hu;obtain⟨i,h1,h⟩:=yf.1 h;obtain⟨T,h2,h⟩:=yf.1 h;obtain⟨ys,h3,h⟩:=yf.1 h;obtain⟨k4,h⟩:=Za h;obtain⟨k5,h⟩:=Za h;simp only[yi,yP] at k4;obtain⟨⟨⟨g1,g2⟩,g3⟩,g4⟩:=k4;obtain⟨g7,g8⟩:=Zh2 k5;refine⟨_,_,_,_,_,h,ZkF rfl,rfl,or3 (⟨rfl,λyQ=> ?_,λyQ=> ?_,[(ys.map T.enc).length*i.bytes<=Zw,(ys.map T.enc).length<=maxLen],⟨by rw[yac];exact g7,by rw[yac];exact g8,ytt⟩,λyQ=> ?_⟩)⟩
    ·unfold evN;rw[ho];dsimp only;rw[hc];dsimp only;rw[ha,ht];rfl
    ·unfold evR;rw[ho];dsimp only;rw[hc]
    ·unfold evE;rw[ho];dsimp only;rw[hc];dsimp only;rw[ha,ht];dsimp only;rw[hu,hv,hw,show(TD.p (TP.sl (some false) T0 [])).er (lk H)=Dv.p (.sl (some false) T0.size []) from rfl]
     dsimp only;rw[h1,g4,Zq5 h3,yae,yw];dsimp only;rw[yW (by simp only[yi];exact⟨g1,g2⟩),ZkE (Zly rfl),Yb];simp only[TEnt.er,TD.er,TP.pe,Zzj,yac,g3]
   ·cases h
  split at h
  ·split at h
   ·rename_i e hu;obtain⟨i,h1,h⟩:=yf.1 h;obtain⟨T,h2,h⟩:=yf.1 h;obtain⟨ys,h3,h⟩:=yf.1 h;obtain⟨k4,h⟩:=Za h;obtain⟨k5,h⟩:=Za h;simp only[yi,yP] at k4;obtain⟨⟨⟨⟨⟨g1,g2⟩,g3⟩,g4⟩,g5⟩,g6⟩:=k4;obtain⟨g7,g8⟩:=Zh2 k5;refine⟨_,_,_,_,_,h,Zno g5,rfl,or3 (⟨rfl,λyQ=> ?_,λyQ=> ?_,[(ys.map T.enc).length*i.bytes<=Zw,(ys.map T.enc).length<=maxLen],⟨by rw[yac];exact g7,by rw[yac];exact g8,ytt⟩,λyQ=> ?_⟩)⟩
    ·unfold evN;rw[ho];dsimp only;rw[hc];dsimp only;rw[ha,ht];rfl
    ·unfold evR;rw[ho];dsimp only;rw[hc]
    ·unfold evE;rw[ho];dsimp only;rw[hc];dsimp only;rw[ha,ht];dsimp only;rw[hu,hv,hw,show(TD.p (TP.sl (some false) T0 [])).er (lk H)=Dv.p (.sl (some false) T0.size []) from rfl]
     dsimp only;rw[h1,g4,Zq5 h3,yae,yw];dsimp only;rw[yW (by simp only[yi];exact⟨g1,g2⟩),ZE9 g6,Yb,TD.er,ZkG,g3]
   ·cases h
  ·cases h
 ·cases h
def ZDP(H:yL TEnt)(id:Nat):Bool:=
 match H[id]? with
 |some (.var _ false)=>true
 |_=>false
def ZML(P:yg)(t:yc)(lo hi:yO Int)(all:yL TD)(H:yL TEnt)(K:Kn O):TD->yO O
 |.ref id yS=>match P.underlying t with
  |some (.array n e)=>(Ztp H id).bind λd=>gpT (lk H) yS d λsub hs _=>sub.inner.bind λy=>y.arow.bind λr=>
   if(decide (n=r.n)&&okB P e r.t.size&&decide (n<=maxLen))=true then if ZaE n lo hi=true then(if ZDP H id=true then K all (.p (.sl (some true) r.t (Q9 r.l lo hi))) H (.frz::hs) 1 else
    K all (.p (.sl (some true) r.t (Q9 r.l lo hi))) (H.set id (.var d false)) (.frz::hs) 2) else none else none
  |_=>none
 |_=>none
theorem ZGQ{t:yc}{x:yo}{lo hi:yO yo}{l h':yO Int}{xd:TD}(ho:o.op=.slice t x lo hi none)(hx:arT P ts t x=some xd)(hl:ZkC P ts lo=some l)(hh:ZkC P ts hi=some h')
 (h:ZML P t l h' all H K xd=some out):∃a d H' hs c,K a d H' hs c=some out/\Good P o ts all H a d H' hs c:=by
 have hv:=ZM (L:=lk H) hx;have hl:=Zha (L:=lk H) hl;have hh:=Zha (L:=lk H) hh;unfold ZML at h;split at h
 ·rename_i id yS;split at h
  ·rename_i n e hu;obtain⟨d,h1,h⟩:=yf.1 h;obtain⟨st,h2,h3⟩:=Zh4 h1;obtain⟨sub,hs,put,C,k1,k2,k3,_⟩:=V8 _ _ _ _ h;obtain⟨y,p1,k1⟩:=yf.1 k1;obtain⟨r,p2,k1⟩:=yf.1 k1;obtain⟨p4,k1⟩:=Za k1;obtain⟨p5,k1⟩:=Za k1;have esub:sub.er (lk H)=.p (.arr r.n r.t.size (r.l.map r.t.enc)):=by rw[W4 p1,TD.er,Zcm p2]
   have nN:∀yQ,evN P o (TD.ers (lk H) ts) (.frz::hs++yQ)=none:=λyQ=>by
    unfold evN;rw[ho];dsimp only;rw[hu,hv,hl,hh];rfl
   split at k1
   ·rename_i hst
    have hst':st=false:=by
     unfold ZDP at hst;rw[h2] at hst
     cases st with
     |false=>rfl
     |true=>cases hst
    subst hst';refine⟨_,_,_,_,_,k1,rfl,rfl,.inr (.inl ⟨rfl,rfl,nN,C++[Zh3 yS=QQ yS]++XT n l h',Zp.2 ⟨Zp.2 ⟨k2,(QR _).symm,ytt⟩,Zh1 p5⟩,λyQ=> ?_⟩)⟩;unfold evR;rw[ho];dsimp only;rw[hu,hv,hl,hh];dsimp only[TD.er];rw[yae];dsimp only;rw[h3];dsimp only;rw[k3 yQ,esub];dsimp only;rw[yW (by simpa[okB,and_assoc] using p4),TP.pe,Zjq]
   rename_i hst
   have hst':st=true:=by
    unfold ZDP at hst;rw[h2] at hst
    cases st with
    |true=>rfl
    |false=>exact absurd rfl hst
   subst hst';refine⟨_,_,_,_,_,k1,ZkH h2 rfl rfl,rfl,or3 (⟨rfl,nN,λyQ=> ?_,C++[Zh3 yS=QQ yS]++XT n l h',Zp.2 ⟨Zp.2 ⟨k2,(QR _).symm,ytt⟩,Zh1 p5⟩,λyQ=> ?_⟩)⟩
   ·unfold evR;rw[ho];dsimp only;rw[hu,hv,hl,hh];dsimp only[TD.er];rw[yae];dsimp only;rw[h3]
   ·unfold evE;rw[ho];dsimp only;rw[hu,hv,hl,hh];dsimp only[TD.er];rw[yae];dsimp only;rw[h3];dsimp only;rw[k3 yQ,esub];dsimp only;rw[yW (by simpa[okB,and_assoc] using p4),ZaJ (ZeL h2 rfl rfl),TP.pe,Zjq];rfl
  ·cases h
 ·cases h
def ZzI(dst:Tmp)(all:yL TD)(H:yL TEnt)(K:Kn O):TD->yO O
 |.view id yS s lo n=>(Ztp H id).bind λd=>gpT (lk H) yS d λsub hs _=>sub.inner.bind λy=>y.arow.bind λr=>
  if(decide (r.t.size=s))=true then if(decide (lo+n<=r.n))=true then K all (.p (.sl (some true) r.t ((r.l.drop lo).take n))) (H.set id (.var d false)) (.still dst::hs) 2 else none else none
 |.rv id v s lo n=>match H[id]? with
  |some (.row w s' _ e d)=>d.inner.bind λy=>y.arow.bind λr=>
   if(decide (r.t.size=s)&&decide (s'=s)&&w==v)=true then if(decide (lo+n<=r.n))=true then K all (.p (.sl none r.t ((r.l.drop lo).take n))) (H.set id (.row v s false e d)) [.still dst] 2 else none else none
  |_=>none
 |_=>none
theorem ZBO{dst:Tmp}{xd:TD}(h:ZzI dst all H K xd=some out):∃a d H' hs,K a d H' (.still dst::hs) 2=some out/\TD.ers (lk H') a=TD.ers (lk H) all/\a.length=all.length/\
 ∃C,AllP C/\∀yQ,ZhR (xd.er (lk H)) (erH H) (hs++yQ)=some (C,d.er (lk H'),erH H',yQ):=by
 unfold ZzI at h;split at h
 ·rename_i id yS s lo n;obtain⟨d,h1,h⟩:=yf.1 h;obtain⟨st,h2,h3⟩:=Zh4 h1;obtain⟨sub,hs,put,C,k1,k2,k3,_⟩:=V8 _ _ _ _ h;obtain⟨y,p1,k1⟩:=yf.1 k1;obtain⟨r,p2,k1⟩:=yf.1 k1;obtain⟨p4,k1⟩:=Za k1;obtain⟨p5,k1⟩:=Za k1;have p4:=yF p4;have p5:=yF p5;have esub:sub.er (lk H)=.p (.arr r.n r.t.size (r.l.map r.t.enc)):=by rw[W4 p1,TD.er,Zcm p2]
  refine⟨_,_,_,_,k1,ZkH h2 rfl rfl,rfl,C++[Zh3 yS=QQ yS,lo+n<=r.n],Zp.2 ⟨k2,(QR _).symm,p5,ytt⟩,λyQ=> ?_⟩;unfold ZhR;rw[show(TD.view id yS s lo n).er (lk H)=Dv.view id (QQ yS) (yS.map Stp.i) s lo n from rfl]
  try dsimp only
  rw[h3]
  try dsimp only
  rw[k3 yQ,esub]
  try dsimp only
  rw[yW p4,ZaJ (ZeL h2 rfl rfl),TD.er,TP.pe,yck,List.map_drop,p4]
  try rfl
 ·rename_i id v s lo n;split at h
  ·rename_i w s' st e d hd;obtain⟨y,p1,k1⟩:=yf.1 h;obtain⟨r,p2,k1⟩:=yf.1 k1;obtain⟨p4,k1⟩:=Za k1;obtain⟨p5,k1⟩:=Za k1;simp only[yi,yP] at p4;have p5:=yF p5;have esub:d.er (lk H)=.p (.arr r.n r.t.size (r.l.map r.t.enc)):=by rw[W4 p1,TD.er,Zcm p2]
   refine⟨_,_,_,[],k1,ZkH hd rfl rfl,rfl,[lo+n<=r.n],⟨p5,ytt⟩,λyQ=> ?_⟩;rw[yw];unfold ZhR;rw[show(TD.rv id v s lo n).er (lk H)=Dv.rv id v s lo n from rfl]
   dsimp only;rw[Xs hd,TEnt.er,esub];dsimp only;rw[yW (by simp[p4]),ZaJ (ZeL hd rfl rfl),TEnt.er,esub,TD.er,TP.pe,yck,List.map_drop,p4.1.1]
  ·cases h
 ·cases h
theorem ZBP{x:yo}{dst:Tmp}{xd:TD}(ho:o.op=.assign x\/o.op=.move x)(hd:o.dst=some dst)(hx:arT P ts o.type x=some xd)(h:ZzI dst all H K xd=some out):
 ∃a d H' hs c,K a d H' hs c=some out/\Good P o ts all H a d H' hs c:=by
 have hv:=ZM (L:=lk H) hx;obtain⟨a,d,H',hs,k1,k2,k3,C,k4,k5⟩:=ZBO h;refine⟨_,_,_,_,_,k1,k2,k3,or3 (⟨rfl,λyQ=> ?_,λyQ=> ?_,C,k4,λyQ=> ?_⟩)⟩
 ·rcases ho with ho|ho <;> (unfold evN;rw[ho];rfl)
 ·rcases ho with ho|ho <;> (unfold evR;rw[ho])
 ·rcases ho with ho|ho
  ·unfold evE;rw[ho];dsimp only;rw[yae];dsimp only;rw[yW hd,hv];exact k5 yQ
  ·unfold evE;rw[ho];dsimp only;rw[yae];dsimp only;rw[yW hd,hv];exact k5 yQ
def TD.isRw:TD->Bool
 |.rw _=>true
 |_=>false
def TD.isRp:TD->Bool
 |.rp _ _=>true
 |_=>false
theorem ZFc{id:Nat}{T:Ty}{v:yL Unit}{st st':Bool}{e e':yc}{l l':yL T.den}(hd:H[id]? =some (.rowT T v st e l))(hl:l'.length=l.length):lk (H.set id (.rowT T v st' e' l'))=lk H:=by
 funext j;unfold lk;by_cases hj:id=j
 ·subst hj;rw[getElem?_set_eq' hd,hd];show some _=some _;rw[hl]
 ·rw[getElem?_set_ne' hj]
def ZzJ(P:yg)(t:yc)(i:Int)(all:yL TD)(H:yL TEnt)(K:Kn O):TD->yO O
 |.rw id=>match P.underlying t,H[id]? with
  |some (.slice e),some (.rowT T v st e' l)=>if okB P e T.size=true then if inB i l.length=true then K all (.rp id [.ix i.toNat T.size]) H [] 0 else none else none
  |_,_=>none
 |_=>none
theorem ZzK{t:yc}{x ix:yo}{xd:TD}{q:IntKind×Int}{ip:TP}(ho:o.op=.indexAddr t x ix)(hx:arT P ts t x=some xd)(hi:arT P ts 0 ix=some (.p ip))(hq:Zzk ip=some q)(h:ZzJ P t q.2 all H K xd=some out):
 ∃a d H' hs c,K a d H' hs c=some out/\Good P o ts all H a d H' hs c:=by
 have hv:=ZM (L:=lk H) hx;have hw:=ZM (L:=lk H) hi;rw[TD.er,(Zuz hq).1] at hw;unfold ZzJ at h;split at h
 ·rename_i id;split at h
  ·rename_i e T v st e' l hu hd;obtain⟨h3,h⟩:=Za h;obtain⟨h4,h⟩:=Za h;refine⟨_,_,_,_,_,h,rfl,rfl,.inl ⟨rfl,rfl,[0<=q.2,q.2 < (l.length:Int)],⟨(Zcl h4).1,(Zcl h4).2,ytt⟩,λyQ=> ?_⟩⟩;simp only[yw];unfold evN;rw[ho];dsimp only;rw[hu,hv,hw,(Zjt hd).1,(Zjt hd).2];dsimp only;rw[yW (by simpa[okB] using h3)];simp[QQ,Stp.o,Stp.i]
  ·cases h
 ·cases h
def ZIv(P:yg)(t:yc)(all:yL TD)(H:yL TEnt)(K:Kn O):TD->yO O
 |.rw id=>match P.underlying t,H[id]? with
  |some (.slice _),some (.rowT T v st e' l)=>K all (.p (.v (.int .i64) (l.length:Int))) H [] 0
  |_,_=>none
 |_=>none
theorem ZDQ{t:yc}{x:yo}{c:Call}{xd:TD}(ho:o.op=.call c)(hc:c.callee=.builtin .len)(ha:c.args.toList=[x])(ht:c.argTypes.toList=[t])(hx:arT P ts t x=some xd)(h:ZIv P t all H K xd=some out):
 ∃a d H' hs c,K a d H' hs c=some out/\Good P o ts all H a d H' hs c:=by
 have hv:=ZM (L:=lk H) hx;unfold ZIv at h;split at h
 ·rename_i id;split at h
  ·rename_i e T v st e' l hu hd;refine⟨_,_,_,_,_,h,rfl,rfl,.inl ⟨rfl,rfl,[],zT,λyQ=> ?_⟩⟩;simp only[yw];unfold evN;rw[ho];dsimp only;rw[hc];dsimp only;rw[ha,ht];dsimp only;rw[hu,hv,(Zjt hd).1];rfl
  ·cases h
 ·cases h
def ZDR(P:yg)(t:yc)(all:yL TD)(H:yL TEnt)(K:Kn O):TD->yO O
 |.rp id yS=>match H[id]? with
  |some (.rowT T v st e l)=>gpT (lk H) yS (.p (.v (.arr l.length T) l)) λsub hs _=>if okT P t (sub.er (lk H))=true then K all sub H hs 1 else none
  |_=>none
 |_=>none
theorem ZBQ{t:yc}{x:yo}{xd:TD}(ho:o.op=.load t x)(hx:arT P ts 0 x=some xd)(h:ZDR P t all H K xd=some out):∃a d H' hs c,K a d H' hs c=some out/\Good P o ts all H a d H' hs c:=by
 have hv:=ZM (L:=lk H) hx;unfold ZDR at h;split at h
 ·rename_i id yS;split at h
  ·rename_i T v st e l hd;obtain⟨sub,hs,put,C,k1,k2,k3,_⟩:=V8 _ _ _ _ h;obtain⟨k4,k5⟩:=Za k1;refine⟨_,_,_,_,_,k5,rfl,rfl,.inr (.inl ⟨rfl,rfl,λyQ=> ?_,C++[Zh3 yS=QQ yS],Zp.2 ⟨k2,(QR _).symm,ytt⟩,λyQ=> ?_⟩)⟩
   ·unfold evN;rw[ho];dsimp only;rw[hv];rfl
   ·unfold evR;rw[ho];dsimp only;rw[hv,(Zjt hd).2];dsimp only;rw[Xs hd];dsimp only[TEnt.er];have k6:Xb (.p (.arr l.length T.size (l.map T.enc))) (yS.map Stp.i) (hs++yQ)=some (C,Zh3 yS,sub.er (lk H),yQ):=k3 yQ;rw[k6];dsimp only;rw[yW (by rw[yi];exact⟨k4,by simp⟩)]
  ·cases h
 ·cases h
def ZzL(P:yg)(t:yc)(all:yL TD)(H:yL TEnt)(K:Kn O)(v:TD):TD->yO O
 |.rp id (.ix i s::r)=>match H[id]? with
  |some (.rowT T u true e l)=>if s=T.size then(l[i]?).bind λy=>gpT (lk H) r (.p (.v T y)) λsub hs put=>(put (v.meltP (lk H))).bind λd1=>d1.inner.bind λz=>(TP.to Zpv z T).bind λy'=>
   if ZoG P t ((v.meltP (lk H)).er (lk H)) (sub.er (lk H))=true then K all .junk (H.set id (.rowT T u true e (l.set i y'))) (.el (T.enc y)::hs) 2 else none else none
  |_=>none
 |_=>none
theorem ZzM{t:yc}{x y:yo}{xd yd:TD}(ho:o.op=.store t x y)(hx:arT P ts 0 x=some xd)(hy:arT P ts t y=some yd)(h:ZzL P t all H K yd xd=some out):
 ∃a d H' hs c,K a d H' hs c=some out/\Good P o ts all H a d H' hs c:=by
 have hv:=ZM (L:=lk H) hx;have hw:=ZM (L:=lk H) hy;unfold ZzL at h;split at h
 ·rename_i id i s r;split at h
  ·rename_i T u e l hd;split at h
   ·rename_i hs0;obtain⟨y0,h2,h⟩:=yf.1 h;obtain⟨sub,hs,put,C,k1,k2,k3,k4⟩:=V8 r (.p (.v T y0)) _ out h;obtain⟨d1,p1,k1⟩:=yf.1 k1;obtain⟨z,p2,k1⟩:=yf.1 k1;obtain⟨y',p3,k1⟩:=yf.1 k1;obtain⟨h4,k1⟩:=Za k1;have h4':=h4;unfold ZoG at h4';have hL:lk (H.set id (.rowT T u true e (l.set i y')))=lk H:=ZFc hd (by rw[ybn])
    have hg:∀yQ,Xb (.p (.arr l.length T.size (l.map T.enc))) (i::r.map Stp.i) (.el (T.enc y0)::(hs++yQ))=some (((l.map T.enc)[i]? =some (T.enc y0))::C,i*T.size+Zh3 r,sub.er (lk H),yQ):=by
     intro yQ;unfold Xb;dsimp only;have:=k3 yQ;rw[TD.er,TP.pe] at this;rw[this,yaa]
    have hp:∀yQ,Zaq ((yd.meltP (lk H)).er (lk H)) (.p (.arr l.length T.size (l.map T.enc))) (i::r.map Stp.i) (.el (T.enc y0)::(hs++yQ))=some (.p (.arr l.length T.size ((l.set i y').map T.enc))):=by
     intro yQ;have:=k4 _ d1 p1 yQ;rw[TD.er,TP.pe] at this;unfold Zaq;dsimp only;rw[this,W4 p2,TD.er];dsimp only;rw[Zlu z T y' p3, <-ybv]
    refine⟨_,_,_,_,_,k1,by rw[hL],rfl,or3 (⟨rfl,λyQ=> ?_,λyQ=> ?_,(((l.map T.enc)[i]? =some (T.enc y0))::C)++[i*T.size+Zh3 r=QQ (.ix i s::r)],
     Zp.2 ⟨⟨ZqZ h2,k2⟩,by rw[QR,Zh3,Stp.o,hs0],ytt⟩,λyQ=> ?_⟩)⟩
    ·unfold evN;rw[ho]
    ·unfold evR;rw[ho]
    ·unfold evE;rw[ho];dsimp only;rw[hv,hw,(Zjt hd).2];dsimp only;rw[Xs hd];dsimp only[TEnt.er];rw[yaj,show(Stp.ix i s).i=i from rfl,yae,hg yQ]
     dsimp only;have hst:ZhQ (i::r.map Stp.i) (.p (.arr l.length T.size (l.map T.enc))) (yd.er (lk H))=some ((yd.meltP (lk H)).er (lk H)):=Zss (yS:=.ix i s::r) (d:=.p (.v (.arr l.length T) l)) (v:=yd) (new:=yd.meltP (lk H)) (L:=lk H) rfl;rw[hst];dsimp only;rw[hp yQ];dsimp only;rw[yW (by simp only[yi] at h4' ⊢;exact⟨⟨h4',by simp⟩,by simp[rowN]⟩),ZaJ hL];simp only[TEnt.er,ybn];rfl
   ·cases h
  ·cases h
 ·cases h
def ZzN(dst:Tmp)(all:yL TD)(H:yL TEnt)(K:Kn O):TD->yO O
 |.rw id=>match H[id]? with
  |some (.rowT T v st e l)=>K all (.p (.sl none T l)) (H.set id (.rowT T v false e l)) [.still dst] 2
  |_=>none
 |_=>none
theorem ZzO{x:yo}{dst:Tmp}{xd:TD}(ho:o.op=.assign x\/o.op=.move x)(hd:o.dst=some dst)(hx:arT P ts o.type x=some xd)(h:ZzN dst all H K xd=some out):
 ∃a d H' hs c,K a d H' hs c=some out/\Good P o ts all H a d H' hs c:=by
 have hv:=ZM (L:=lk H) hx;unfold ZzN at h;split at h
 ·rename_i id;split at h
  ·rename_i T v st e l hr;have hL:lk (H.set id (.rowT T v false e l))=lk H:=ZFc hr rfl
   have k5:∀yQ,ZhR ((TD.rw id).er (lk H)) (erH H) yQ=some ([0+l.length<=l.length],.p (.sl none T.size (l.map T.enc)),erH (H.set id (.rowT T v false e l)),yQ):=by
    intro yQ;unfold ZhR;rw[(Zjt hr).1];dsimp only;rw[Xs hr,TEnt.er];dsimp only;rw[yW (by simp),ZaJ hL,TEnt.er,List.drop_zero, <-yac (f:=T.enc),yat]
   refine⟨_,_,_,_,_,h,by rw[hL],rfl,or3 (⟨rfl,λyQ=> ?_,λyQ=> ?_,[0+l.length<=l.length],⟨by omega,ytt⟩,λyQ=> ?_⟩)⟩
   ·rcases ho with ho|ho <;> (unfold evN;rw[ho];rfl)
   ·rcases ho with ho|ho <;> (unfold evR;rw[ho])
   ·rcases ho with ho|ho
    ·unfold evE;rw[ho];dsimp only;rw[yae];dsimp only;rw[yW hd,hv];exact k5 yQ
    ·unfold evE;rw[ho];dsimp only;rw[yae];dsimp only;rw[yW hd,hv];exact k5 yQ
  ·cases h
 ·cases h
theorem ZBR{L M:Lk}{n:Nat}(h:∀id t,id≠n->Yy L id t none=Yy M id t none)(x:TEnt)(hf:x.free n=true):x.er L=x.er M:=by
 cases x with
 |var d st=>rw[TEnt.er,TEnt.er,Zhb h d hf]
 |row v s st e d=>rw[TEnt.er,TEnt.er,Zhb h d hf]
 |rowM t np v st e pre d post=>rw[TEnt.er,TEnt.er,Zhb h d hf]
 |_=>rfl
theorem ZvH{T:Ty}{v:yL Unit}{st:Bool}{e:yc}{l:yL T.den}(h:H.all (TEnt.free H.length)=true):erH (H++[.rowT T v st e l])=erH H++[.row v.length T.size st e (.p (.arr l.length T.size (l.map T.enc)))]:=by
 unfold erH;rw[ybb];congr 1;refine yct λx hx=> ?_;have hf:=ybj.1 h x hx;exact(ZBR (λid t hn=>Zfs id t hn) x hf).symm
theorem ZzP{T:Ty}{v:yL Unit}{st:Bool}{e:yc}{l:yL T.den}:(TD.rw H.length).er (lk (H++[.rowT T v st e l]))=.rv H.length v.length T.size 0 l.length:=
 (Zjt (H:=H++[.rowT T v st e l]) (List.getElem?_concat_length ..)).1
def ZvI(P:yg)(row:Bool)(t u:yc)(all:yL TD)(H:yL TEnt)(K:Kn O)(y:TD):TD->yO O
 |.rw id=>match P.underlying t,H[id]? with
  |some (.slice e),some (.rowT T v st e' l)=>(P.info? e).bind λi=>ZBN P T u H (λys hs=>
   if(zOk i&&decide (i.size=T.size)&&decide (P.cellsOf e=T.size)&&decide (e'=e)&&decide (T.size≠0))=true then if apB l.length ys.length i.bytes=true then
    K (TD.stales (lk H) id all) (.rw id) ((H.map (TEnt.stale (lk H) id)).set id (.rowT T (()::v) st e (l++ys))) (.raw::hs) 2 else none else none) y
  |_,_=>none
 |.p (.sl (some false) _ [])=>match P.underlying t with
  |some (.slice e)=>(P.info? e).bind λi=>(Zo1 P tyD e).bind λT=>(ZDD (lk H) P T u y).bind λys=>
   if(zOk i&&i.size !=0&&decide (i.size=T.size)&&decide (P.cellsOf e=T.size)&&TD.frees H.length all&&H.all (TEnt.free H.length))=true then if ZDs ys.length i.bytes=true then
    K all (.rw H.length) (H++[.rowT T [] true e ys]) [.arr] 2 else none else none
  |_=>none
 |_=>none
theorem Zxg{row:Bool}{t u:yc}{x y:yo}{c:Call}{xd yd:TD}(ho:o.op=.call c)(hc:c.callee=.builtin .append)(ha:c.args.toList=[x,y])(ht:c.argTypes.toList=[t,u])
 (hv:ZS P (TD.ers (lk H) ts) t x=xd.er (lk H)) (hy:arT P ts u y=some yd) (h:ZvI P row t u all H K yd xd=some out):∃a d H' hs c,K a d H' hs c=some out/\Good P o ts all H a d H' hs c:=by
 have hw:=ZM (L:=lk H) hy;unfold ZvI at h;split at h
 ·rename_i id;split at h
  ·rename_i e T v st e' l hu hd;obtain⟨i,h1,h⟩:=yf.1 h;obtain⟨ys,hs,C,k1,k2,k3⟩:=Zqo h;obtain⟨k4,k6⟩:=Za k1;obtain⟨k5,kk⟩:=Za k6;clear k1 k6;simp only[yi,yP] at k4;obtain⟨⟨⟨⟨g1,g2⟩,g3⟩,g4⟩,g5⟩:=k4;subst g4;simp only[apB,yi,yP] at k5;have hlt:id < H.length:=(yq.1 hd).1
   refine⟨_,_,_,_,_,kk,ers_stale (λid' t hn=>ZhJ (lk H) id' t hn) all,ZlA all,or3 (⟨rfl,λyQ=> ?_,λyQ=> ?_,
    C++[l.length<=l.length,(l.length+(ys.map T.enc).length)*i.bytes<=Zw,l.length+(ys.map T.enc).length<=maxLen,st=true\/l.length=l.length],Zp.2 ⟨k2,yj _,by simpa using k5.1,by simpa using k5.2,.inr rfl,ytt⟩,λyQ=> ?_⟩)⟩
   ·unfold evN;rw[ho];dsimp only;rw[hc];dsimp only;rw[ha,ht,yae]
   ·unfold evR;rw[ho];dsimp only;rw[hc]
   ·unfold evE;rw[ho];dsimp only;rw[hc];dsimp only;rw[ha,ht];dsimp only;rw[hu,hv,hw,(Zjt hd).1];rw[yae];dsimp only;rw[h1,k3 yQ,Xs hd];dsimp only[TEnt.er]
    have hnew:((H.map (TEnt.stale (lk H) id)).set id (.rowT T (()::v) st e' (l++ys)))[id]? =some (.rowT T (()::v) st e' (l++ys)):=by
     rw[ycx (by rw[yac];exact hlt)]
    have hH:erH ((H.map (TEnt.stale (lk H) id)).set id (.rowT T (()::v) st e' (l++ys)))=(erH H).set id (.row (v.length+1) T.size st e' (.p (.arr (l.length+ys.length) T.size (l.map T.enc++ys.map T.enc)))):=by
     unfold erH;rw[ybv,ybi]
     have:(TEnt.rowT T (()::v) st e' (l++ys)).er (lk ((H.map (TEnt.stale (lk H) id)).set id (.rowT T (()::v) st e' (l++ys))))=.row (v.length+1) T.size st e' (.p (.arr (l.length+ys.length) T.size (l.map T.enc++ys.map T.enc))):=by
      simp only[TEnt.er,yai,yl,ybb]
     rw[this];congr 1;refine yct λx hx=> ?_;exact Zsq (λid t hn=>ZhJ (lk H) id t hn) x
    rw[yW (by simp[g1,g2,g5]),hH,(Zjt hnew).1];simp only[yac,yai,yl];rw[show(l.map T.enc).take l.length=l.map T.enc by rw[<-yac (f:=T.enc),yat]]
  ·cases h
 ·rename_i T0;split at h
  ·rename_i e hu;obtain⟨i,h1,h⟩:=yf.1 h;obtain⟨T,h2,h⟩:=yf.1 h;obtain⟨ys,h3,h⟩:=yf.1 h;obtain⟨k4,h⟩:=Za h;obtain⟨k5,h⟩:=Za h;simp only[yi,yP] at k4;obtain⟨⟨⟨⟨⟨g1,g2⟩,g3⟩,g4⟩,g5⟩,g6⟩:=k4;obtain⟨g7,g8⟩:=Zh2 k5;refine⟨_,_,_,_,_,h,Zno g5,rfl,or3 (⟨rfl,λyQ=> ?_,λyQ=> ?_,[(ys.map T.enc).length*i.bytes<=Zw,(ys.map T.enc).length<=maxLen],⟨by rw[yac];exact g7,by rw[yac];exact g8,ytt⟩,λyQ=> ?_⟩)⟩
   ·unfold evN;rw[ho];dsimp only;rw[hc];dsimp only;rw[ha,ht];rfl
   ·unfold evR;rw[ho];dsimp only;rw[hc]
   ·unfold evE;rw[ho];dsimp only;rw[hc];dsimp only;rw[ha,ht];dsimp only;rw[hu,hv,hw,show(TD.p (TP.sl (some false) T0 [])).er (lk H)=Dv.p (.sl (some false) T0.size []) from rfl]
    dsimp only;rw[h1,g4,Zq5 h3,yae,yw];dsimp only;rw[yW (by simp only[yi];exact⟨g1,g2⟩),ZvH g6,Yb,ZzP,g3];simp only[yac,List.length_nil]
  ·cases h
 ·cases h
def ZIw(P:yg)(ts:yL TD)(t:yc)(len:Nat)(parts:yL (Nat×yo))(all:yL TD)(H:yL TEnt)(K:Kn O):yO O:=
 ZGM (lk H) P ts t len parts λT l e=>if(decide (l.length=len)&&TD.frees H.length all&&H.all (TEnt.free H.length))=true then K all (.rw H.length) (H++[.rowT T [] true e l]) [.arr] 2 else none
theorem ZDS{t:yc}{len:Nat}{parts:Array (Nat×yo)}(ho:o.op=.buildSlice t len parts)(h:ZIw P ts t len parts.toList all H K=some out):
 ∃a d H' hs c,K a d H' hs c=some out/\Good P o ts all H a d H' hs c:=by
 unfold ZIw at h;obtain⟨e,T,l,i,xs,h1,hu,hi,hl,hz,hs,hx⟩:=ZoD h;obtain⟨h2,h1⟩:=Za h1;simp only[yi,yP] at h2;obtain⟨⟨h2,g5⟩,g6⟩:=h2;refine⟨_,_,_,_,_,h1,Zno g5,rfl,or3 (⟨rfl,λyQ=> ?_,λyQ=> ?_,[],zT,λyQ=> ?_⟩)⟩
 ·unfold evN;rw[ho];rfl
 ·unfold evR;rw[ho]
 ·unfold evE;rw[ho];dsimp only;rw[yae,yw];dsimp only;rw[hu];dsimp only;rw[hi,hl];dsimp only;rw[yW (by simpa using hz),hx,ZvH g6,ZzP,Yb,hs,h2];rfl
def ZDT(P:yg)(ts:yL TD)(t:yc)(len:Nat)(parts:yL (Nat×yo))(id:Nat)(all:yL TD)(H:yL TEnt)(K:Kn O):yO O:=
 ZGM (lk H) P ts t len parts λT l e=>match H[id]? with
  |some (.rowT T' v _ e' _)=>if(decide (l.length=len)&&decide (e'=e)&&decide (T'.size=T.size))=true then K (TD.stales (lk H) id all) (.rw id) ((H.map (TEnt.stale (lk H) id)).set id (.rowT T (()::v) true e l)) [.fresh id] 2 else none
  |_=>none
theorem ZBS{t:yc}{len id:Nat}{parts:Array (Nat×yo)}(ho:o.op=.buildSlice t len parts)(h:ZDT P ts t len parts.toList id all H K=some out):
 ∃a d H' hs c,K a d H' hs c=some out/\Good P o ts all H a d H' hs c:=by
 unfold ZDT at h;obtain⟨e,T,l,i,xs,h1,hu,hi,hl,hz,hs,hx⟩:=ZoD h;split at h1
 case h_2=>cases h1
 rename_i T0 v st e' l0 hd;obtain⟨h2,h1⟩:=Za h1;simp only[yi,yP] at h2;obtain⟨⟨h2,rfl⟩,h3⟩:=h2;have hlt:id < H.length:=(yq.1 hd).1
 have hnew:((H.map (TEnt.stale (lk H) id)).set id (.rowT T (()::v) true e' l))[id]? =some (.rowT T (()::v) true e' l):=by
  rw[ycx (by rw[yac];exact hlt)]
 have hH:erH ((H.map (TEnt.stale (lk H) id)).set id (.rowT T (()::v) true e' l))=(erH H).set id (.row (v.length+1) T.size true e' (.p (.arr l.length T.size (l.map T.enc)))):=by
  unfold erH;rw[ybv,ybi]
  have:(TEnt.rowT T (()::v) true e' l).er (lk ((H.map (TEnt.stale (lk H) id)).set id (.rowT T (()::v) true e' l)))=.row (v.length+1) T.size true e' (.p (.arr l.length T.size (l.map T.enc))):=by
   simp only[TEnt.er,yai]
  rw[this];congr 1;refine yct λx hx=> ?_;exact Zsq (λid t hn=>ZhJ (lk H) id t hn) x
 refine⟨_,_,_,_,_,h1,ers_stale (λid' t hn=>ZhJ (lk H) id' t hn) all,ZlA all,or3 (⟨rfl,λyQ=> ?_,λyQ=> ?_,[],zT,λyQ=> ?_⟩)⟩
 ·unfold evN;rw[ho];rfl
 ·unfold evR;rw[ho]
 ·unfold evE;rw[ho];dsimp only;rw[yae,yw];dsimp only;rw[hu,Xs hd];dsimp only[TEnt.er];rw[hi,hl];dsimp only;rw[yW (by rw[yi,yi,yT,yT];exact⟨⟨hz,rfl⟩,h3.trans hs.symm⟩),hx,hH,(Zjt hnew).1,hs, <-h2];simp only[yai]
def ZzQ(P:yg)(t:yc)(dst:Tmp)(all:yL TD)(H:yL TEnt)(K:Kn O):TD->yO O
 |.p (.sl (some false) T [])=>match P.underlying t with
  |some (.slice e)=>(P.info? e).bind λi=>if(zOk i&&i.size !=0&&decide (i.size=T.size)&&TD.frees H.length all&&H.all (TEnt.free H.length))=true then K all (.rw H.length) (H++[.rowT T [] true e []]) [.freshR dst] 2 else none
  |_=>none
 |_=>none
theorem ZzR{x:yo}{dst:Tmp}{xd:TD}(ho:o.op=.assign x)(hd:o.dst=some dst)(hx:arT P ts o.type x=some xd)(h:ZzQ P o.type dst all H K xd=some out):
 ∃a d H' hs c,K a d H' hs c=some out/\Good P o ts all H a d H' hs c:=by
 have hv:=ZM (L:=lk H) hx;unfold ZzQ at h;split at h
 ·rename_i T;split at h
  ·rename_i e hu;obtain⟨i,h1,h⟩:=yf.1 h;obtain⟨h2,h⟩:=Za h;simp only[yi,yP] at h2;obtain⟨⟨⟨g0,g3⟩,g5⟩,g6⟩:=h2;refine⟨_,_,_,_,_,h,Zno g5,rfl,or3 (⟨rfl,λyQ=> ?_,λyQ=> ?_,[],zT,λyQ=> ?_⟩)⟩
   ·unfold evN;rw[ho];rfl
   ·unfold evR;rw[ho]
   ·unfold evE;rw[ho];dsimp only;rw[yae,yw];dsimp only;rw[yW hd,hu,hv,show(TD.p (TP.sl (some false) T [])).er (lk H)=Dv.p (.sl (some false) T.size []) from rfl]
    dsimp only;rw[h1];dsimp only;rw[yW (by simpa using g0),ZvH g6,ZzP,Yb,g3];rfl
  ·cases h
 ·cases h
def TEnt.rowQ:TEnt->yO (Nat×Nat×Nat)
 |.rowN t _ v _ _ pre post=>some (v.length,t.size,pre.length+post.length)
 |.rowM t _ v _ _ pre _ post=>some (v.length,t.size,pre.length+(post.length+1))
 |_=>none
theorem ZzS{L:Lk}{id:Nat}{v:yL Unit}{s N:Nat}(h:Yy L id (.sl (.st [])) none=([v,yy s (),yy N ()]:yL (yL Unit))):
 (TD.rw id).er L=.rv id v.length s 0 N/\∀yS,(TD.rp id yS).er L=.rref id v.length (QQ yS) (yS.map Stp.i):=by
 refine⟨?_,λyS=> ?_⟩
 ·rw[TD.er];unfold Zd4;rw[h];show Dv.rv id v.length (yy s ()).length 0 (yy N ()).length=_;rw[ycq,ycq]
 ·rw[TD.er];unfold Zd4;rw[h];rfl
theorem ZKT{id:Nat}{x:TEnt}{q:Nat×Nat×Nat}(hd:H[id]? =some x)(h:x.rowQ=some q):(TD.rw id).er (lk H)=.rv id q.1 q.2.1 0 q.2.2/\∀yS,(TD.rp id yS).er (lk H)=.rref id q.1 (QQ yS) (yS.map Stp.i):=by
 cases x <;> first|cases h|skip
 all_goals
  refine ZzS ?_;unfold Yy lk;dsimp only;rw[hd];rfl
end
end Go.Ev
end
section
namespace Go.Ev
abbrev TV:=Σ t:Ty,t.den
inductive Sh where
 |v (t:Ty)
 |elem (t:Ty)
 |nil (t:Ty)
 |sl (nn:Bool) (t:Ty)
 |own (j:Nat) (t:Ty)
 |ref (j:Nat) (yS:List Stp)
 |mp (j:Nat)
 |rw(j:Nat)
 |rp (j s:Nat) (yS:List Stp)
 |view (j:Nat) (yS:List Stp) (s lo n:Nat)
 |fn (g:yv) (l:List Sh)
 |agg (l:List Sh)
 |arr (n s:Nat) (l:List Sh)
 |tup (l:List Sh)
 |iface (t:yc) (x:Sh)
 |ptr0|fn0|if0|map0
 |junk
instance:Inhabited Sh:=⟨.junk⟩
def Stp.beq:Stp->Stp->Bool
 |.fld i o,.fld j p=>decide (i=j)&&decide (o=p)
 |.ix i o,.ix j p=>decide (i=j)&&decide (o=p)
 |_,_=>false
def ZoH:yL Stp->yL Stp->Bool
 |[],[]=>true
 |q::r,p::s=>q.beq p&&ZoH r s
 |_,_=>false
theorem Zh5:∀{l m:yL Stp},ZoH l m=true->l=m
 |[],[],_=>rfl
 |[],_::_,h=>by cases h
 |_::_,[],h=>by cases h
 |q::r,p::s,h=>by
  simp only[ZoH,yi] at h;rw[Zh5 h.2];congr 1;cases q <;> cases p <;> simp[Stp.beq] at h <;> simp[h.1]
def TD.toT(L:Lk)(t:Ty):TD->yO t.den
 |.p x=>TP.to Zpv x t
 |.own id _ u c=>match t with
  |.sl w=>Ty.castL u w (Yy L id u c)
  |_=>none
 |_=>none
theorem ZMM{L:Lk}{t:Ty}{d:TD}{y:t.den}(h:d.toT L t=some y):Wk (d.er L) (.p (t.enc y)):=by
 cases d with
 |p x=>exact Wk.p (ZBu (show TP.to Zpv x t=some y from h))
 |own id nn u c=>
  cases t with
  |sl w=>
   obtain⟨e,h2⟩:=ZQ (show Ty.castL u w (Yy L id u c)=some y from h)
   subst e;subst h2
   exact Wk.own_sl (PlsWk.refl _)
  |_=>cases h
 |_=>cases h
def ZN6(t:Ty):TD->yO t.den
 |.elem x=>TP.to Zpv x t
 |_=>none
theorem Wk.elem{x y:Pl}(h:PlWk x y):Wk (.elem x) (.elem y):=⟨rfl,rfl,λσ vs r=>by
 simp only[yJ] at r ⊢;obtain⟨b,o,us,e,r1,r2⟩:=r;exact⟨b,o,us,e,h.rep _ _ _ r1,r2⟩⟩
theorem WkL.fn{f:yv}{ds es:yL Dv}(h:WkL ds es):Wk (.fn f ds) (.fn f es):=⟨rfl,rfl,λσ vs r=>by
 simp only[yJ] at r ⊢;obtain⟨fs,cs,e,e0,r⟩:=r;exact⟨fs,cs,e,e0,h.vs r⟩⟩
theorem WkL.sizes{ds es:yL Dv}(h:WkL ds es)(s:Nat):(∀x,x∈ds->x.size=s)->∀x,x∈es->x.size=s:=by
 induction h with
 |nil=>intro _ x hx;cases hx
 |cons h k ih=>
  intro hh x hx;rcases ybh.1 hx with rfl|hx
  ·rw[<-h.size];exact hh _ (yay ..)
  ·exact ih (λy hy=>hh y (yba _ hy)) x hx
theorem WkL.arr{n s:Nat}{ds es:yL Dv}(h:WkL ds es):Wk (.arr n s ds) (.arr n s es):=⟨rfl,rfl,λσ vs r=>by
 simp only[yJ] at r ⊢;obtain⟨r1,r2,r3⟩:=r;have:=(WkL.agg h).rep σ vs (by simp only[yJ];exact r3);simp only[yJ] at this;exact⟨by rw[<-h.len];exact r1,h.sizes s r2,this⟩⟩
theorem Wk.iface{t:yc}{x y:Dv}(h:Wk x y):Wk (.iface t x) (.iface t y):=⟨rfl,rfl,λσ vs r=>by
 simp only[yJ] at r ⊢;obtain⟨v,e,r1,r2⟩:=r;refine⟨v,e,λha=> ?_,λha=>h.rep _ _ (r2 (by rw[h.agg];exact ha))⟩;obtain⟨cs,e1,e2⟩:=r1 (by rw[h.agg];exact ha);exact⟨cs,e1,h.rep _ _ e2⟩⟩
mutual
def Sh.mt(L:Lk):Sh->TD->yO (TD×yL TV)
 |.v t,d=>(d.toT L t).map λy=>(.p (.v t y),[⟨t,y⟩])
 |.elem t,d=>(ZN6 t d).map λy=>(.elem (.v t y),[⟨t,y⟩])
 |.nil t,d=>match d with
  |.p x=>if x.nilT t=true then some (.p (.sl (some false) t []),[]) else none
  |_=>none
 |.sl nn t,d=>match d with
  |.p (.sl (some b) u xs)=>if b=nn then(Ty.castL u t xs).map λy=>(.p (.sl (some nn) t y),[⟨.sl t,y⟩]) else none
  |_=>none
 |.own j t,d=>match d with
  |.own id _ u none=>if id=j/\u=t then some (.own j none t none,[]) else none
  |_=>none
 |.ref j p,d=>match d with
  |.ref id q=>if id=j/\ZoH p q=true then some (.ref j p,[]) else none
  |_=>none
 |.mp j,d=>match d with
  |.mp id=>if id=j then some (.mp j,[]) else none
  |_=>none
 |.rw j,d=>match d with
  |.rw id=>if id=j then some (.rw j,[]) else none
  |_=>none
 |.rp j s p,d=>match d with
  |.rp id (.ix i s'::q)=>if id=j/\s'=s/\ZoH p q=true then some (.rp j (.ix i s::p),[⟨.int .i64,(i:Int)⟩]) else none
  |_=>none
 |.view j p s lo n,d=>match d with
  |.view id q s' lo' n'=>if id=j/\ZoH p q=true/\s=s'/\lo=lo'/\n=n' then some (.view j p s lo n,[]) else none
  |_=>none
 |.fn g l,d=>match d with
  |.fn f ds=>if f=g then(Sh.mts L l ds).map λq=>(.fn g q.1,q.2) else none
  |_=>none
 |.agg l,d=>match d with
  |.agg ds=>(Sh.mts L l ds).map λq=>(.agg q.1,q.2)
  |_=>none
 |.arr n s l,d=>match d with
  |.arr m s' ds=>if m=n/\s'=s then(Sh.mts L l ds).map λq=>(.arr n s q.1,q.2) else none
  |_=>none
 |.tup l,d=>match d with
  |.tup ds=>(Sh.mts L l ds).map λq=>(.tup q.1,q.2)
  |_=>none
 |.iface t x,d=>match d with
  |.iface u y=>if u=t then(Sh.mt L x y).map λq=>(.iface t q.1,q.2) else none
  |_=>none
 |.ptr0,d=>match d with
  |.p .ptr0=>some (.p .ptr0,[])
  |_=>none
 |.fn0,d=>match d with
  |.p .fn0=>some (.p .fn0,[])
  |_=>none
 |.if0,d=>match d with
  |.p .if0=>some (.p .if0,[])
  |_=>none
 |.map0,d=>match d with
  |.p .map0=>some (.p .map0,[])
  |_=>none
 |.junk,d=>if(d.er L).size=1/\(d.er L).isAgg=false then some (.junk,[]) else none
def Sh.mts(L:Lk):yL Sh->yL TD->yO (yL TD×yL TV)
 |[],ds=>match ds with
  |[]=>some ([],[])
  |_=>none
 |s::r,ds=>match ds with
  |d::q=>match Sh.mt L s d,Sh.mts L r q with
   |some a,some b=>some (a.1::b.1,a.2++b.2)
   |_,_=>none
  |[]=>none
end
mutual
def Sh.fill:Sh->yL TV->yO (TD×yL TV)
 |.v t,vs=>match vs with
  |x::r=>(Ty.cast x.1 t x.2).map λy=>(.p (.v t y),r)
  |[]=>none
 |.elem t,vs=>match vs with
  |x::r=>(Ty.cast x.1 t x.2).map λy=>(.elem (.v t y),r)
  |[]=>none
 |.nil t,vs=>some (.p (.sl (some false) t []),vs)
 |.sl nn t,vs=>match vs with
  |x::r=>(Ty.cast x.1 (.sl t) x.2).map λ(y:yL t.den)=>(.p (.sl (some nn) t y),r)
  |[]=>none
 |.own j t,vs=>some (.own j none t none,vs)
 |.ref j p,vs=>some (.ref j p,vs)
 |.mp j,vs=>some (.mp j,vs)
 |.rw j,vs=>some (.rw j,vs)
 |.rp j s p,vs=>match vs with
  |x::r=>(Ty.cast x.1 (.int .i64) x.2).map λ(i:Int)=>(.rp j (.ix i.toNat s::p),r)
  |[]=>none
 |.view j p s lo n,vs=>some (.view j p s lo n,vs)
 |.fn g l,vs=>(Sh.fills l vs).map λq=>(.fn g q.1,q.2)
 |.agg l,vs=>(Sh.fills l vs).map λq=>(.agg q.1,q.2)
 |.arr n s l,vs=>(Sh.fills l vs).map λq=>(.arr n s q.1,q.2)
 |.tup l,vs=>(Sh.fills l vs).map λq=>(.tup q.1,q.2)
 |.iface t x,vs=>(Sh.fill x vs).map λq=>(.iface t q.1,q.2)
 |.ptr0,vs=>some (.p .ptr0,vs)
 |.fn0,vs=>some (.p .fn0,vs)
 |.if0,vs=>some (.p .if0,vs)
 |.map0,vs=>some (.p .map0,vs)
 |.junk,vs=>some (.junk,vs)
def Sh.fills:yL Sh->yL TV->yO (yL TD×yL TV)
 |[],vs=>some ([],vs)
 |s::r,vs=>(Sh.fill s vs).bind λa=>(Sh.fills r a.2).map λb=>(a.1::b.1,b.2)
end
theorem XU(t:Ty)(x:t.den):Ty.cast t t x=some x:=by
 unfold Ty.cast;split
 ·rfl
 ·rename_i h _;exact absurd rfl h
mutual
theorem ZoI{L:Lk}:∀(s:Sh)(d:TD)(q:TD×yL TV),s.mt L d=some q->∀yQ,s.fill (q.2++yQ)=some (q.1,yQ)
 |.v t,d,q,h,yQ=>by
  simp only[Sh.mt] at h;obtain⟨y,_,rfl⟩:=Zd h
  simp[Sh.fill,XU]
 |.elem t,d,q,h,yQ=>by
  simp only[Sh.mt] at h;obtain⟨y,_,rfl⟩:=Zd h
  simp[Sh.fill,XU]
 |.nil t,d,q,h,yQ=>by
  simp only[Sh.mt] at h;split at h
  ·split at h <;> cases h;rfl
  ·cases h
 |.sl nn t,d,q,h,yQ=>by
  simp only[Sh.mt] at h;split at h
  ·split at h
   ·obtain⟨w,h1,rfl⟩:=Zd h;exact congrArg (Option.map λ(y:yL t.den)=>(TD.p (.sl (some nn) t y),yQ)) (XU (.sl t) w)
   ·cases h
  ·cases h
 |.own j t,d,q,h,yQ=>by
  simp only[Sh.mt] at h;split at h
  ·split at h <;> cases h;rfl
  ·cases h
 |.ref j p,d,q,h,yQ=>by
  simp only[Sh.mt] at h;split at h
  ·split at h <;> cases h;rfl
  ·cases h
 |.mp j,d,q,h,yQ=>by
  simp only[Sh.mt] at h;split at h
  ·split at h <;> cases h;rfl
  ·cases h
 |.rw j,d,q,h,yQ=>by
  simp only[Sh.mt] at h;split at h
  ·split at h <;> cases h;rfl
  ·cases h
 |.rp j s p,d,q,h,yQ=>by
  simp only[Sh.mt] at h;split at h
  ·rename_i id i s' q';split at h
   ·cases h;exact congrArg (Option.map λ(i:Int)=>(TD.rp j (.ix i.toNat s::p),yQ)) (XU (.int .i64) (i:Int))
   ·cases h
  ·cases h
 |.view j p s lo n,d,q,h,yQ=>by
  simp only[Sh.mt] at h;split at h
  ·split at h <;> cases h;rfl
  ·cases h
 |.fn g l,d,q,h,yQ=>by
  simp only[Sh.mt] at h;split at h
  ·split at h
   ·obtain⟨w,h1,rfl⟩:=Zd h;simp only[Sh.fill,mts_fills l _ w h1 yQ,yaa]
   ·cases h
  ·cases h
 |.agg l,d,q,h,yQ=>by
  simp only[Sh.mt] at h;split at h
  ·obtain⟨w,h1,rfl⟩:=Zd h;simp only[Sh.fill,mts_fills l _ w h1 yQ,yaa]
  ·cases h
 |.arr n s l,d,q,h,yQ=>by
  simp only[Sh.mt] at h;split at h
  ·split at h
   ·obtain⟨w,h1,rfl⟩:=Zd h;simp only[Sh.fill,mts_fills l _ w h1 yQ,yaa]
   ·cases h
  ·cases h
 |.tup l,d,q,h,yQ=>by
  simp only[Sh.mt] at h;split at h
  ·obtain⟨w,h1,rfl⟩:=Zd h;simp only[Sh.fill,mts_fills l _ w h1 yQ,yaa]
  ·cases h
 |.iface t x,d,q,h,yQ=>by
  simp only[Sh.mt] at h;split at h
  ·split at h
   ·obtain⟨w,h1,rfl⟩:=Zd h;simp only[Sh.fill,ZoI x _ w h1 yQ,yaa]
   ·cases h
  ·cases h
 |.ptr0,d,q,h,yQ=>by
  simp only[Sh.mt] at h
  split at h <;> cases h;rfl
 |.fn0,d,q,h,yQ=>by
  simp only[Sh.mt] at h
  split at h <;> cases h;rfl
 |.if0,d,q,h,yQ=>by
  simp only[Sh.mt] at h
  split at h <;> cases h;rfl
 |.map0,d,q,h,yQ=>by
  simp only[Sh.mt] at h
  split at h <;> cases h;rfl
 |.junk,d,q,h,yQ=>by
  simp only[Sh.mt] at h;split at h <;> cases h;rfl
theorem mts_fills{L:Lk}:∀(l:yL Sh)(ds:yL TD)(q:yL TD×yL TV),Sh.mts L l ds=some q->∀yQ,Sh.fills l (q.2++yQ)=some (q.1,yQ)
 |[],ds,q,h,yQ=>by
  simp only[Sh.mts] at h
  split at h <;> cases h;rfl
 |s::r,ds,q,h,yQ=>by
  simp only[Sh.mts] at h;split at h
  ·split at h
   ·rename_i a b h1 h2;cases h;simp only[Sh.fills,yad,ZoI s _ a h1,ya,mts_fills r _ b h2,yaa]
   ·cases h
  ·cases h
end
mutual
theorem ZvJ{L M:Lk}(hL:∀id t,Yy L id t none=Yy M id t none):∀(s:Sh)(d:TD)(q:TD×yL TV),s.mt L d=some q->Wk (d.er L) (q.1.er M)
 |.v t,d,q,h=>by
  simp only[Sh.mt] at h;obtain⟨y,h1,rfl⟩:=Zd h
  exact ZMM h1
 |.elem t,d,q,h=>by
  simp only[Sh.mt] at h;obtain⟨y,h1,rfl⟩:=Zd h;cases d <;> first|cases h1|skip
  exact Wk.elem (ZBu h1)
 |.nil t,d,q,h=>by
  simp only[Sh.mt] at h;split at h
  ·split at h
   ·rename_i hn;cases h;refine Wk.of_eq ?_;rw[TD.er,ZFb hn];rfl
   ·cases h
  ·cases h
 |.sl nn t,d,q,h=>by
  simp only[Sh.mt] at h;split at h
  ·split at h
   ·rename_i e;subst e;obtain⟨w,h1,rfl⟩:=Zd h;obtain⟨e,h2⟩:=ZQ h1;subst e;subst h2;exact Wk.refl _
   ·cases h
  ·cases h
 |.own j t,d,q,h=>by
  simp only[Sh.mt] at h;split at h
  ·split at h
   ·rename_i e;obtain⟨rfl,rfl⟩:=e;cases h;rw[TD.er,TD.er,hL];exact Wk.own rfl
   ·cases h
  ·cases h
 |.ref j p,d,q,h=>by
  simp only[Sh.mt] at h;split at h
  ·split at h
   ·rename_i e;obtain⟨rfl,e⟩:=e;cases h;rw[Zh5 e];exact Wk.refl _
   ·cases h
  ·cases h
 |.mp j,d,q,h=>by
  simp only[Sh.mt] at h;split at h
  ·split at h
   ·rename_i e;subst e;cases h;exact Wk.refl _
   ·cases h
  ·cases h
 |.rw j,d,q,h=>by
  simp only[Sh.mt] at h;split at h
  ·split at h
   ·rename_i e;subst e;cases h;refine Wk.of_eq ?_;rw[TD.er,TD.er];simp only[Zd4,hL]
   ·cases h
  ·cases h
 |.rp j s p,d,q,h=>by
  simp only[Sh.mt] at h;split at h
  ·split at h
   ·rename_i e;obtain⟨rfl,rfl,e⟩:=e;cases h;rw[Zh5 e];refine Wk.of_eq ?_;rw[TD.er,TD.er];simp only[Zd4,hL]
   ·cases h
  ·cases h
 |.view j p s lo n,d,q,h=>by
  simp only[Sh.mt] at h;split at h
  ·split at h
   ·rename_i e;obtain⟨rfl,e,rfl,rfl,rfl⟩:=e;cases h;rw[Zh5 e];exact Wk.refl _
   ·cases h
  ·cases h
 |.fn g l,d,q,h=>by
  simp only[Sh.mt] at h;split at h
  ·split at h
   ·rename_i e;subst e;obtain⟨w,h1,rfl⟩:=Zd h;exact WkL.fn (mts_wk hL l _ w h1)
   ·cases h
  ·cases h
 |.agg l,d,q,h=>by
  simp only[Sh.mt] at h;split at h
  ·obtain⟨w,h1,rfl⟩:=Zd h;exact WkL.agg (mts_wk hL l _ w h1)
  ·cases h
 |.arr n s l,d,q,h=>by
  simp only[Sh.mt] at h;split at h
  ·split at h
   ·rename_i e;obtain⟨rfl,rfl⟩:=e;obtain⟨w,h1,rfl⟩:=Zd h;exact WkL.arr (mts_wk hL l _ w h1)
   ·cases h
  ·cases h
 |.tup l,d,q,h=>by
  simp only[Sh.mt] at h;split at h
  ·obtain⟨w,h1,rfl⟩:=Zd h;exact WkL.tup (mts_wk hL l _ w h1)
  ·cases h
 |.iface t x,d,q,h=>by
  simp only[Sh.mt] at h;split at h
  ·split at h
   ·rename_i e;subst e;obtain⟨w,h1,rfl⟩:=Zd h;exact Wk.iface (ZvJ hL x _ w h1)
   ·cases h
  ·cases h
 |.ptr0,d,q,h=>by
  simp only[Sh.mt] at h
  split at h <;> cases h;exact Wk.refl _
 |.fn0,d,q,h=>by
  simp only[Sh.mt] at h
  split at h <;> cases h;exact Wk.refl _
 |.if0,d,q,h=>by
  simp only[Sh.mt] at h
  split at h <;> cases h;exact Wk.refl _
 |.map0,d,q,h=>by
  simp only[Sh.mt] at h
  split at h <;> cases h;exact Wk.refl _
 |.junk,d,q,h=>by
  simp only[Sh.mt] at h;split at h
  ·rename_i e;cases h;exact Wk.junk e.2 e.1
  ·cases h
theorem mts_wk{L M:Lk}(hL:∀id t,Yy L id t none=Yy M id t none):∀(l:yL Sh)(ds:yL TD)(q:yL TD×yL TV),Sh.mts L l ds=some q->WkL (TD.ers L ds) (TD.ers M q.1)
 |[],ds,q,h=>by
  simp only[Sh.mts] at h
  split at h <;> cases h;exact .nil
 |s::r,ds,q,h=>by
  simp only[Sh.mts] at h;split at h
  ·split at h
   ·rename_i a b h1 h2;cases h;exact .cons (ZvJ hL s _ a h1) (mts_wk hL r _ b h2)
   ·cases h
  ·cases h
end
inductive ESh where
 |var (s:Sh) (st:Bool)
 |log (t:Ty) (e:yc)
 |map (tid:yc) (k v:Ty)
 |row (t:Ty) (st:Bool) (e:yc)
 |rowN (t:Ty) (np:List Nat) (st:Bool) (e:yc)
 |rowM (t:Ty) (np:List Nat) (st:Bool) (e:yc) (s:Sh)
 |gone
def Zt9(k v:Ty):Ty:=.sl (.st [k,v])
def ZMN(L:Lk)(t:Ty)(d:TD):yO t.den:=(d.flat L).bind λx=>TP.to Zpv x t
theorem ZFd{L:Lk}{t:Ty}{d:TD}{y:t.den}(h:ZMN L t d=some y):Wk (d.er L) (.p (t.enc y)):=by
 obtain⟨x,h1,h2⟩:=yf.1 h;have hf:(d.er L).flat=some x.pe:=by rw[ZuA,h1];rfl
 have hw:Wk (d.er L) (.p x.pe):=⟨(Zsc _ _ hf).symm,(ZAU hf).symm,λσ vs r=>by simp only[yJ];exact Zou _ _ _ hf r⟩;have hz:=ZBu h2;exact⟨hw.size.trans hz.size,hw.agg.trans hz.agg,λσ vs r=>(Wk.p hz).rep σ vs (hw.rep σ vs r)⟩
def ESh.mt(L:Lk):ESh->TEnt->yO (TEnt×yL TV)
 |.var s st,.var d st'=>if st=st'\/st=false then(s.mt L d).map λq=>(.var q.1 st,q.2) else none
 |.log t e,.log u e' xs=>if e=e' then(Ty.castL u t xs).map λys=>(.log t e ys,[⟨.sl t,ys⟩]) else none
 |.map tid k v,.map tid' k' v' l=>if tid=tid' then(Ty.cast (Zt9 k' v') (Zt9 k v) l).map λ(m:yL (k.den×v.den))=>(.map tid k v m,[⟨Zt9 k v,m⟩]) else none
 |.row t st e,.rowT u v st' e' xs=>if(st=st'\/st=false)/\e=e' then(Ty.castL u t xs).map λys=>(.rowT t v st e ys,[⟨.sl (.st []),v⟩,⟨.sl t,ys⟩]) else none
 |.rowN t np st e,.rowN u np' v st' e' pre post=>if(st=st'\/st=false)/\e=e'/\np=np' then(Ty.castL u t pre).bind λys=>(Ty.castL u t post).map λzs=>
   (.rowN t np v st e ys zs,[⟨.sl (.st []),v⟩,⟨.sl t,ys⟩,⟨.sl t,zs⟩]) else none
 |.rowN t np st e,.rowM u np' v st' e' pre mid post=>if st=st'/\e=e'/\np=np' then(Ty.castL u t pre).bind λys=>(Ty.castL u t post).bind λzs=>(ZMN L t mid).map λy=>
   (.rowN t np v st e (ys++[y]) zs,[⟨.sl (.st []),v⟩,⟨.sl t,ys++[y]⟩,⟨.sl t,zs⟩]) else none
 |.rowM t np st e s,.rowM u np' v st' e' pre mid post=>if st=st'/\e=e'/\np=np' then(Ty.castL u t pre).bind λys=>(Ty.castL u t post).bind λzs=>(s.mt L mid).map λq=>
   (.rowM t np v st e ys q.1 zs,[⟨.sl (.st []),v⟩,⟨.sl t,ys⟩,⟨.sl t,zs⟩]++q.2) else none
 |.gone,.gone=>some (.gone,[])
 |_,_=>none
def ESh.fill:ESh->yL TV->yO (TEnt×yL TV)
 |.var s st,vs=>(s.fill vs).map λq=>(.var q.1 st,q.2)
 |.log t e,vs=>match vs with
  |x::r=>(Ty.cast x.1 (.sl t) x.2).map λ(y:yL t.den)=>(.log t e y,r)
  |[]=>none
 |.map tid k v,vs=>match vs with
  |x::r=>(Ty.cast x.1 (Zt9 k v) x.2).map λ(y:yL (k.den×v.den))=>(.map tid k v y,r)
  |[]=>none
 |.row t st e,vs=>match vs with
  |x::y::r=>(Ty.cast x.1 (.sl (.st [])) x.2).bind λ(v:yL Unit)=>(Ty.cast y.1 (.sl t) y.2).map λ(l:yL t.den)=>(.rowT t v st e l,r)
  |_=>none
 |.rowN t np st e,vs=>match vs with
  |x::y::z::r=>(Ty.cast x.1 (.sl (.st [])) x.2).bind λ(v:yL Unit)=>(Ty.cast y.1 (.sl t) y.2).bind λ(l:yL t.den)=>(Ty.cast z.1 (.sl t) z.2).bind λ(m:yL t.den)=>some (.rowN t np v st e l m,r)
  |_=>none
 |.rowM t np st e s,vs=>match vs with
  |x::y::z::r=>(Ty.cast x.1 (.sl (.st [])) x.2).bind λ(v:yL Unit)=>(Ty.cast y.1 (.sl t) y.2).bind λ(l:yL t.den)=>(Ty.cast z.1 (.sl t) z.2).bind λ(m:yL t.den)=>
   (s.fill r).map λq=>(.rowM t np v st e l q.1 m,q.2)
  |_=>none
 |.gone,vs=>some (.gone,vs)
def ESh.mts(L:Lk):yL ESh->yL TEnt->yO (yL TEnt×yL TV)
 |[],[]=>some ([],[])
 |s::r,d::q=>match ESh.mt L s d,ESh.mts L r q with
  |some a,some b=>some (a.1::b.1,a.2++b.2)
  |_,_=>none
 |_,_=>none
def ESh.fills:yL ESh->yL TV->yO (yL TEnt×yL TV)
 |[],vs=>some ([],vs)
 |s::r,vs=>(ESh.fill s vs).bind λa=>(ESh.fills r a.2).map λb=>(a.1::b.1,b.2)
theorem ZIx{O:Type}{t:Ty}(v:yL Unit)(a b:yL t.den)(k:yL Unit->yL t.den->yL t.den->yO O):
 ((Ty.cast (.sl (.st [])) (.sl (.st [])) v).bind λ(v:yL Unit)=>(Ty.cast (.sl t) (.sl t) a).bind λ(l:yL t.den)=>(Ty.cast (.sl t) (.sl t) b).bind λ(m:yL t.den)=>k v l m)=k v a b:=by
 have e1:=XU (.sl (.st [])) v;have e2:=XU (.sl t) a;have e3:=XU (.sl t) b;rw[e1,e2,e3];rfl
theorem ZIy{L:Lk}{s:ESh}{d:TEnt}{q:TEnt×yL TV}(h:s.mt L d=some q)(yQ:yL TV):s.fill (q.2++yQ)=some (q.1,yQ):=by
 unfold ESh.mt at h;split at h
 ·split at h
  ·obtain⟨w,h1,rfl⟩:=Zd h;simp only[ESh.fill,ZoI _ _ w h1 yQ,yaa]
  ·cases h
 ·split at h
  ·obtain⟨w,h1,rfl⟩:=Zd h;rename_i t e _ _ _ _;exact congrArg (Option.map λ(y:yL t.den)=>(TEnt.log t e y,yQ)) (XU (.sl t) w)
  ·cases h
 ·split at h
  ·obtain⟨w,h1,rfl⟩:=Zd h;rename_i tid k v _ _ _ _ _;exact congrArg (Option.map λ(y:yL (k.den×v.den))=>(TEnt.map tid k v y,yQ)) (XU (Zt9 k v) w)
  ·cases h
 ·split at h
  ·obtain⟨w,h1,rfl⟩:=Zd h;rename_i t st e _ v _ _ _ _;have e1:=XU (.sl (.st [])) v;have e2:=XU (.sl t) w;show((Ty.cast (.sl (.st [])) (.sl (.st [])) v).bind λ(v:yL Unit)=>(Ty.cast (.sl t) (.sl t) w).map λ(l:yL t.den)=>(TEnt.rowT t v st e l,yQ))=_;rw[e1,e2];rfl
  ·cases h
 ·rename_i t np st e u np' v st' e' pre post;split at h
  ·obtain⟨a,h1,h⟩:=yf.1 h;obtain⟨b,h2,rfl⟩:=Zd h;exact ZIx v a b (λv l m=>some (TEnt.rowN t np v st e l m,yQ))
  ·cases h
 ·rename_i t np st e u np' v st' e' pre mid post;split at h
  ·obtain⟨a,h1,h⟩:=yf.1 h;obtain⟨b,h2,h⟩:=yf.1 h;obtain⟨c,h3,rfl⟩:=Zd h;exact ZIx v (a++[c]) b (λv l m=>some (TEnt.rowN t np v st e l m,yQ))
  ·cases h
 ·rename_i t np st e s u np' v st' e' pre mid post;split at h
  ·obtain⟨a,h1,h⟩:=yf.1 h;obtain⟨b,h2,h⟩:=yf.1 h;obtain⟨c,h3,rfl⟩:=Zd h;have:=ZIx v a b (λv l m=>(s.fill (c.2++yQ)).map λq=>(TEnt.rowM t np v st e l q.1 m,q.2));refine this.trans ?_;rw[ZoI _ _ c h3 yQ];rfl
  ·cases h
 ·cases h;rfl
 ·cases h
theorem ZcA{L:Lk}:∀{l:yL ESh}{H:yL TEnt}{q:yL TEnt×yL TV},ESh.mts L l H=some q->∀yQ,ESh.fills l (q.2++yQ)=some (q.1,yQ)
 |[],[],q,h,yQ=>by cases h;rfl
 |[],_::_,q,h,yQ=>by cases h
 |_::_,[],q,h,yQ=>by cases h
 |s::r,d::H,q,h,yQ=>by
  simp only[ESh.mts] at h;split at h
  ·rename_i a b h1 h2;cases h;simp only[ESh.fills,yad,ZIy h1,ya,ZcA h2,yaa]
  ·cases h
theorem ZMO{L:Lk}{s:ESh}{d:TEnt}{q:TEnt×yL TV}(h:s.mt L d=some q):lkE (some q.1)=lkE (some d):=by
 unfold ESh.mt at h;split at h
 ·split at h
  ·obtain⟨w,h1,rfl⟩:=Zd h;rfl
  ·cases h
 ·split at h
  ·obtain⟨w,h1,rfl⟩:=Zd h;obtain⟨e,h2⟩:=ZQ h1;subst e;subst h2;rfl
  ·cases h
 ·split at h
  ·obtain⟨w,h1,rfl⟩:=Zd h;rfl
  ·cases h
 ·split at h
  ·obtain⟨w,h1,rfl⟩:=Zd h;obtain⟨e,h2⟩:=ZQ h1;subst e;subst h2;rfl
  ·cases h
 ·split at h
  ·obtain⟨a,h1,h⟩:=yf.1 h;obtain⟨b,h2,rfl⟩:=Zd h;obtain⟨e,h3⟩:=ZQ h1;subst e;obtain⟨_,h4⟩:=ZQ h2;subst h3;subst h4;rfl
  ·cases h
 ·split at h
  ·obtain⟨a,h1,h⟩:=yf.1 h;obtain⟨b,h2,h⟩:=yf.1 h;obtain⟨c,h3,rfl⟩:=Zd h;obtain⟨e,h4⟩:=ZQ h1;subst e;obtain⟨_,h5⟩:=ZQ h2;subst h4;subst h5;simp only[lkE,yl,yai,List.length_nil];rw[yci,Nat.add_comm (0+1)]
  ·cases h
 ·split at h
  ·obtain⟨a,h1,h⟩:=yf.1 h;obtain⟨b,h2,h⟩:=yf.1 h;obtain⟨c,h3,rfl⟩:=Zd h;obtain⟨e,h4⟩:=ZQ h1;subst e;obtain⟨_,h5⟩:=ZQ h2;subst h4;subst h5;rfl
  ·cases h
 ·cases h;rfl
 ·cases h
theorem ZkI{L:Lk}:∀{l:yL ESh}{H:yL TEnt}{q:yL TEnt×yL TV},ESh.mts L l H=some q->q.1.length=H.length/\lk q.1=lk H
 |[],[],q,h=>by cases h;exact⟨rfl,rfl⟩
 |[],_::_,q,h=>by cases h
 |_::_,[],q,h=>by cases h
 |s::r,d::H,q,h=>by
  simp only[ESh.mts] at h;split at h
  ·rename_i a b h1 h2;cases h;obtain⟨e1,e2⟩:=ZkI h2;refine⟨by simp[e1],funext λi=> ?_⟩
   cases i with
   |zero=>exact ZMO h1
   |succ i=>exact congrFun e2 i
  ·cases h
theorem ZFe:∀(l:yL Dv){m m':yL Dv},WkL m m'->WkL (l++m) (l++m')
 |[],_,_,h=>h
 |x::l,_,_,h=>.cons (Wk.refl x) (ZFe l h)
theorem ZFf{l m:yL Dv}{d d':Dv}(h:Wk d d'):WkL (l++d::m) (l++d'::m):=ZFe l (.cons h (WkL.refl m))
theorem ZIz{n s:Nat}(xs:yL Pl):Wk (.arr n s (xs.map .p)) (.p (.arr n s xs)):=⟨rfl,rfl,λσ vs r=>by
 simp only[yJ,repC] at r ⊢;obtain⟨h1,h2,h3⟩:=r;exact⟨by simpa using h1,λx hx=>h2 (.p x) (List.mem_map_of_mem hx),Zlk.1 h3⟩⟩
theorem ZMP{n s:Nat}{d:Dv}{x:Pl}(l m:yL Pl)(h:Wk d (.p x)):Wk (.arr n s (l.map .p++d::m.map .p)) (.p (.arr n s (l++x::m))):=by
 have h1:Wk (.arr n s (l.map .p++d::m.map .p)) (.arr n s (l.map .p++.p x::m.map .p)):=WkL.arr (ZFf h);have h2:=ZIz (n:=n) (s:=s) (l++x::m);rw[ybb,yaj] at h2;exact⟨rfl,rfl,λσ vs r=>h2.rep σ vs (h1.rep σ vs r)⟩
theorem ZFg{L M:Lk}{t:Ty}{np:yL Nat}{v:yL Unit}{st:Bool}{e:yc}{a b:yL t.den}{mid:TD}{c:t.den}(hw:Wk (mid.er L) (.p (t.enc c))):
 WkE ((TEnt.rowM t np v st e a mid b).er L) ((TEnt.rowN t np v st e (a++[c]) b).er M):=by
 have h:=ZMP (a.map t.enc) (b.map λx=>(Zx5 np (.v t x)).pe) (n:=a.length+(b.length+1)) (s:=t.size) hw;rw[ybi,ybi] at h;have e1:(a++[c]).length+b.length=a.length+(b.length+1):=by rw[yl,yai,List.length_nil];omega
 have e2:(a++[c]).map t.enc++(b.map λx=>(Zx5 np (.v t x)).pe)=a.map t.enc++t.enc c::b.map λx=>(Zx5 np (.v t x)).pe:=by rw[ybb,yad];rfl
 rw[TEnt.er,TEnt.er,e1,e2];exact .row ⟨h,rfl⟩
theorem ZMQ{L M:Lk}(hL:∀id t,Yy L id t none=Yy M id t none){s:ESh}{d:TEnt}{q:TEnt×yL TV}(h:s.mt L d=some q):WkE (d.er L) (q.1.er M):=by
 unfold ESh.mt at h;split at h
 ·split at h
  ·rename_i e;obtain⟨w,h1,rfl⟩:=Zd h;rcases e with e|e
   ·subst e;exact .var (ZvJ hL _ _ w h1)
   ·subst e;exact .varz (ZvJ hL _ _ w h1)
  ·cases h
 ·split at h
  ·rename_i e;subst e;obtain⟨w,h1,rfl⟩:=Zd h;obtain⟨e,h2⟩:=ZQ h1;subst e;subst h2;exact .refl _
  ·cases h
 ·split at h
  ·rename_i e;subst e;obtain⟨w,h1,rfl⟩:=Zd h;obtain⟨e,h2⟩:=ZcN h1;unfold Zt9 at e;simp only[Ty.sl.injEq,Ty.st.injEq,List.cons.injEq,and_true] at e;obtain⟨e1,e2⟩:=e;subst e1;subst e2;subst h2;exact .refl _
  ·cases h
 ·split at h
  ·rename_i e;obtain⟨e0,e1⟩:=e;subst e1;obtain⟨w,h1,rfl⟩:=Zd h;obtain⟨e,h2⟩:=ZQ h1;subst e;subst h2;rcases e0 with e0|e0
   ·subst e0;exact .refl _
   ·subst e0;exact .lock
  ·cases h
 ·split at h
  ·rename_i e;obtain⟨e0,e1,e2⟩:=e;subst e1;subst e2;obtain⟨a,h1,h⟩:=yf.1 h;obtain⟨b,h2,rfl⟩:=Zd h;obtain⟨e,h3⟩:=ZQ h1;subst e;obtain⟨_,h4⟩:=ZQ h2;subst h3;subst h4;rcases e0 with e0|e0
   ·subst e0;exact .refl _
   ·subst e0;exact .lock
  ·cases h
 ·rename_i _ _ _ _ _ _ _ _ _ pre mid post;split at h
  ·rename_i e;obtain⟨e0,e1,e2⟩:=e;subst e0;subst e1;subst e2;obtain⟨a,h1,h⟩:=yf.1 h;obtain⟨b,h2,h⟩:=yf.1 h;obtain⟨c,h3,rfl⟩:=Zd h;obtain⟨e,h4⟩:=ZQ h1;subst e;obtain⟨_,h5⟩:=ZQ h2;subst h4;subst h5;exact ZFg (ZFd h3)
  ·cases h
 ·split at h
  ·rename_i e;obtain⟨e0,e1,e2⟩:=e;subst e0;subst e1;subst e2;obtain⟨a,h1,h⟩:=yf.1 h;obtain⟨b,h2,h⟩:=yf.1 h;obtain⟨c,h3,rfl⟩:=Zd h;obtain⟨e,h4⟩:=ZQ h1;subst e;obtain⟨_,h5⟩:=ZQ h2;subst h4;subst h5;rw[TEnt.er,TEnt.er];exact .row ⟨WkL.arr (ZFf (ZvJ hL _ _ c h3)),rfl⟩
  ·cases h
 ·cases h;exact .refl _
 ·cases h
theorem ZoJ{L M:Lk}(hL:∀id t,Yy L id t none=Yy M id t none):∀{l:yL ESh}{H:yL TEnt}{q:yL TEnt×yL TV},ESh.mts L l H=some q->WkH (H.map (TEnt.er L)) (q.1.map (TEnt.er M))
 |[],[],q,h=>by cases h;exact .nil
 |[],_::_,q,h=>by cases h
 |_::_,[],q,h=>by cases h
 |s::r,d::H,q,h=>by
  simp only[ESh.mts] at h;split at h
  ·rename_i a b h1 h2;cases h;exact .cons (ZMQ hL h1) (ZoJ hL h2)
  ·cases h
def ofD:(ts:yL Ty)->Ty.dens ts->yL TV
 |[],_=>[]
 |[t],x=>[⟨t,x⟩]
 |t::u::r,x=>⟨t,x.1⟩::ofD (u::r) x.2
def toD:(ts:yL Ty)->yL TV->yO (Ty.dens ts)
 |[],[]=>some ()
 |[t],[x]=>Ty.cast x.1 t x.2
 |t::u::r,x::l=>Zpu (Ty.cast x.1 t x.2) (toD (u::r) l)
 |_,_=>none
theorem Ze9:∀(ts:yL Ty)(l:yL TV)(x:Ty.dens ts),toD ts l=some x->ofD ts x=l
 |[],[],x,h=>rfl
 |[],_::_,x,h=>by cases h
 |[t],[],x,h=>by cases h
 |[t],[y],x,h=>by
  obtain⟨e,h2⟩:=ZcN (show Ty.cast y.1 t y.2=some x from h)
  obtain⟨u,y⟩:=y;dsimp only at e h2;subst e;subst h2
  rfl
 |[t],_::_::_,x,h=>by cases h
 |t::u::r,[],x,h=>by cases h
 |t::u::r,y::l,x,h=>by
  obtain⟨h1,h2⟩:=Zcy (α:=t.den) (β:=Ty.dens (u::r)) (show Zpu (Ty.cast y.1 t y.2) (toD (u::r) l)=some x from h)
  obtain⟨e,h3⟩:=ZcN h1;obtain⟨u',y⟩:=y;dsimp only at e h3;subst e;have:=Ze9 (u::r) l x.2 h2;show(⟨u',x.1⟩:TV)::ofD (u::r) x.2=_;rw[this,h3]
abbrev Slots:=yL (Nat×Sh)
def shs(sl:Slots)(n:Nat):yL Sh:=(yu n).map λi=>(sl.lookup i).getD .junk
def Zas(n:Nat)(sl:Slots)(es:yL ESh)(vs:yL TV):yO (yL TD×yL TEnt):=
 (Sh.fills (shs sl n) vs).bind λq=>(ESh.fills es q.2).bind λw=>if w.2.isEmpty then some (q.1,w.1) else none
theorem ZoK:∀{l:yL Sh}{vs:yL TV}{q:yL TD×yL TV},Sh.fills l vs=some q->q.1.length=l.length
 |[],vs,q,h=>by simp only[Sh.fills] at h;cases h;rfl
 |s::r,vs,q,h=>by
  simp only[Sh.fills] at h;obtain⟨a,h1,h⟩:=yf.1 h;obtain⟨b,h2,rfl⟩:=Zd h;simp[ZoK h2]
theorem ZkJ{n:Nat}{sl:Slots}{es:yL ESh}{vs:yL TV}{q:yL TD×yL TEnt}(h:Zas n sl es vs=some q):q.1.length=n:=by
 unfold Zas at h;obtain⟨a,h1,h⟩:=yf.1 h;obtain⟨b,h2,h⟩:=yf.1 h;split at h
 ·cases h;rw[ZoK h1];simp[shs]
 ·cases h
structure XSh where
 ex:Ex
 sl:Slots
 es:List ESh
 ty:List Ty
def XSh.sum:yL XSh->Type
 |[]=>Empty
 |[e]=>Ty.dens e.ty
 |e::f::r=>Ty.dens e.ty⊕XSh.sum (f::r)
abbrev Kc(O:Type):=Ex->yL TD->yL TEnt->yO O
def xT{O:Type}(n:Nat):(l:yL XSh)->XSh.sum l->Kc O->yO O
 |[],_,_=>none
 |[e],o,K=>(Zas n e.sl e.es (ofD e.ty o)).bind λs=>K e.ex s.1 s.2
 |e::f::r,o,K=>match (o:Ty.dens e.ty⊕XSh.sum (f::r)) with
  |.inl o=>(Zas n e.sl e.es (ofD e.ty o)).bind λs=>K e.ex s.1 s.2
  |.inr o=>xT n (f::r) o K
def ZBT:(l:yL XSh)->XSh.sum l->XSh->yL TV->Prop
 |[],_,_,_=>False
 |[e],o,x,vs=>x=e/\vs=ofD e.ty o
 |e::f::r,o,x,vs=>match (o:Ty.dens e.ty⊕XSh.sum (f::r)) with
  |.inl o=>x=e/\vs=ofD e.ty o
  |.inr o=>ZBT (f::r) o x vs
theorem ZuB{O:Type}{n:Nat}{K:Kc O}{out:O}:∀{l:yL XSh}{o:XSh.sum l},xT n l o K=some out->∃e vs s,ZBT l o e vs/\Zas n e.sl e.es vs=some s/\K e.ex s.1 s.2=some out
 |[],_,h=>by cases h
 |[e],o,h=>by
  obtain⟨s,h1,h2⟩:=yf.1 (show(Zas n e.sl e.es (ofD e.ty o)).bind (λs=>K e.ex s.1 s.2)=some out from h)
  exact⟨e,_,s,⟨rfl,rfl⟩,h1,h2⟩
 |e::f::r,.inl o,h=>by
  obtain⟨s,h1,h2⟩:=yf.1 (show(Zas n e.sl e.es (ofD e.ty o)).bind (λs=>K e.ex s.1 s.2)=some out from h)
  exact⟨e,_,s,⟨rfl,rfl⟩,h1,h2⟩
 |e::f::r,.inr o,h=>by
  obtain⟨e',vs,s,h1,h2,h3⟩:=ZuB (l:=f::r) (o:=o) h;exact⟨e',vs,s,h1,h2,h3⟩
mutual
def TD.rn(f:Nat->yO Nat):TD->yO TD
 |.p x=>some (.p x)
 |.elem x=>some (.elem x)
 |.ref id yS=>(f id).map λi=>.ref i yS
 |.own id nn t c=>(f id).map λi=>.own i nn t c
 |.view id yS s lo n=>(f id).map λi=>.view i yS s lo n
 |.agg xs=>(TD.rns f xs).map .agg
 |.arr n s xs=>(TD.rns f xs).map (.arr n s)
 |.fn g cap=>(TD.rns f cap).map (.fn g)
 |.iface t x=>(TD.rn f x).map (.iface t)
 |.tup xs=>(TD.rns f xs).map .tup
 |.mp id=>(f id).map .mp
 |.rv id v s lo n=>(f id).map λi=>.rv i v s lo n
 |.rref id v yS=>(f id).map λi=>.rref i v yS
 |.rw id=>(f id).map .rw
 |.rp id yS=>(f id).map λi=>.rp i yS
 |.junk=>some .junk
def TD.rns(f:Nat->yO Nat):yL TD->yO (yL TD)
 |[]=>some []
 |x::r=>match TD.rn f x,TD.rns f r with
  |some y,some ys=>some (y::ys)
  |_,_=>none
end
def TEnt.rn(f:Nat->yO Nat):TEnt->yO TEnt
 |.var d st=>(d.rn f).map λd'=>.var d' st
 |.row v s st e d=>(d.rn f).map λd'=>.row v s st e d'
 |.rowM t np v st e pre d post=>(d.rn f).map λd'=>.rowM t np v st e pre d' post
 |e=>some e
def TEnt.rns(f:Nat->yO Nat):yL TEnt->yO (yL TEnt)
 |[]=>some []
 |x::r=>match TEnt.rn f x,TEnt.rns f r with
  |some y,some ys=>some (y::ys)
  |_,_=>none
def Rc(f:Nat->yO Nat)(L M:Lk):Prop:=∀id j t,f id=some j->Yy L id t none=Yy M j t none
theorem ZKU{f:Nat->yO Nat}{L M:Lk}(h:Rc f L M){id j:Nat}(e:f id=some j)(t:Ty)(c:yO (yL t.den)):Yy L id t c=Yy M j t c:=by
 cases c with
 |none=>exact h id j t e
 |some _=>rfl
mutual
theorem Zh6{f:Nat->yO Nat}{L M:Lk}(h:Rc f L M):∀(d d':TD),d.rn f=some d'->Dv.rn f (d.er L)=some (d'.er M)
 |.p x,d',e=>by cases e;rfl
 |.elem x,d',e=>by cases e;rfl
 |.ref id yS,d',e=>by
  obtain⟨i,h1,rfl⟩:=Zd e
  simp only[TD.er,Dv.rn,h1,yaa]
 |.own id nn t c,d',e=>by
  obtain⟨i,h1,rfl⟩:=Zd e
  simp only[TD.er,Dv.rn,h1,yaa,ZKU h h1]
 |.view id yS s lo n,d',e=>by
  obtain⟨i,h1,rfl⟩:=Zd e
  simp only[TD.er,Dv.rn,h1,yaa]
 |.agg xs,d',e=>by
  obtain⟨i,h1,rfl⟩:=Zd e
  simp only[TD.er,Dv.rn,rns_er h xs i h1,yaa]
 |.arr n s xs,d',e=>by
  obtain⟨i,h1,rfl⟩:=Zd e
  simp only[TD.er,Dv.rn,rns_er h xs i h1,yaa]
 |.fn g xs,d',e=>by
  obtain⟨i,h1,rfl⟩:=Zd e
  simp only[TD.er,Dv.rn,rns_er h xs i h1,yaa]
 |.iface t x,d',e=>by
  obtain⟨i,h1,rfl⟩:=Zd e
  simp only[TD.er,Dv.rn,Zh6 h x i h1,yaa]
 |.tup xs,d',e=>by
  obtain⟨i,h1,rfl⟩:=Zd e
  simp only[TD.er,Dv.rn,rns_er h xs i h1,yaa]
 |.mp id,d',e=>by
  obtain⟨i,h1,rfl⟩:=Zd e
  simp only[TD.er,Dv.rn,h1,yaa]
 |.rv id v s lo n,d',e=>by
  obtain⟨i,h1,rfl⟩:=Zd e
  simp only[TD.er,Dv.rn,h1,yaa]
 |.rref id v yS,d',e=>by
  obtain⟨i,h1,rfl⟩:=Zd e
  simp only[TD.er,Dv.rn,h1,yaa]
 |.rw id,d',e=>by
  obtain⟨i,h1,rfl⟩:=Zd e
  simp only[TD.er,Dv.rn,h1,yaa,Zd4,h _ _ _ h1]
 |.rp id yS,d',e=>by
  obtain⟨i,h1,rfl⟩:=Zd e
  simp only[TD.er,Dv.rn,h1,yaa,Zd4,h _ _ _ h1]
 |.junk,d',e=>by cases e;rfl
theorem rns_er{f:Nat->yO Nat}{L M:Lk}(h:Rc f L M):∀(ds es:yL TD),TD.rns f ds=some es->Dv.rns f (TD.ers L ds)=some (TD.ers M es)
 |[],es,e=>by cases e;rfl
 |x::r,es,e=>by
  simp only[TD.rns] at e;split at e
  ·rename_i y ys h1 h2;cases e;simp only[TD.ers,Dv.rns,Zh6 h x y h1,rns_er h r ys h2]
  ·cases e
end
theorem ZDU{α:Type}(f:Nat->yO Nat)(g:α->Pl):∀(l:yL α)(m:yL Dv),Dv.rns f ((l.map λx=>.p (g x))++m)=(Dv.rns f m).map λq=>(l.map λx=>.p (g x))++q
 |[],m=>by cases h:Dv.rns f m <;> simp[h]
 |x::l,m=>by
  rw[yaj,yae,Dv.rns,Dv.rn,ZDU f g l m];cases Dv.rns f m <;> rfl
theorem ZKV{α β:Type}{f:Nat->yO Nat}{g:α->Pl}{g':β->Pl}{l:yL α}{d d':Dv}{m:yL β}(h:Dv.rn f d=some d'):
 Dv.rns f ((l.map λx=>.p (g x))++d::m.map λx=>.p (g' x))=some ((l.map λx=>.p (g x))++d'::m.map λx=>.p (g' x)):=by
 have e:=ZDU f g' m [];rw[ybd] at e;rw[ZDU,Dv.rns,h,e];simp[Dv.rns]
theorem ZIA{f:Nat->yO Nat}{L M:Lk}(h:Rc f L M){e e':TEnt}(k:e.rn f=some e'):Ent.rn f (e.er L)=some (e'.er M):=by
 cases e with
 |var d st=>
  obtain⟨i,h1,rfl⟩:=Zd k
  simp only[TEnt.er,Ent.rn,Zh6 h d i h1,yaa]
 |row v s st e d=>
  obtain⟨i,h1,rfl⟩:=Zd k
  simp only[TEnt.er,Ent.rn,Zh6 h d i h1,yaa]
 |rowM t np v st e pre d post=>
  obtain⟨i,h1,rfl⟩:=Zd k
  simp only[TEnt.er,Ent.rn,Dv.rn,ZKV (Zh6 h d i h1),yaa]
 |_=>cases k;rfl
theorem ZFh{f:Nat->yO Nat}{L M:Lk}(h:Rc f L M):∀(ds es:yL TEnt),TEnt.rns f ds=some es->Ent.rns f (ds.map (TEnt.er L))=some (es.map (TEnt.er M))
 |[],es,e=>by cases e;rfl
 |x::r,es,e=>by
  simp only[TEnt.rns] at e;split at e
  ·rename_i y ys h1 h2;cases e;simp only[yaj,Ent.rns,ZIA h h1,ZFh h r ys h2]
  ·cases e
theorem ZIB{f:Nat->yO Nat}{e e':TEnt}(k:e.rn f=some e'):lkE (some e')=lkE (some e):=by
 cases e with
 |var d st=>obtain⟨i,h1,rfl⟩:=Zd k;rfl
 |row v s st e d=>obtain⟨i,h1,rfl⟩:=Zd k;rfl
 |rowM t np v st e pre d post=>obtain⟨i,h1,rfl⟩:=Zd k;rfl
 |_=>cases k;rfl
theorem ZBU{f:Nat->yO Nat}:∀{ds es:yL TEnt},TEnt.rns f ds=some es->es.length=ds.length/\∀(j:Nat),lkE (es[j]?)=lkE (ds[j]?)
 |[],es,e=>by cases e;exact⟨rfl,λ_=>rfl⟩
 |x::r,es,e=>by
  simp only[TEnt.rns] at e;split at e
  ·rename_i y ys h1 h2;cases e;obtain⟨g1,g2⟩:=ZBU h2;refine⟨by simp[g1],λj=> ?_⟩
   cases j with
   |zero=>exact ZIB h1
   |succ j=>exact g2 j
  ·cases e
def VA(H:yL TEnt)(all:yL Nat):yL Nat->yO (yL TEnt)
 |[]=>some []
 |id::r=>match (H[id]?).bind (TEnt.rn (toIds all)),VA H all r with
  |some e,some es=>some (e::es)
  |_,_=>none
theorem Zhc{H:yL TEnt}{all:yL Nat}:∀{ids:yL Nat}{Hin:yL TEnt},VA H all ids=some Hin->Hin.length=ids.length/\∀(j id:Nat),ids[j]? =some id->id < H.length/\lkE (Hin[j]?)=lkE (H[id]?)
 |[],Hin,h=>by cases h;exact⟨rfl,λj id e=>by simp at e⟩
 |i::r,Hin,h=>by
  simp only[VA] at h;split at h
  ·rename_i e es h1 h2;cases h;obtain⟨g1,g2⟩:=Zhc h2;obtain⟨e0,h3,h4⟩:=yf.1 h1;refine⟨by simp[g1],λj id hj=> ?_⟩
   cases j with
   |zero=>
    cases hj
    exact⟨(yq.1 h3).1,by rw[h3];exact ZIB h4⟩
   |succ j=>exact g2 j id hj
  ·cases h
theorem Vq{H:yL TEnt}{all:yL Nat}{M:Lk}(h:Rc (toIds all) (lk H) M):∀{ids:yL Nat}{Hin:yL TEnt},VA H all ids=some Hin->subEnts (erH H) all ids=some (Hin.map (TEnt.er M))
 |[],Hin,e=>by cases e;rfl
 |i::r,Hin,e=>by
  simp only[VA] at e;split at e
  ·rename_i e0 es h1 h2;cases e;obtain⟨e1,h3,h4⟩:=yf.1 h1;simp only[subEnts,Xs h3,ya,ZIA h h4,Vq h h2,yaj]
  ·cases e
mutual
def TD.lay(L:Lk)(S:yL Nat):TD->TD
 |.own id nn t c=>if S.contains id then .own id nn t (some (Yy L id t c)) else .own id nn t c
 |.agg xs=>.agg (TD.lays L S xs)
 |.arr m s xs=>.arr m s (TD.lays L S xs)
 |.fn f xs=>.fn f (TD.lays L S xs)
 |.iface t x=>.iface t (TD.lay L S x)
 |.tup xs=>.tup (TD.lays L S xs)
 |.p x=>.p x
 |.elem x=>.elem x
 |.ref id yS=>.ref id yS
 |.view id yS s lo n=>.view id yS s lo n
 |.mp id=>.mp id
 |.rv id v s lo n=>.rv id v s lo n
 |.rref id v yS=>.rref id v yS
 |.rw id=>if S.contains id then .rv id (Zd4 L id 0) (Zd4 L id 1) 0 (Zd4 L id 2) else .rw id
 |.rp id yS=>if S.contains id then .rref id (Zd4 L id 0) yS else .rp id yS
 |.junk=>.junk
def TD.lays(L:Lk)(S:yL Nat):yL TD->yL TD
 |[]=>[]
 |x::r=>TD.lay L S x::TD.lays L S r
end
mutual
def TD.under(n:Nat):TD->Bool
 |.own id _ _ c=>c.isSome || decide (id < n)
 |.rw id=>decide (id < n)
 |.rp id _=>decide (id < n)
 |.agg xs=>TD.unders n xs
 |.arr _ _ xs=>TD.unders n xs
 |.fn _ xs=>TD.unders n xs
 |.iface _ x=>TD.under n x
 |.tup xs=>TD.unders n xs
 |_=>true
def TD.unders(n:Nat):yL TD->Bool
 |[]=>true
 |x::r=>TD.under n x&&TD.unders n r
end
def TEnt.lay(L:Lk)(S:yL Nat):TEnt->TEnt
 |.var d st=>.var (d.lay L S) st
 |.row v s st e d=>.row v s st e (d.lay L S)
 |.rowM t np v st e pre d post=>.rowM t np v st e pre (d.lay L S) post
 |e=>e
def TEnt.under(n:Nat):TEnt->Bool
 |.var d _=>d.under n
 |.row _ _ _ _ d=>d.under n
 |.rowM _ _ _ _ _ _ d _=>d.under n
 |_=>true
def Lo(S:yL Nat)(n:Nat)(L M:Lk):Prop:=∀id t,S.contains id=false->id < n->Yy L id t none=Yy M id t none
mutual
theorem ZvK{L M:Lk}{S:yL Nat}{n:Nat}(h:Lo S n L M):∀(d:TD),d.under n=true->(d.lay L S).er M=d.er L
 |.p _,_=>rfl
 |.elem _,_=>rfl
 |.ref _ _,_=>rfl
 |.own id nn t c,hf=>by
  rw[TD.lay];split
  ·rfl
  ·rename_i hn
   cases c with
   |none=>
    have:id < n:=by simpa[TD.under] using hf
    rw[TD.er,TD.er,h id t (by simpa using hn) this]
   |some _=>rfl
 |.view _ _ _ _ _,_=>rfl
 |.agg xs,hf=>by rw[TD.lay,TD.er,TD.er,ers_lay h xs hf]
 |.arr _ _ xs,hf=>by rw[TD.lay,TD.er,TD.er,ers_lay h xs hf]
 |.fn _ xs,hf=>by rw[TD.lay,TD.er,TD.er,ers_lay h xs hf]
 |.iface _ x,hf=>by rw[TD.lay,TD.er,TD.er,ZvK h x hf]
 |.tup xs,hf=>by rw[TD.lay,TD.er,TD.er,ers_lay h xs hf]
 |.mp _,_=>rfl
 |.rv _ _ _ _ _,_=>rfl
 |.rref _ _ _,_=>rfl
 |.rw id,hf=>by
  rw[TD.lay];split
  ·rfl
  ·rename_i hn;have:id < n:=by simpa[TD.under] using hf
   simp only[TD.er,Zd4,h id _ (by simpa using hn) this]
 |.rp id _,hf=>by
  rw[TD.lay];split
  ·rfl
  ·rename_i hn;have:id < n:=by simpa[TD.under] using hf
   simp only[TD.er,Zd4,h id _ (by simpa using hn) this]
 |.junk,_=>rfl
theorem ers_lay{L M:Lk}{S:yL Nat}{n:Nat}(h:Lo S n L M):∀(ds:yL TD),TD.unders n ds=true->TD.ers M (TD.lays L S ds)=TD.ers L ds
 |[],_=>rfl
 |x::r,hf=>by
  simp only[TD.unders,yi] at hf;rw[TD.lays,TD.ers,TD.ers,ZvK h x hf.1,ers_lay h r hf.2]
end
theorem ZBV{L:Lk}{S:yL Nat}:∀(l:yL TD),(TD.lays L S l).length=l.length
 |[]=>rfl
 |_::r=>by rw[TD.lays,yai,yai,ZBV r]
theorem ZKW{L M:Lk}{S:yL Nat}{n:Nat}(h:Lo S n L M){e:TEnt}(hf:e.under n=true):(e.lay L S).er M=e.er L:=by
 cases e with
 |var d st=>rw[TEnt.lay,TEnt.er,TEnt.er,ZvK h d hf]
 |row v s st e d=>rw[TEnt.lay,TEnt.er,TEnt.er,ZvK h d hf]
 |rowM t np v st e pre d post=>rw[TEnt.lay,TEnt.er,TEnt.er,ZvK h d hf]
 |_=>rfl
theorem ZKX{L:Lk}{S:yL Nat}(e:yO TEnt):lkE (e.map (TEnt.lay L S))=lkE e:=by
 cases e with
 |none=>rfl
 |some e=>cases e <;> rfl
theorem Zts{α β:Type}(f:α->β):∀(ids:yL Nat)(A B:yL α),(putBack A ids B).map f=putBack (A.map f) ids (B.map f)
 |[],A,B=>by simp[putBack]
 |id::r,A,[]=>by simp[putBack]
 |id::r,A,b::B=>by simp only[putBack,yaj];rw[Zts f r,ybv]
def TD.argI(L:Lk)(ids:yL Nat):TD->TD
 |.own id nn t c=>if ids.contains id then .own id nn t c else .p (.sl nn t (Yy L id t c))
 |.agg ds=>if TD.ownss ids ds then .agg ds else TD.melt L ds
 |d=>d
theorem ZFi{L:Lk}{ids:yL Nat}(d:TD):(d.argI L ids).er L=Dv.argI ids (d.er L):=by
 cases d with
 |own id nn t c=>
  rw[TD.argI,TD.er,Dv.argI]
  split <;> rfl
 |p _=>rfl
 |elem _=>rfl
 |ref _ _=>rfl
 |view _ _ _ _ _=>rfl
 |agg ds=>
  rw[TD.argI,TD.er,Dv.argI,ownss_er];split
  ·rw[TD.er]
  ·exact ZE5 _
 |arr _ _ _=>rfl
 |fn _ _=>rfl
 |iface _ _=>rfl
 |tup _=>rfl
 |mp _=>rfl
 |rv _ _ _ _ _=>rfl
 |rref _ _ _=>rfl
 |rw _=>rfl
 |rp _ _=>rfl
 |junk=>rfl
def ZBW(P:yg)(ts:yL TD):yL yo->yL yc->yO (yL TD)
 |[],_=>some []
 |_,[]=>some []
 |x::r,t::q=>match arT P ts t x,ZBW P ts r q with
  |some a,some b=>some (a::b)
  |_,_=>none
theorem ZvL{P:yg}{ts:yL TD}{L:Lk}(ids:yL Nat):∀{l:yL yo}{ty:yL yc}{ds:yL TD},ZBW P ts l ty=some ds->
 ((l.zip ty).map λq=>(ZS P (TD.ers L ts) q.2 q.1).argI ids)=TD.ers L (ds.map (TD.argI L ids))
 |[],ty,ds,h=>by cases h;rfl
 |x::r,[],ds,h=>by cases h;rfl
 |x::r,t::q,ds,h=>by
  simp only[ZBW] at h;split at h
  ·rename_i a b h1 h2;cases h;simp only[List.zip_cons_cons,yaj,TD.ers,ZM (L:=L) h1,ZFi,ZvL ids h2]
  ·cases h
theorem ZFj{L:Lk}(ids:yL Nat)(ds:yL TD):(TD.ers L ds).map (Dv.argI ids)=TD.ers L (ds.map (TD.argI L ids)):=by
 rw[ZW,ZW,ybi,ybi];exact yct λx _=>(ZFi x).symm
structure Fs(P:yg)where
 g:yv
 ps:List Sh
 es:List ESh
 ins:List Ty
 xs:List XSh
 M:Ty.dens ins->Option (XSh.sum xs)
def Fs.Ok{P:yg}(s:Fs P):Prop:=
 ∀x o,s.M x=some o->∃args R H,Sh.fills s.ps (ofD s.ins x)=some (args,R)/\ESh.fills s.es R=some (H,[])/\
  ∀e vs s',ZBT s.xs o e vs->Zas 1 e.sl e.es vs=some s'->∃r,s'.1=[r]/\Con P s.g (TD.ers (lk H) args) (erH H) (r.er (lk s'.2)) (erH s'.2)
def AllOk{P:yg}:yL (Fs P)->Prop
 |[]=>True
 |s::r=>s.Ok/\AllOk r
mutual
def Sh.ids:Sh->TD->yL (Nat×Nat)
 |.own j _,d=>match d with
  |.own id _ _ none=>[(j,id)]
  |_=>[]
 |.ref j _,d=>match d with
  |.ref id _=>[(j,id)]
  |_=>[]
 |.mp j,d=>match d with
  |.mp id=>[(j,id)]
  |_=>[]
 |.rw j,d=>match d with
  |.rw id=>[(j,id)]
  |_=>[]
 |.rp j _ _,d=>match d with
  |.rp id _=>[(j,id)]
  |_=>[]
 |.view j _ _ _ _,d=>match d with
  |.view id _ _ _ _=>[(j,id)]
  |_=>[]
 |.fn _ l,d=>match d with
  |.fn _ ds=>Sh.idsL l ds
  |_=>[]
 |.agg l,d=>match d with
  |.agg ds=>Sh.idsL l ds
  |_=>[]
 |.arr _ _ l,d=>match d with
  |.arr _ _ ds=>Sh.idsL l ds
  |_=>[]
 |.tup l,d=>match d with
  |.tup ds=>Sh.idsL l ds
  |_=>[]
 |.iface _ x,d=>match d with
  |.iface _ y=>Sh.ids x y
  |_=>[]
 |_,_=>[]
def Sh.idsL:yL Sh->yL TD->yL (Nat×Nat)
 |[],_=>[]
 |s::r,ds=>match ds with
  |d::q=>Sh.ids s d++Sh.idsL r q
  |[]=>[]
end
def ZMR(H:yL TEnt):yL ESh->Nat->yL (Nat×Nat)->yL (Nat×Nat)
 |[],_,l=>l
 |e::r,j,l=>ZMR H r (j+1) (match e,(l.lookup j).bind λid=>Ztp H id with
  |.var s _,some d=>l++Sh.ids s d
  |_,_=>l)
def ZL0(H:yL TEnt)(ps:yL Sh)(es:yL ESh)(ds:yL TD):yO (yL Nat):=
 let l:=ZMR H es 0 (Sh.idsL ps ds)
 (yu es.length).mapM λj=>l.lookup j
def ZzT{P:yg}(s:Fs P)(H:yL TEnt)(args:yL TD)(ids:yL Nat):yO (Ty.dens s.ins):=
 if once ids then(TD.rns (toIds ids) (args.map (TD.argI (lk H) ids))).bind λa2=>(VA H ids ids).bind λHin=>
  (Sh.mts (lk Hin) s.ps a2).bind λq=>(ESh.mts (lk Hin) s.es Hin).bind λw=>toD s.ins (q.2++w.2)
 else none
theorem Zca{H Hin:yL TEnt}{ids:yL Nat}(h:VA H ids ids=some Hin):Rc (toIds ids) (lk H) (lk Hin):=by
 intro id j t e;obtain⟨g1,g2⟩:=Zhc h;have hj:=idxOf?_some e;have:=(g2 j id hj).2;unfold Yy lk;dsimp only;rw[this]
theorem ZKY{P:yg}{s:Fs P}{H:yL TEnt}{args:yL TD}{ids:yL Nat}{x:Ty.dens s.ins}(h:ZzT s H args ids=some x):
 once ids=true/\∃Hin a2 a3 H3 R,VA H ids ids=some Hin/\subEnts (erH H) ids ids=some (erH Hin)/\Dv.rns (toIds ids) (TD.ers (lk H) (args.map (TD.argI (lk H) ids)))=some (TD.ers (lk Hin) a2)/\
  Sh.fills s.ps (ofD s.ins x)=some (a3,R)/\ESh.fills s.es R=some (H3,[])/\WkL (TD.ers (lk Hin) a2) (TD.ers (lk H3) a3)/\WkH (erH Hin) (erH H3):=by
 unfold ZzT at h;split at h
 ·rename_i ho;obtain⟨a2,h1,h⟩:=yf.1 h;obtain⟨Hin,h2,h⟩:=yf.1 h;obtain⟨q,h3,h⟩:=yf.1 h;obtain⟨w,h4,h⟩:=yf.1 h;obtain⟨g1,g2⟩:=ZkI h4;have e:=Ze9 _ _ _ h;have hc:∀id t,Yy (lk Hin) id t none=Yy (lk w.1) id t none:=λid t=>by rw[g2]
  refine⟨ho,Hin,a2,q.1,w.1,w.2,h2,Vq (Zca h2) h2,rns_er (Zca h2) _ _ h1, ?_, ?_,mts_wk hc _ _ _ h3,ZoJ hc h4⟩
  ·rw[e];exact mts_fills _ _ _ h3 _
  ·have:=ZcA h4 []
   rwa [ybd] at this
 ·cases h
section
variable{P:yg}{o:Oper}{ts all:yL TD}{H:yL TEnt}{O:Type}{K:Kn O}{out:O}
def ZKZ(all:yL TD)(H:yL TEnt)(K:Kn O)(ids:yL Nat)(r:TD)(Hn:yL TEnt):yO O:=
 if(ids.isEmpty&&Hn.isEmpty)=true then(r.rn λ_=>none).bind λr'=>K all r' H [.call (r.er (lk [])) [] []] 0 else
 (r.rn (fromIds ids H.length)).bind λr'=>(TEnt.rns (fromIds ids H.length) Hn).bind λHb=>
   if(decide (ids.length<=Hn.length)&&TD.unders H.length all&&H.all (TEnt.under H.length))=true then
    K (TD.lays (lk H) ids all) r' (putBack (H.map (TEnt.lay (lk H) ids)) ids Hb) [.call (r.er (lk Hn)) (erH Hn) ids] 2
   else none
def ZvM(s:Fs P)(all:yL TD)(H:yL TEnt)(K:Kn O)(args:yL TD)(ids:yL Nat)(x:Ty.dens s.ins):yO O:=
 (s.M x).bind λy=>xT 1 s.xs y λ_ rs Hn=>match rs with
   |[r]=>ZKZ all H K ids r Hn
   |_=>none
def ZBX(g:yv)(all:yL TD)(H:yL TEnt)(K:Kn O)(args:yL TD)(zO:yO O):yL (Fs P)->yO O
 |[]=>zO
 |s::yQ=>if s.g=g then match (ZL0 H s.ps s.es args).bind λids=>(ZzT s H args ids).map λx=>(ids,x) with
   |some q=>ZvM s all H K args q.1 q.2
   |none=>ZBX g all H K args zO yQ
  else ZBX g all H K args zO yQ
mutual
def Sh.exD:Sh->TD->Bool
 |.v t,d=>match d with
  |.p (.v u _)=>match Ty.dec u t with
   |isTrue _=>true
   |isFalse _=>false
  |_=>false
 |.own _ _,d=>match d with
  |.own _ none _ none=>true
  |_=>false
 |.ref _ _,d=>match d with
  |.ref _ _=>true
  |_=>false
 |.mp _,d=>match d with
  |.mp _=>true
  |_=>false
 |.rw _,d=>match d with
  |.rw _=>true
  |_=>false
 |.agg l,d=>match d with
  |.agg ds=>Sh.exDs l ds
  |_=>false
 |.arr _ _ l,d=>match d with
  |.arr _ _ ds=>Sh.exDs l ds
  |_=>false
 |.ptr0,_=>true
 |.fn0,_=>true
 |.if0,_=>true
 |.map0,_=>true
 |_,_=>false
def Sh.exDs:yL Sh->yL TD->Bool
 |[],[]=>true
 |s::r,d::q=>Sh.exD s d&&Sh.exDs r q
 |_,_=>false
end
theorem ZPb{L:Lk}{t:Ty}{d:TD}{q:TD×yL TV}(h:Sh.exD (.v t) d=true)(k:Sh.mt L (.v t) d=some q):q.1=d:=by
 unfold Sh.exD at h;split at h
 ·rename_i u y;split at h
  ·rename_i e _;subst e;unfold Sh.mt TD.toT TP.to at k;dsimp only at k;rw[XU,yaa] at k;cases k;rfl
  ·cases h
 ·cases h
theorem ZMS{L:Lk}{j:Nat}{t:Ty}{d:TD}{q:TD×yL TV}(h:Sh.exD (.own j t) d=true)(k:Sh.mt L (.own j t) d=some q):q.1=d:=by
 unfold Sh.exD at h;split at h
 ·unfold Sh.mt at k;dsimp only at k;split at k
  ·rename_i e;obtain⟨rfl,rfl⟩:=e;cases k;rfl
  ·cases k
 ·cases h
theorem ZMT{L:Lk}{j:Nat}{p:yL Stp}{d:TD}{q:TD×yL TV}(h:Sh.exD (.ref j p) d=true)(k:Sh.mt L (.ref j p) d=some q):q.1=d:=by
 unfold Sh.exD at h;split at h
 ·unfold Sh.mt at k;dsimp only at k;split at k
  ·rename_i e;obtain⟨rfl,e2⟩:=e;have:=Zh5 e2;subst this;cases k;rfl
  ·cases k
 ·cases h
theorem ZN7{L:Lk}{j:Nat}{d:TD}{q:TD×yL TV}(h:Sh.exD (.mp j) d=true)(k:Sh.mt L (.mp j) d=some q):q.1=d:=by
 unfold Sh.exD at h;split at h
 ·unfold Sh.mt at k;dsimp only at k;split at k
  ·rename_i e;subst e;cases k;rfl
  ·cases k
 ·cases h
theorem ZN8{L:Lk}{j:Nat}{d:TD}{q:TD×yL TV}(h:Sh.exD (.rw j) d=true)(k:Sh.mt L (.rw j) d=some q):q.1=d:=by
 unfold Sh.exD at h;split at h
 ·unfold Sh.mt at k;dsimp only at k;split at k
  ·rename_i e;subst e;cases k;rfl
  ·cases k
 ·cases h
mutual
theorem ZL1{L:Lk}:∀(s:Sh)(d:TD)(q:TD×yL TV),Sh.exD s d=true->Sh.mt L s d=some q->q.1=d
 |.v t,d,q,h,k=>ZPb h k
 |.own j t,d,q,h,k=>ZMS h k
 |.ref j p,d,q,h,k=>ZMT h k
 |.mp j,d,q,h,k=>ZN7 h k
 |.rw j,d,q,h,k=>ZN8 h k
 |.agg l,.agg ds,q,h,k=>by
  have k:(Sh.mts L l ds).map (λq=>(TD.agg q.1,q.2))=some q:=by unfold Sh.mt at k;exact k
  have h:Sh.exDs l ds=true:=by unfold Sh.exD at h;exact h
  obtain⟨w,k1,k2⟩:=Zd k;rw[<-k2]
  exact congrArg TD.agg (exs_mts l ds w h k1)
 |.arr n s l,.arr m s2 ds,q,h,k=>by
  have k:(if m=n/\s2=s then(Sh.mts L l ds).map (λq=>(TD.arr n s q.1,q.2)) else none)=some q:=by unfold Sh.mt at k;exact k
  have h:Sh.exDs l ds=true:=by unfold Sh.exD at h;exact h
  split at k
  ·rename_i e;obtain⟨w,k1,k2⟩:=Zd k;rw[<-k2,e.1,e.2];exact congrArg (TD.arr n s) (exs_mts l ds w h k1)
  ·cases k
 |.ptr0,d,q,h,k=>by
  unfold Sh.mt at k
  split at k <;> first|(cases k;rfl)|cases k
 |.fn0,d,q,h,k=>by
  unfold Sh.mt at k
  split at k <;> first|(cases k;rfl)|cases k
 |.if0,d,q,h,k=>by
  unfold Sh.mt at k
  split at k <;> first|(cases k;rfl)|cases k
 |.map0,d,q,h,k=>by
  unfold Sh.mt at k;split at k <;> first|(cases k;rfl)|cases k
theorem exs_mts{L:Lk}:∀(l:yL Sh)(ds:yL TD)(q:yL TD×yL TV),Sh.exDs l ds=true->Sh.mts L l ds=some q->q.1=ds
 |[],[],q,_,k=>by
  simp only[Sh.mts] at k;cases k
  rfl
 |[],_::_,_,h,_=>by cases h
 |_::_,[],_,h,_=>by cases h
 |s::r,d::ds,q,h,k=>by
  simp only[Sh.exDs,yi] at h;simp only[Sh.mts] at k;split at k
  ·rename_i a b k1 k2;cases k;rw[ZL1 s d a h.1 k1,exs_mts r ds b h.2 k2]
  ·cases k
end
def ESh.exE:ESh->TEnt->Bool
 |.var s st,.var d st'=>(st==st')&&s.exD d
 |.log t _,.log u _ _=>match Ty.dec u t with
  |isTrue _=>true
  |isFalse _=>false
 |.gone,.gone=>true
 |_,_=>false
theorem ZMU{L:Lk}{s:ESh}{d:TEnt}{q:TEnt×yL TV}(h:s.exE d=true)(k:s.mt L d=some q):q.1=d:=by
 unfold ESh.exE at h;split at h
 ·simp only[yi,yT] at h;obtain⟨rfl,h⟩:=h;simp only[ESh.mt] at k;split at k
  ·obtain⟨w,k1,rfl⟩:=Zd k;show TEnt.var w.1 _=_;rw[ZL1 _ _ w h k1]
  ·cases k
 ·split at h
  ·rename_i e _;subst e;simp only[ESh.mt] at k;split at k
   ·rename_i e;subst e;obtain⟨w,k1,rfl⟩:=Zd k;obtain⟨e1,e2⟩:=ZQ k1;cases e1;subst e2;rfl
   ·cases k
  ·cases h
 ·simp only[ESh.mt] at k;cases k;rfl
 ·cases h
def ESh.exs:yL ESh->yL TEnt->Bool
 |[],[]=>true
 |s::r,d::q=>s.exE d&&ESh.exs r q
 |_,_=>false
theorem ZBY{L:Lk}:∀{l:yL ESh}{ds:yL TEnt}{q:yL TEnt×yL TV},ESh.exs l ds=true->ESh.mts L l ds=some q->q.1=ds
 |[],[],q,_,k=>by
  simp only[ESh.mts] at k;cases k
  rfl
 |[],_::_,_,h,_=>by cases h
 |_::_,[],_,h,_=>by cases h
 |s::r,d::ds,q,h,k=>by
  simp only[ESh.exs,yi] at h;simp only[ESh.mts] at k;split at k
  ·rename_i a b k1 k2;cases k;rw[ZMU h.1 k1,ZBY h.2 k2]
  ·cases k
structure Rs(P:yg)where
 g:yv
 ps:List Sh
 es:List ESh
 ins:List Ty
 r:Sh
 t:List Ty
 M:Ty.dens ins->Option (Ty.dens t)
def Rs.Ok{P:yg}(s:Rs P):Prop:=
 ∀x o,s.M x=some o->∃args R H,Sh.fills s.ps (ofD s.ins x)=some (args,R)/\ESh.fills s.es R=some (H,[])/\
  ∀q,Sh.fill s.r (ofD s.t o)=some q->Con P s.g (TD.ers (lk H) args) (erH H) (q.1.er (lk H)) (erH H)
def AllRo{P:yg}:yL (Rs P)->Prop
 |[]=>True
 |s::r=>s.Ok/\AllRo r
mutual
theorem ZuC{f g:Nat->yO Nat}(hfg:∀i j,f i=some j->g j=some i):∀(d d':Dv),d.rn f=some d'->d'.rn g=some d
 |.p x,d',h=>by cases h;rfl
 |.elem x,d',h=>by cases h;rfl
 |.ref id o p,d',h=>by
  simp only[Dv.rn,yn] at h;obtain⟨i,h1,rfl⟩:=h
  simp only[Dv.rn,hfg _ _ h1,yaa]
 |.own id nn s xs,d',h=>by
  simp only[Dv.rn,yn] at h;obtain⟨i,h1,rfl⟩:=h
  simp only[Dv.rn,hfg _ _ h1,yaa]
 |.view id o p s lo n,d',h=>by
  simp only[Dv.rn,yn] at h;obtain⟨i,h1,rfl⟩:=h
  simp only[Dv.rn,hfg _ _ h1,yaa]
 |.agg xs,d',h=>by
  simp only[Dv.rn,yn] at h;obtain⟨i,h1,rfl⟩:=h
  simp only[Dv.rn,rns_back hfg _ _ h1,yaa]
 |.arr n s xs,d',h=>by
  simp only[Dv.rn,yn] at h;obtain⟨i,h1,rfl⟩:=h
  simp only[Dv.rn,rns_back hfg _ _ h1,yaa]
 |.fn k xs,d',h=>by
  simp only[Dv.rn,yn] at h;obtain⟨i,h1,rfl⟩:=h
  simp only[Dv.rn,rns_back hfg _ _ h1,yaa]
 |.iface t x,d',h=>by
  simp only[Dv.rn,yn] at h;obtain⟨i,h1,rfl⟩:=h
  simp only[Dv.rn,ZuC hfg _ _ h1,yaa]
 |.tup xs,d',h=>by
  simp only[Dv.rn,yn] at h;obtain⟨i,h1,rfl⟩:=h
  simp only[Dv.rn,rns_back hfg _ _ h1,yaa]
 |.mp id,d',h=>by
  simp only[Dv.rn,yn] at h;obtain⟨i,h1,rfl⟩:=h
  simp only[Dv.rn,hfg _ _ h1,yaa]
 |.rv id v s lo n,d',h=>by
  simp only[Dv.rn,yn] at h;obtain⟨i,h1,rfl⟩:=h
  simp only[Dv.rn,hfg _ _ h1,yaa]
 |.rref id v o p,d',h=>by
  simp only[Dv.rn,yn] at h;obtain⟨i,h1,rfl⟩:=h
  simp only[Dv.rn,hfg _ _ h1,yaa]
 |.junk,d',h=>by cases h;rfl
theorem rns_back{f g:Nat->yO Nat}(hfg:∀i j,f i=some j->g j=some i):∀(d d':yL Dv),Dv.rns f d=some d'->Dv.rns g d'=some d
 |[],d',h=>by cases h;rfl
 |x::r,d',h=>by
  simp only[Dv.rns] at h;split at h
  ·rename_i y ys h1 h2;cases h;simp only[Dv.rns,ZuC hfg x y h1,rns_back hfg r ys h2]
  ·cases h
end
theorem ZIC{f g:Nat->yO Nat}(hfg:∀i j,f i=some j->g j=some i){e e':Ent}(h:e.rn f=some e'):e'.rn g=some e:=by
 cases e with
 |var d st=>
  simp only[Ent.rn,yn] at h;obtain⟨y,h1,rfl⟩:=h
  simp only[Ent.rn,ZuC hfg _ _ h1,yaa]
 |row v s st t d=>
  simp only[Ent.rn,yn] at h;obtain⟨y,h1,rfl⟩:=h
  simp only[Ent.rn,ZuC hfg _ _ h1,yaa]
 |log _ _ _=>cases h;rfl
 |map _ _=>cases h;rfl
 |gone=>cases h;rfl
theorem ZID{H:yL Ent}{ids:yL Nat}{Hin:yL Ent}(ho:once ids=true)(h:subEnts H ids ids=some Hin):∃Hb,Ent.rns (fromIds ids H.length) Hin=some Hb/\putBack H ids Hb=H:=by
 have hfg:∀i j,toIds ids i=some j->fromIds ids H.length j=some i:=by
  intro i j e;have hj:=idxOf?_some e;unfold fromIds;rw[yW (yq.1 hj).1,hj]
 have key:∀(l:yL Nat)(A:yL Ent),subEnts H ids l=some A->∃B,Ent.rns (fromIds ids H.length) A=some B/\B.length=l.length/\∀(j id:Nat),l[j]? =some id->B[j]? =H[id]? /\id < H.length:=by
  intro l
  induction l with
  |nil=>
   intro A hA;simp only[subEnts,yp] at hA;subst hA
   exact⟨[],rfl,rfl,λj id hj=>by simp at hj⟩
  |cons x r ih=>
   intro A hA;simp only[subEnts] at hA;split at hA
   ·rename_i e es h1 h2;cases hA;obtain⟨B,b1,b2,b3⟩:=ih es h2;obtain⟨e0,g1,g2⟩:=yf.1 h1;refine⟨e0::B, ?_,by simp[b2],λj id hj=> ?_⟩
    ·simp only[Ent.rns,ZIC hfg g2,b1]
    ·cases j with
     |zero=>
      simp only[yau,yp] at hj;subst hj
      exact⟨by rw[yau,g1],(yq.1 g1).1⟩
     |succ j=>exact b3 j id (by simpa using hj)
   ·cases hA
 obtain⟨Hb,b1,b2,b3⟩:=key ids Hin h
 have hlt:∀i,i∈ids->i < H.length:=λi hi=>by
  obtain⟨j,hj⟩:=List.getElem?_of_mem hi;exact(b3 j i hj).2
 refine⟨Hb,b1, ?_⟩;have hle:ids.length<=Hb.length:=by omega
 apply ybs;intro i;have zY:(putBack H ids Hb).length=H.length:=by rw[Zc6 _ _ _ hle];omega
 by_cases hi:i < H.length
 ·by_cases hm:i∈ids
  ·obtain⟨j,hj⟩:=List.getElem?_of_mem hm;rw[ZhY H ids Hb j i ho hle hlt hj,(b3 j i hj).1]
  ·exact Zaz H ids Hb i hle hi hm
 ·rw[yap (by omega),yap (by omega)]
structure Sp(P:yg)where
 l:List (Fs P):=[]
 hd:(O:Type)->yv->List TD->List TEnt->(TD->List TEnt->Option O)->Option O:=λ_ _ _ _ _=>none
 mt:List (yc×String×yv):=[]
 ro:List (Rs P):=[]
def HdOk(P:yg)(hd:(O:Type)->yv->yL TD->yL TEnt->(TD->yL TEnt->yO O)->yO O):Prop:=
 ∀(O:Type)(g:yv)(args:yL TD)(H:yL TEnt)(K:TD->yL TEnt->yO O)(out:O),hd O g args H K=some out->
  ∃r H',K r H'=some out/\Con P g (TD.ers (lk H) args) (erH H) (r.er (lk H')) (erH H')
def MtOk(P:yg):yL (yc×String×yv)->Prop
 |[]=>True
 |q::r=>ZO9 P q.1 q.2.1 q.2.2/\MtOk P r
structure SpOk(s:Sp P):Prop where
 l:AllOk s.l
 hd:HdOk P s.hd
 mt:MtOk P s.mt
 ro:AllRo s.ro
theorem ZFk:HdOk P (λ_ _ _ _ _=>none):=λ_ _ _ _ _ _ h=>by cases h
theorem okS{l:yL (Fs P)}(h:AllOk l):SpOk ({ l:=l}:Sp P):=⟨h,ZFk,zT,ytt⟩
theorem okR{l:yL (Fs P)}{mt:yL (yc×String×yv)}{ro:yL (Rs P)}(h:AllOk l)(k:MtOk P mt)(r:AllRo ro):SpOk ({ l:=l,mt:=mt,ro:=ro}:Sp P):=⟨h,ZFk,k,r⟩
mutual
def TD.look:TD->yL Nat
 |.ref id _=>[id]
 |.own id _ _ _=>[id]
 |.view id _ _ _ _=>[id]
 |.mp id=>[id]
 |.rv id _ _ _ _=>[id]
 |.rref id _ _=>[id]
 |.rw id=>[id]
 |.rp id _=>[id]
 |.agg xs=>TD.looks xs
 |.arr _ _ xs=>TD.looks xs
 |.fn _ xs=>TD.looks xs
 |.iface _ x=>TD.look x
 |.tup xs=>TD.looks xs
 |_=>[]
def TD.looks:yL TD->yL Nat
 |[]=>[]
 |x::r=>TD.look x++TD.looks r
end
def TEnt.look:TEnt->yL Nat
 |.var d _=>d.look
 |.row _ _ _ _ d=>d.look
 |.rowM _ _ _ _ _ _ d _=>d.look
 |_=>[]
def Ztt(h:yL TEnt):Nat->yL Nat->yL Nat->yL Nat
 |0,_,got=>got
 |_+1,[],got=>got
 |k+1,id::r,got=>if got.contains id then Ztt h k r got else Ztt h k (((h[id]?).map TEnt.look).getD []++r) (id::got)
def inT(sp:Sp P)(g:yv)(all:yL TD)(H:yL TEnt)(K:Kn O)(args:yL TD):yO O:=
 let ids:=Ztt H 100000 (TD.looks args) []
 if once ids then(TD.rns (toIds ids) (args.map (TD.argI (lk H) ids))).bind λa2=>(VA H ids ids).bind λHin=>
  sp.hd O g a2 Hin λr Hn=>ZKZ all H K ids r Hn
 else none
def ZFl(g:yv)(all:yL TD)(H:yL TEnt)(K:Kn O)(args:yL TD)(zO:yO O):yL (Rs P)->yO O
 |[]=>zO
 |s::yQ=>if s.g=g then(ZL0 H s.ps s.es args).bind λids=>(VA H ids ids).bind λHin=>if(once ids&& !ids.isEmpty&&ESh.exs s.es Hin)=true then
   (TD.rns (toIds ids) (args.map (TD.argI (lk H) ids))).bind λa2=>(Sh.mts (lk Hin) s.ps a2).bind λq=>(ESh.mts (lk Hin) s.es Hin).bind λw=>(toD s.ins (q.2++w.2)).bind λx=>
     (s.M x).bind λy=>(Sh.fill s.r (ofD s.t y)).bind λq=>(q.1.rn λ_=>none).bind λr'=>K all r' H [.call (q.1.er (lk Hin)) (erH Hin) ids] 3
   else none
  else ZFl g all H K args zO yQ
def ZL2(sp:Sp P)(g:yv)(all:yL TD)(H:yL TEnt)(K:Kn O)(args:yL TD):yO O:=ZFl g all H K args (ZBX g all H K args (inT sp g all H K args) sp.l) sp.ro
structure CallOk(P:yg)(g:yv)(all args:List TD)(H:List TEnt)(a':List TD)(d:TD)(H':List TEnt)(hs:List Hint)(cls:Nat):Prop where
 same:TD.ers (lk H') a'=TD.ers (lk H) all
 len:a'.length=all.length
 op:∃(ids:List Nat)(Hin Hn Hb:List Ent)(az:List Dv)(r:Dv),once ids=true/\ids.length<=Hn.length/\subEnts (erH H) ids ids=some Hin/\
  Dv.rns (toIds ids) (TD.ers (lk H) (args.map (TD.argI (lk H) ids)))=some az/\Con P g az Hin r Hn/\r.rn (fromIds ids H.length)=some (d.er (lk H'))/\Ent.rns (fromIds ids H.length) Hn=some Hb/\
  erH H'=putBack (erH H) ids Hb/\hs=[.call r Hn ids]/\(cls=2/\¬(ids=[]/\Hn=[])\/(cls=3/\erH H'=erH H/\¬(ids=[]/\Hn=[]))\/cls=0/\ids=[]/\Hn=[]/\H'=H/\a'=all/\r=d.er (lk H')/\r.rn (λ_=>none)=some r)
theorem Zyb{g:yv}{args:yL TD}{ids:yL Nat}{Hin:yL TEnt}{az:yL Dv}{r4:TD}{Hn:yL TEnt}(honce:once ids=true)(p1:VA H ids ids=some Hin)(p2:subEnts (erH H) ids ids=some (erH Hin))
 (p3:Dv.rns (toIds ids) (TD.ers (lk H) (args.map (TD.argI (lk H) ids)))=some az) (hcon':Con P g az (erH Hin) (r4.er (lk Hn)) (erH Hn)) (h9:ZKZ all H K ids r4 Hn=some out):
 ∃a d H' hs c,K a d H' hs c=some out/\CallOk P g all args H a d H' hs c:=by
 unfold ZKZ at h9;split at h9
 ·rename_i hem;rw[yi] at hem;have i1:ids=[]:=by simpa using hem.1
  have i2:Hn=[]:=by simpa using hem.2
  subst i1;subst i2;obtain⟨r',hr',h9⟩:=yf.1 h9;have f1:=Zh6 (L:=lk []) (M:=lk H) (λid j t e=>by cases e) _ _ hr';have f2:=Zcx (f:=λ_=>none) _ _ f1;have f3:r4.er (lk [])=r'.er (lk H):=ybk (f2.symm.trans f1);have hin0:Hin=[]:=by cases p1;rfl
  subst hin0;refine⟨_,_,_,_,_,h9,rfl,rfl,[],[],[],[],az,r4.er (lk []),rfl,yj _,rfl,p3,hcon', ?_,rfl, ?_,rfl,.inr (.inr ⟨rfl,rfl,rfl,rfl,rfl,f3,f2⟩)⟩
  ·rw[<-f3];exact Zcx _ _ f1
  ·rw[Zti]
 rename_i hne;obtain⟨r',hr',h9⟩:=yf.1 h9;obtain⟨Hb,hHb,h9⟩:=yf.1 h9;obtain⟨hk,h9⟩:=Za h9;simp only[yi,yP] at hk;obtain⟨⟨k1,k2⟩,k3⟩:=hk;obtain⟨b1,b2⟩:=ZBU hHb;obtain⟨s1,s2⟩:=Zhc p1
 have hlt:∀i,i∈ids->i < H.length:=λi hi=>by
  obtain⟨j,hj⟩:=List.getElem?_of_mem hi;exact(s2 j i hj).1
 have hlo:Lo ids H.length (lk H) (lk (putBack (H.map (TEnt.lay (lk H) ids)) ids Hb)):=by
  intro id t hn hl;unfold Yy lk;dsimp only
  rw[Zaz _ _ _ id (by rw[b1];exact k1) (by rw[yac];exact hl) (λhm=>by
   rw[List.contains_eq_any_beq] at hn;simp at hn;exact hn id hm rfl),yan,ZKX]
 have hrc:Rc (fromIds ids H.length) (lk Hn) (lk (putBack (H.map (TEnt.lay (lk H) ids)) ids Hb)):=by
  intro j i t e
  have key:lk (putBack (H.map (TEnt.lay (lk H) ids)) ids Hb) i=lk Hn j:=by
   show lkE ((putBack (H.map (TEnt.lay (lk H) ids)) ids Hb)[i]?)=lkE (Hn[j]?);rw[<-b2 j];unfold fromIds at e;split at e
   ·rw[ZhY _ _ _ j i honce (by rw[b1];exact k1) (λi hi=>by rw[yac];exact hlt i hi) e]
   ·rename_i hj;cases e;have:=Zjl (H.map (TEnt.lay (lk H) ids)) ids Hb j (by rw[b1];exact k1) (by omega);rw[yac] at this;rw[this]
  unfold Yy;rw[key]
 have e2:(putBack (H.map (TEnt.lay (lk H) ids)) ids Hb).map (TEnt.er (lk (putBack (H.map (TEnt.lay (lk H) ids)) ids Hb)))=putBack (erH H) ids (Hb.map (TEnt.er (lk (putBack (H.map (TEnt.lay (lk H) ids)) ids Hb)))):=by
  rw[Zts,ybi];congr 1;refine yct λe he=> ?_;exact ZKW hlo (ybj.1 k3 e he)
 have f1:=Zh6 hrc _ _ hr';have f2:=ZFh hrc _ _ hHb;refine⟨_,_,_,_,_,h9,ers_lay hlo all k2,ZBV all,ids,erH Hin,erH Hn,_,az,r4.er (lk Hn),honce,by rw[Yb];exact k1,p2,p3,hcon',f1,f2,e2,rfl,.inl ⟨rfl,λhh=>hne ?_⟩⟩;have i2:Hn=[]:=by have:=hh.2;unfold erH at this;simpa using this
 rw[i2,hh.1];rfl
theorem Zxh{args:yL TD}{s:Fs P}{ids:yL Nat}{x:Ty.dens s.ins}(ok:s.Ok)(hp:ZzT s H args ids=some x)(h:ZvM s all H K args ids x=some out):
 ∃a d H' hs c,K a d H' hs c=some out/\CallOk P s.g all args H a d H' hs c:=by
 unfold ZvM at h;obtain⟨y,hM,h0⟩:=yf.1 h;obtain⟨e,vs,s',hsel,hfs,h9⟩:=ZuB h0;clear h0 h;obtain⟨honce,Hin,a2,a3,H3,R,p1,p2,p3,p4,p5,p6,p7⟩:=ZKY hp;obtain⟨args,R1,H4,q1,q2,hcon⟩:=ok x y hM;obtain⟨r4,hr4,hcon⟩:=hcon e vs s' hsel hfs;rw[hr4] at h9;dsimp only at h9;rw[p4] at q1;cases q1;rw[p5] at q2;cases q2;generalize s'.2=Hn at h9 hcon;exact Zyb honce p1 p2 p3 (ZEW hcon p6 p7) h9
theorem Zqp{g:yv}{args:yL TD}{zO:yO O}(ho:zO=some out->∃a d H' hs c,K a d H' hs c=some out/\CallOk P g all args H a d H' hs c):∀{l:yL (Fs P)},AllOk l->ZBX g all H K args zO l=some out->
 ∃a d H' hs c,K a d H' hs c=some out/\CallOk P g all args H a d H' hs c
 |[],_,h=>ho h
 |s::r,ok,h=>by
  unfold ZBX at h;split at h
  ·rename_i hg;split at h
   ·rename_i q hq;obtain⟨ids,h1,hq⟩:=yf.1 hq;obtain⟨x,h2,rfl⟩:=Zd hq;exact hg ▸ Zxh ok.1 h2 h
   ·exact Zqp ho ok.2 h
  ·exact Zqp ho ok.2 h
theorem ZIE{sp:Sp P}{g:yv}{args:yL TD}(ok:SpOk sp)(h:inT sp g all H K args=some out):∃a d H' hs c,K a d H' hs c=some out/\CallOk P g all args H a d H' hs c:=by
 unfold inT at h;dsimp only at h;generalize Ztt H 100000 (TD.looks args) []=ids at h;obtain⟨ho,h⟩:=Za h;obtain⟨a2,h1,h⟩:=yf.1 h;obtain⟨Hin,h2,h⟩:=yf.1 h;obtain⟨r,Hn,h3,h4⟩:=ok.hd _ _ _ _ _ _ h;exact Zyb ho h2 (Vq (Zca h2) h2) (rns_er (Zca h2) _ _ h1) h4 h3
theorem ZvN{g:yv}{args:yL TD}{zO:yO O}(ho:zO=some out->∃a d H' hs c,K a d H' hs c=some out/\CallOk P g all args H a d H' hs c):∀{l:yL (Rs P)},AllRo l->ZFl g all H K args zO l=some out->
 ∃a d H' hs c,K a d H' hs c=some out/\CallOk P g all args H a d H' hs c
 |[],_,h=>ho h
 |s::r,ok,h=>by
  unfold ZFl at h;split at h
  ·rename_i hg;obtain⟨ids,_,h⟩:=yf.1 h;obtain⟨Hin,h2,h⟩:=yf.1 h;obtain⟨hk,h⟩:=Za h;simp only[yi,Bool.not_eq_true',List.isEmpty_eq_false_iff] at hk;obtain⟨⟨k1,k2⟩,k3⟩:=hk;obtain⟨a2,h3,h⟩:=yf.1 h;obtain⟨q,h4,h⟩:=yf.1 h;obtain⟨⟨w1,w2⟩,h5,h⟩:=yf.1 h;obtain⟨x,h6,h⟩:=yf.1 h;obtain⟨y,h7,h⟩:=yf.1 h;obtain⟨z,h8,h⟩:=yf.1 h;obtain⟨r',h9,h⟩:=yf.1 h;have hw:w1=Hin:=ZBY k3 h5;subst hw;obtain⟨az,R,H3,q1,q2,hcon⟩:=ok.1 x y h7;have e:=Ze9 _ _ _ h6;rw[e,mts_fills _ _ _ h4 _] at q1;cases q1;have q3:=ZcA h5 [];rw[ybd] at q3;rw[q3] at q2;cases q2;have hcon:=hcon z h8;have p2:=Vq (Zca h2) h2;have p3:=rns_er (Zca h2) _ _ h3;have hcon:=ZEW hcon (mts_wk (λ_ _=>rfl) _ _ _ h4) (WkH.refl _);have f1:=Zh6 (f:=λ_=>none) (L:=lk w1) (M:=lk H) (λid j t e=>by cases e) _ _ h9;have f2:=Zcx (f:=λ_=>none) _ _ f1;have f3:z.1.er (lk w1)=r'.er (lk H):=ybk (f2.symm.trans f1);obtain⟨Hb,b1,b2⟩:=ZID k1 p2;have zY:=(Zhc h2).1;refine⟨_,_,_,_,_,h,rfl,rfl,ids,erH w1,erH w1,Hb,TD.ers (lk w1) a2,z.1.er (lk w1),k1,by rw[Yb];omega,p2,p3,hg ▸ hcon, ?_,by rw[<-Yb H];exact b1,b2.symm,rfl,.inr (.inl ⟨rfl,rfl,λhh=>k2 hh.1⟩)⟩;rw[<-f3];exact Zcx _ _ f1
  ·exact ZvN ho ok.2 h
theorem ZIF{sp:Sp P}{g:yv}{args:yL TD}(ok:SpOk sp)(h:ZL2 sp g all H K args=some out):∃a d H' hs c,K a d H' hs c=some out/\CallOk P g all args H a d H' hs c:=
 ZvN (λh=>Zqp (λh=>ZIE ok h) ok.l h) ok.ro h
theorem ZGR{c:Call}{f:yo}{g:yv}{cap az:yL TD}{a:yL TD}{d:TD}{H':yL TEnt}{hs:yL Hint}{cls:Nat}(ho:o.op=.call c)(hc:c.callee=.value f)(hf:arT P ts 0 f=some (.fn g cap))
 (hb:(Zp6 P (ZmM g)&&c.args.size==c.argTypes.size)=true) (ha:ZBW P ts c.args.toList c.argTypes.toList=some az) (h:CallOk P (ZmM g) all (if g < big then az++cap else cap++az) H a d H' hs cls):Good P o ts all H a d H' hs cls:=by
 have hfv:=ZM (L:=lk H) hf;obtain⟨ids,Hin,Hn,Hb,az',r,honce,hle,p2,p3,hcon,f1,f2,e2,rfl,hcl⟩:=h.op
 have ea:ZhP P ids (TD.ers (lk H) ts) c g (TD.ers (lk H) cap)=TD.ers (lk H) ((if g < big then az++cap else cap++az).map (TD.argI (lk H) ids)):=by
  unfold ZhP;split
  ·rw[ZvL ids ha,ZFj,ybb,ZW,ZW,ZW,ybb]
  ·rw[ZvL ids ha,ZFj,ybb,ZW,ZW,ZW,ybb]
 have ge:¬(ids=[]/\Hn=[])->GoodE P o ts H d H' [.call r Hn ids]:=λhne=>by
  refine⟨λyQ=> ?_,λyQ=> ?_,[Con P (ZmM g) az' Hin r Hn],⟨hcon,ytt⟩,λyQ=> ?_⟩
  ·unfold evN;rw[ho];dsimp only;rw[hc];dsimp only;rw[hfv];dsimp only[TD.er];rw[yae,yw];split
   ·rename_i e1 e2;exfalso;simp only[List.cons.injEq,Hint.call.injEq] at e2;exact hne ⟨e2.1.2.2,e2.1.2.1⟩
   ·rfl
  ·unfold evR;rw[ho];dsimp only;rw[hc]
  ·unfold evE;rw[ho];dsimp only;rw[hc];dsimp only;rw[hfv];dsimp only[TD.er];rw[yae,yw];dsimp only;rw[yW (by simp only[yi,yP] at hb ⊢;exact⟨⟨hb,honce⟩,hle⟩)];rw[ea,p3,p2,Yb,f1,f2];dsimp only;rw[e2]
 rcases hcl with⟨rfl,hne⟩|⟨rfl,hsm,hne⟩|⟨rfl,rfl,rfl,rfl,rfl,rfl,hrn⟩
 ·exact⟨h.same,h.len,or3 ⟨rfl,ge hne⟩⟩
 ·exact⟨h.same,h.len,.inr (.inr (.inr ⟨rfl,hsm,ge hne⟩))⟩
 ·refine⟨h.same,h.len,.inl ⟨rfl,rfl,[Con P (ZmM g) az' [] (d.er (lk H')) []],⟨?_,ytt⟩,λyQ=> ?_⟩⟩
  ·cases p2;exact hcon
  ·unfold evN;rw[ho];dsimp only;rw[hc];dsimp only;rw[hfv];dsimp only[TD.er];rw[yae,yw];dsimp only;rw[yW hb,ea, <-Zqc,p3,Zqc,hrn]
end
end Go.Ev
end
section
namespace Go.Ev
section
variable{P:yg}{o:Oper}{ts all:yL TD}{H:yL TEnt}{O:Type}{K:Kn O}{out:O}
def TD.isView:TD->Bool
 |.view _ _ _ _ _=>true
 |_=>false
def TD.isNilSl:TD->Bool
 |.p (.sl (some false) _ [])=>true
 |_=>false
def TD.isRef:TD->Bool
 |.ref _ _=>true
 |_=>false
def TD.isRref:TD->Bool
 |.rref _ _ _=>true
 |_=>false
def TD.isRv:TD->Bool
 |.rv _ _ _ _ _=>true
 |_=>false
def ZK0(a:TD)(lo hi:yO Int):Bool:=
 match a with
 |.rv _ _ _ _ n=> !ZaE n lo hi
 |_=>false
def TD.isOwn:TD->Bool
 |.own _ _ _ _=>true
 |_=>false
def TD.isMp:TD->Bool
 |.mp _=>true
 |_=>false
def ZvO(l:yL Tmp):yO Tmp->Bool
 |some t=>l.contains t
 |none=>false
def Znp(P:yg)(o:Oper)(ts all:yL TD)(H:yL TEnt)(K:Kn O):yO O:=opN (lk H) P o ts λd hs=>K all d H hs 0
theorem Qs(h:Znp P o ts all H K=some out):∃a d H' hs c,K a d H' hs c=some out/\Good P o ts all H a d H' hs c:=by
 obtain⟨d,hs,h1,h2⟩:=ZIm h;exact⟨_,_,_,_,_,h1,rfl,rfl,.inl ⟨rfl,rfl,h2⟩⟩
def ZFm(P:yg)(hi:HI)(o:Oper)(x:yo)(asg:Bool)(ts all:yL TD)(H:yL TEnt)(K:Kn O):yO O:=
 match o.dst,arT P ts o.type x with
 |some t,some d=>if hi.still.contains t&&(d.isView || d.isRv) then ZzI t all H K d else if hi.still.contains t&&d.isRw then ZzN t all H K d else if asg&&(hi.rowt.contains t&&d.isNilSl) then ZzQ P o.type t all H K d else if asg&&(hi.own.contains t&&d.isNilSl) then ZDK P o.type t all H K d else Znp P o ts all H K
 |_,_=>Znp P o ts all H K
def TD.numI(d:TD):yO Num:=
 match d.num with
 |some a=>if a.k=.i64 then some a else none
 |none=>none
def opT(P:yg)(hi:HI)(specs:Sp P)(o:Oper)(ts all:yL TD)(H:yL TEnt)(K:Kn O):yO O:=
 match o.op with
 |.move x=>ZFm P hi o x false ts all H K
 |.assign x=>ZFm P hi o x true ts all H K
 |.slice t x lo h none=>if ZvO hi.frz o.dst then(arT P ts t x).bind λa=>(ZkC P ts lo).bind λl=>(ZkC P ts h).bind λr=>ZML P t l r all H K a
  else(arT P ts t x).bind λa=>(ZkC P ts lo).bind λl=>(ZkC P ts h).bind λr=>if ZK0 a l r=true then ZDH P t l r all H K a else Znp P o ts all H K
 |.load t x=>(arT P ts 0 x).bind λd=>if d.isRef || d.isRref then ZIp P t all H K d else if d.isRp then ZDR P t all H K d else Znp P o ts all H K
 |.lookup t x ix ok=>(arT P ts t x).bind λd=>Zzx P t all H ok K (λkt=>arT P ts kt ix) d
 |.makeMap t none=>ZvF P t all H K
 |.makeSlice t l c=>((arT P ts 0 l).bind TD.numI).bind λn=>((arT P ts 0 c).bind TD.numI).bind λn'=>Zqm P t (ZvO hi.own o.dst) (ZvO hi.row o.dst) n.n n'.n all H K
 |.mapUpdate t x k v=>(arT P ts t x).bind λd=>ZzB P t all H K (λkt=>arT P ts kt k) (λet=>arT P ts et v) d
 |.alloc t=>ZDL P hi o.dst t all H K
 |.box t x=>(arT P ts t x).bind (ZMK hi o.dst all H K)
 |.store t x y=>(arT P ts 0 x).bind λa=>(arT P ts t y).bind λv=>if a.isRp then ZzL P t all H K v a else ZDM P (ZN5 hi x) t all H K v a
 |.buildSlice t len parts=>if ZvO hi.rowt o.dst then(match (o.dst.bind λd=>hi.rew.lookup d).bind λs=>all[s]? with
  |some (.rw id)=>ZDT P ts t len parts.toList id all H K
  |_=>ZIw P ts t len parts.toList all H K) else if ZvO hi.own o.dst then ZzE P ts t len parts.toList all H K else Znp P o ts all H K
 |.indexAddr t x ix=>(arT P ts t x).bind λa=>if a.isRw then(arT P ts 0 ix).bind λb=>b.inner.bind λip=>(Zzk ip).bind λq=>ZzJ P t q.2 all H K a else Znp P o ts all H K
 |.call c=>match c.callee with
  |.builtin .len=>match c.args.toList,c.argTypes.toList with
   |[x],[t]=>(arT P ts t x).bind λd=>if d.isMp then Zzz P t all H K d else if d.isRw then ZIv P t all H K d else Znp P o ts all H K
   |_,_=>none
  |.builtin .append=>match c.args.toList,c.argTypes.toList with
   |[x,y],[t,u]=>(arT P ts t x).bind λa=>(arT P ts u y).bind λb=>if a.isRw || (a.isNilSl&&ZvO hi.rowt o.dst) then ZvI P true t u all H K b a else if a.isOwn || a.isRv || (a.isNilSl&&(ZvO hi.own o.dst || ZvO hi.row o.dst)) then ZzG P (ZvO hi.own o.dst) (ZvO hi.row o.dst) t u all H K b (if hi.eqs=true then ZDO H a else a) else Znp P o ts all H K
   |_,_=>none
  |.value f=>match arT P ts 0 f with
   |some (.fn g cap)=>if(Zp6 P (ZmM g)&&c.args.size==c.argTypes.size)=true then(ZBW P ts c.args.toList c.argTypes.toList).bind λaz=>ZL2 specs (ZmM g) all H K (if g < big then az++cap else cap++az) else Znp P o ts all H K
   |_=>none
  |_=>none
 |_=>Znp P o ts all H K
theorem ZoL{d:TD}{n:Num}(h:d.numI=some n):d.num=some n/\n.k=.i64:=by
 unfold TD.numI at h;split at h
 ·rename_i a hn;split at h
  ·rename_i e;cases h;exact⟨hn,e⟩
  ·cases h
 ·cases h
theorem ZvP{hi:HI}{x:yo}{asg:Bool}(ho:if asg=true then o.op=.assign x else o.op=.move x)(h:ZFm P hi o x asg ts all H K=some out):∃a d H' hs c,K a d H' hs c=some out/\Good P o ts all H a d H' hs c:=by
 unfold ZFm at h;split at h
 ·rename_i t d hd hx;split at h
  ·refine ZBP (x:=x) ?_ hd hx h;cases asg
   ·exact .inr ho
   ·exact .inl ho
  split at h
  ·refine ZzO (x:=x) ?_ hd hx h;cases asg
   ·exact .inr ho
   ·exact .inl ho
  split at h
  ·rename_i ha;rw[yi] at ha;rw[yW ha.1] at ho;exact ZzR ho hd hx h
  ·split at h
   ·rename_i ha;rw[yi] at ha;rw[yW ha.1] at ho;exact ZBJ ho hd hx h
   ·exact Qs h
 ·exact Qs h
theorem ZvQ{hi:HI}{specs:Sp P}(ok:SpOk specs)(h:opT P hi specs o ts all H K=some out):∃a d H' hs c,K a d H' hs c=some out/\Good P o ts all H a d H' hs c:=by
 unfold opT at h;split at h
 ·rename_i x ho;exact ZvP (asg:=false) ho h
 ·rename_i x ho;exact ZvP (asg:=true) ho h
 ·rename_i t x lo hi' ho;split at h
  ·obtain⟨a,h1,h⟩:=yf.1 h;obtain⟨l,h2,h⟩:=yf.1 h;obtain⟨r,h3,h⟩:=yf.1 h;exact ZGQ ho h1 h2 h3 h
  ·obtain⟨a,h1,h⟩:=yf.1 h;obtain⟨l,h2,h⟩:=yf.1 h;obtain⟨r,h3,h⟩:=yf.1 h;split at h
   ·exact ZBE ho h1 h2 h3 h
   ·exact Qs h
 ·rename_i t x ho;obtain⟨d,h1,h⟩:=yf.1 h;split at h
  ·exact ZDG ho h1 h
  split at h
  ·exact ZBQ ho h1 h
  ·exact Qs h
 ·rename_i t x ix okk ho;obtain⟨d,h1,h⟩:=yf.1 h;exact Zzy ho h1 h
 ·rename_i t ho;exact Zxf ho h
 ·rename_i t l c ho;obtain⟨n,h1,h⟩:=yf.1 h;obtain⟨n',h2,h⟩:=yf.1 h;obtain⟨d1,g1,g2⟩:=yf.1 h1;obtain⟨d2,g3,g4⟩:=yf.1 h2;exact Zt8 ho (by rw[g1];exact(ZoL g2).1) (by rw[g3];exact(ZoL g4).1) (ZoL g2).2 (ZoL g4).2 h
 ·rename_i t x k v ho;obtain⟨d,h1,h⟩:=yf.1 h;exact ZzC ho h1 h
 ·rename_i t ho;exact ZBL ho h
 ·rename_i t x ho;obtain⟨d,h1,h⟩:=yf.1 h;exact ZGO ho h1 h
 ·rename_i t x y ho;obtain⟨a,h1,h⟩:=yf.1 h;obtain⟨v,h2,h⟩:=yf.1 h;split at h
  ·exact ZzM ho h1 h2 h
  ·exact ZBM ho h1 h2 h
 ·rename_i t len parts ho;split at h
  ·split at h
   ·exact ZBS ho h
   ·exact ZDS ho h
  split at h
  ·exact ZzF ho h
  ·exact Qs h
 ·rename_i t x ix ho;obtain⟨a,h1,h⟩:=yf.1 h;split at h
  ·obtain⟨b,h2,h⟩:=yf.1 h;obtain⟨ip,h3,h⟩:=yf.1 h;obtain⟨q,h4,h⟩:=yf.1 h;rw[W4 h3] at h2;exact ZzK ho h1 h2 h4 h
  ·exact Qs h
 ·rename_i c ho;split at h
  ·rename_i hc;split at h
   ·rename_i x t ha ht;obtain⟨d,h1,h⟩:=yf.1 h;split at h
    ·exact ZzA ho hc ha ht h1 h
    split at h
    ·exact ZDQ ho hc ha ht h1 h
    ·exact Qs h
   ·cases h
  ·rename_i hc;split at h
   ·rename_i x y t u ha ht;obtain⟨a,h1,h⟩:=yf.1 h;obtain⟨b,h2,h⟩:=yf.1 h;split at h
    ·exact Zxg ho hc ha ht (ZM h1) h2 h
    split at h
    ·refine ZzH ho hc ha ht ?_ h2 h;split
     ·rw[ZGP];exact ZM h1
     ·exact ZM h1
    ·exact Qs h
   ·cases h
  ·rename_i f hc;split at h
   ·rename_i g cap hf;split at h
    ·rename_i hb;obtain⟨az,h1,h⟩:=yf.1 h;obtain⟨a,d,H',hs,cc,k1,k2⟩:=ZIF ok h;exact⟨a,d,H',hs,cc,k1,ZGR ho hc hf hb h1 k2⟩
    ·exact Qs h
   ·cases h
  ·cases h
 ·exact Qs h
def ZDV(ops:Array Oper)(j:Nat):yO Tmp:=(ops[j]?).bind (·.dst)
def Zxi(b:Bool):TD:=.p (.v .bool b)
def ZIG:TD->Bool
 |.tup []=>true
 |_=>false
def gT(P:yg)(hi:HI)(specs:Sp P)(ops:Array Oper)(o:Oper)(ts all:yL TD)(H:yL TEnt)(K:Kn O):yO O:=
 match o.guard with
 |none=>opT P hi specs o ts all H K
 |some (j,want)=>(ZDV ops j).bind λt=>match (ts.getD t .junk).boolT with
  |some b=>
   if b=true then
    if true=want then opT P hi specs o (ts.set t (Zxi true)) (all.set t (Zxi true)) H λa d H' hs c=>K a d H' (.b true::hs) c
    else K (all.set t (Zxi true)) (.tup []) H [.b true] 0
   else
    if false=want then opT P hi specs o (ts.set t (Zxi false)) (all.set t (Zxi false)) H λa d H' hs c=>K a d H' (.b false::hs) c
    else K (all.set t (Zxi false)) (.tup []) H [.b false] 0
  |none=>if ZIG (ts.getD t .junk) then K all (.tup []) H [.raw] 0 else none
structure GoodG(P:yg)(ops:Array Oper)(o:Oper)(ts all:List TD)(H:List TEnt)(all':List TD)(d:TD)(H':List TEnt)(hs:List Hint)(cls:Nat):Prop where
 same:TD.ers (lk H') all'=TD.ers (lk H) all
 len:all'.length=all.length
 op:∃C,AllP C/\∀yQ,evG P ops o (TD.ers (lk H) ts) (erH H) (hs++yQ)=some (C,d.er (lk H'),erH H',yQ)
 sam:cls=3->erH H'=erH H
 cls:∀yQ,clsOf P o (TD.ers (lk H) ts) (erH H) (hs++yQ)<=cls
theorem ZzU{d:TD}{a:yL TD}{H':yL TEnt}{hs:yL Hint}{c:Nat}(h:Good P o ts all H a d H' hs c):∃C,AllP C/\(∀yQ,Zkx P o (TD.ers (lk H) ts) (erH H) (hs++yQ)=some (C,d.er (lk H'),erH H',yQ))/\
 ∀yQ,(if(evN P o (TD.ers (lk H) ts) (hs++yQ)).isSome then 0 else if(evR P o (TD.ers (lk H) ts) (erH H) (hs++yQ)).isSome then 1 else 2)<=c:=by
 rcases h.op with⟨rfl,rfl,C,h1,h2⟩|⟨rfl,rfl,h0,C,h1,h2⟩|⟨rfl,h0,h00,C,h1,h2⟩|⟨rfl,_,h0,h00,C,h1,h2⟩
 ·exact⟨C,h1,λyQ=>by unfold Zkx;rw[h2 yQ],λyQ=>by rw[h2 yQ];simp⟩
 ·exact⟨C,h1,λyQ=>by unfold Zkx;rw[h0 yQ];dsimp only;rw[h2 yQ],λyQ=>by rw[h0 yQ,h2 yQ];simp⟩
 ·exact⟨C,h1,λyQ=>by unfold Zkx;rw[h0 yQ];dsimp only;rw[h00 yQ];exact h2 yQ,λyQ=>by rw[h0 yQ,h00 yQ];simp⟩
 ·exact⟨C,h1,λyQ=>by unfold Zkx;rw[h0 yQ];dsimp only;rw[h00 yQ];exact h2 yQ,λyQ=>by rw[h0 yQ,h00 yQ];simp⟩
theorem ZvR{d:TD}{a:yL TD}{H':yL TEnt}{hs:yL Hint}{c:Nat}(h:Good P o ts all H a d H' hs c)(hc:c=3):erH H'=erH H:=by
 subst hc;rcases h.op with⟨e,_⟩|⟨e,_⟩|⟨e,_⟩|⟨_,e,_⟩
 ·cases e
 ·cases e
 ·cases e
 ·exact e
theorem ZBZ{l:yL TD}{t:Nat}{b:Bool}(h:(l.getD t .junk).boolT=some b):l.getD t .junk=Zxi b:=by
 unfold TD.boolT at h;split at h
 ·rename_i x hx;unfold TP.boolB at h;split at h
  ·cases h;exact hx
  ·cases h
 ·cases h
theorem set_same{l:yL TD}{t:Nat}{d:TD}(h:l.getD t .junk=d):(l.set t d)=l:=by
 apply ybs;intro i;rw[ybw];split
 ·rename_i e;subst e;split
  ·rename_i hl;rw[<-h,yda,yab hl];rfl
  ·rename_i hl;rw[yap (by omega)]
 ·rfl
theorem ZFn{hi:HI}{specs:Sp P}{ops:Array Oper}(ok:SpOk specs)(hg:∀j want t,o.guard=some (j,want)->ZDV ops j=some t->ts.getD t .junk=all.getD t .junk)(h:gT P hi specs ops o ts all H K=some out):
 ∃a d H' hs c,K a d H' hs c=some out/\GoodG P ops o ts all H a d H' hs c:=by
 unfold gT at h;split at h
 ·rename_i hgd;obtain⟨a,d,H',hs,c,h1,h2⟩:=ZvQ ok h;obtain⟨C,g1,g2,g3⟩:=ZzU h2;refine⟨a,d,H',hs,c,h1,h2.same,h2.len,⟨C++[],Zp.2 ⟨g1,ytt⟩,λyQ=> ?_⟩,ZvR h2,λyQ=> ?_⟩
  ·unfold evG;rw[hgd];dsimp only;rw[g2 yQ];rfl
  ·unfold clsOf;rw[hgd];exact g3 yQ
 ·rename_i j want hgd;obtain⟨t,ht,h9⟩:=yf.1 h;clear h;have eall:=hg j want t hgd ht
  have eslot:((ops[j]?).bind (·.dst)).map (λt=>(TD.ers (lk H) ts).getD t .junk)=some ((ts.getD t .junk).er (lk H)):=by
   rw[show(ops[j]?).bind (·.dst)=some t from ht,yaa,ZqX]
  split at h9
  ·rename_i b hb;have e1:=ZBZ hb;have e2:all.getD t .junk=Zxi b:=by rw[<-eall];exact e1
   have e3:(ts.getD t .junk).er (lk H)=.p (.bool b):=ZkD hb;split at h9
   ·rename_i hbt;subst hbt;rw[set_same e1,set_same e2] at h9;split at h9
    ·rename_i hw;subst hw;obtain⟨a,d,H',hs,c,h1,h2⟩:=ZvQ ok h9;obtain⟨C,g1,g2,g3⟩:=ZzU h2;refine⟨a,d,H',_,c,h1,h2.same,h2.len,⟨(true=true)::C++[],Zp.2 ⟨⟨rfl,g1⟩,ytt⟩,λyQ=> ?_⟩,ZvR h2,λyQ=> ?_⟩
     ·unfold evG;rw[hgd];dsimp only;rw[eslot,e3];simp only[yae,if_true,g2 yQ];rfl
     ·unfold clsOf;rw[hgd];simp only[yae,if_true];exact g3 yQ
    ·rename_i hw;refine⟨_,_,_,_,_,h9,rfl,rfl,⟨[true=true],⟨rfl,ytt⟩,λyQ=> ?_⟩,λ_=>rfl,λyQ=> ?_⟩
     ·unfold evG;rw[hgd];dsimp only;rw[eslot,e3];simp only[yae,yw,yX hw];rfl
     ·unfold clsOf;rw[hgd];simp only[yae,yX hw];exact yj _
   ·rename_i hbt;have hbt:b=false:=by simpa using hbt
    subst hbt;rw[set_same e1,set_same e2] at h9;split at h9
    ·rename_i hw;subst hw;obtain⟨a,d,H',hs,c,h1,h2⟩:=ZvQ ok h9;obtain⟨C,g1,g2,g3⟩:=ZzU h2;refine⟨a,d,H',_,c,h1,h2.same,h2.len,⟨(false=false)::C++[],Zp.2 ⟨⟨rfl,g1⟩,ytt⟩,λyQ=> ?_⟩,ZvR h2,λyQ=> ?_⟩
     ·unfold evG;rw[hgd];dsimp only;rw[eslot,e3];simp only[yae,if_true,g2 yQ];rfl
     ·unfold clsOf;rw[hgd];simp only[yae,if_true];exact g3 yQ
    ·rename_i hw;refine⟨_,_,_,_,_,h9,rfl,rfl,⟨[false=false],⟨rfl,ytt⟩,λyQ=> ?_⟩,λ_=>rfl,λyQ=> ?_⟩
     ·unfold evG;rw[hgd];dsimp only;rw[eslot,e3];simp only[yae,yw,yX hw];rfl
     ·unfold clsOf;rw[hgd];simp only[yae,yX hw];exact yj _
  ·obtain⟨h1,h9⟩:=Za h9
   have e3:(ts.getD t .junk).er (lk H)=.tup []:=by
    unfold ZIG at h1;split at h1
    ·rename_i hx;rw[hx];rfl
    ·cases h1
   refine⟨_,_,_,_,_,h9,rfl,rfl,⟨[],zT,λyQ=> ?_⟩,λ_=>rfl,λyQ=> ?_⟩
   ·unfold evG;rw[hgd];dsimp only;rw[eslot,e3];rfl
   ·unfold clsOf;rw[hgd];exact yj _
def Zyc(ts:yL TD)(dst:yO Tmp)(d:TD):yL TD:=
 match dst with
 |some i=>ts.set i d
 |none=>ts
theorem ZB0{L:Lk}(dst:yO Tmp)(d:TD):TD.ers L (Zyc ts dst d)=ZmN (TD.ers L ts) dst (d.er L):=by
 cases dst with
 |none=>rfl
 |some i=>simp only[Zyc,ZmN,ZW,ybv]
theorem Zyd(dst:yO Tmp)(d:TD):(Zyc ts dst d).length=ts.length:=by
 cases dst <;> simp[Zyc]
def ZIH(P:yg)(hi:HI)(specs:Sp P)(ops:Array Oper):yL Oper->yL TD->yL TEnt->(yL TD->yL TEnt->yL Hint->yO O)->yO O
 |[],all,H,K=>K all H []
 |o::r,all,H,K=>gT P hi specs ops o all all H λa d H' hs _=>ZIH P hi specs ops r (Zyc a o.dst d) H' λa' h' hs'=>K a' h' (hs++hs')
theorem Zye{hi:HI}{specs:Sp P}{ops:Array Oper}(ok:SpOk specs):∀(l:yL Oper)(all:yL TD)(H:yL TEnt)(K:yL TD->yL TEnt->yL Hint->yO O),ZIH P hi specs ops l all H K=some out->
 ∃a h hs C,K a h hs=some out/\a.length=all.length/\AllP C/\∀yQ,ZuU P ops l (TD.ers (lk H) all) (erH H) (hs++yQ)=some (C,TD.ers (lk h) a,erH h,yQ)
 |[],all,H,K,h=>⟨all,H,[],[],h,rfl,zT,λ_=>rfl⟩
 |o::r,all,H,K,h=>by
  unfold ZIH at h;obtain⟨a,d,H',hs,c,h1,h2⟩:=ZFn ok (λ_ _ _ _ _=>rfl) h;obtain⟨a',h',hs',C',k1,k0,k2,k3⟩:=Zye ok r _ _ _ h1;obtain⟨C,g1,g2⟩:=h2.op;refine⟨a',h',_,C++C',k1,by rw[k0,Zyd,h2.len],Zp.2 ⟨g1,k2⟩,λyQ=> ?_⟩;unfold ZuU;rw[yad,g2 (hs'++yQ)];dsimp only;rw[<-h2.same, <-ZB0,k3 yQ]
end
end Go.Ev
end
section
namespace Go.Ev
section
variable{P:yg}{o:Oper}{ts all:yL TD}{H:yL TEnt}{O:Type}{out:O}
def Zms(keep:yL Nat):Nat->yL TD->yL TD
 |_,[]=>[]
 |i,d::r=>(if keep.contains i then d else .junk)::Zms keep (i+1) r
theorem Zq9{L:Lk}(keep:yL Nat):∀(l:yL TD)(k:Nat),TD.ers L (Zms keep k l)=ZY keep k (TD.ers L l)
 |[],_=>rfl
 |d::r,k=>by
  rw[Zms,TD.ers,TD.ers,ZY,Zq9 keep r];split <;> rfl
theorem Zyf(keep:yL Nat):∀(l:yL TD)(k t:Nat),keep.contains (k+t)=true->(Zms keep k l).getD t .junk=l.getD t .junk
 |[],_,_,_=>rfl
 |d::r,k,0,h=>by
  have h':keep.contains k=true:=h
  simp only[Zms,h',if_true,List.getD_cons_zero]
 |d::r,k,t+1,h=>by
  simp only[Zms,List.getD_cons_succ];exact Zyf keep r (k+1) t (by rw[show k+1+t=k+(t+1) by omega];exact h)
mutual
def Pl.sameB:Pl->Pl->Bool
 |.int k n,.int l m=>decide (k=l)&&decide (n=m)
 |.bool a,.bool b=>a==b
 |.str a,.str b=>decide (a=b)
 |.ptr0,.ptr0=>true
 |.fn0,.fn0=>true
 |.if0,.if0=>true
 |.map0,.map0=>true
 |.fnv f,.fnv g=>Nat.beq f g
 |.agg xs,.agg ys=>Pl.samesB xs ys
 |.arr n s xs,.arr m u ys=>Nat.beq n m&&Nat.beq s u&&Pl.samesB xs ys
 |.sl a s xs,.sl b u ys=>a==b&&Nat.beq s u&&Pl.samesB xs ys
 |.iface t x,.iface u y=>Nat.beq t u&&Pl.sameB x y
 |_,_=>false
def Pl.samesB:yL Pl->yL Pl->Bool
 |[],[]=>true
 |x::r,y::q=>Pl.sameB x y&&Pl.samesB r q
 |_,_=>false
end
mutual
theorem Pl.sameB_eq:∀(a b:Pl),Pl.sameB a b=true->a=b
 |.int k n,b,h=>by cases b <;> simp_all[Pl.sameB]
 |.bool k,b,h=>by cases b <;> simp_all[Pl.sameB]
 |.str k,b,h=>by cases b <;> simp_all[Pl.sameB]
 |.ptr0,b,h=>by cases b <;> simp_all[Pl.sameB]
 |.fn0,b,h=>by cases b <;> simp_all[Pl.sameB]
 |.if0,b,h=>by cases b <;> simp_all[Pl.sameB]
 |.map0,b,h=>by cases b <;> simp_all[Pl.sameB]
 |.fnv f,b,h=>by cases b <;> simp_all[Pl.sameB]
 |.agg xs,b,h=>by cases b <;> simp_all[Pl.sameB];exact Pl.samesB_eq _ _ h
 |.arr n s xs,b,h=>by cases b <;> simp_all[Pl.sameB];exact Pl.samesB_eq _ _ h.2
 |.sl n s xs,b,h=>by cases b <;> simp_all[Pl.sameB];exact Pl.samesB_eq _ _ h.2
 |.iface t x,b,h=>by cases b <;> simp_all[Pl.sameB];exact Pl.sameB_eq _ _ h.2
theorem Pl.samesB_eq:∀(a b:yL Pl),Pl.samesB a b=true->a=b
 |[],[],_=>rfl
 |[],_::_,h=>by cases h
 |_::_,[],h=>by cases h
 |x::r,y::q,h=>by
  simp only[Pl.samesB,yi] at h;rw[Pl.sameB_eq x y h.1,Pl.samesB_eq r q h.2]
end
def Zyg:yL Nat->yL Nat->Bool
 |[],[]=>true
 |x::r,y::q=>Nat.beq x y&&Zyg r q
 |_,_=>false
theorem Zra:∀(a b:yL Nat),Zyg a b=true->a=b
 |[],[],_=>rfl
 |[],_::_,h=>by cases h
 |_::_,[],h=>by cases h
 |x::r,y::q,h=>by
  simp only[Zyg,yi] at h;rw[Nat.eq_of_beq_eq_true h.1,Zra r q h.2]
mutual
def Dv.sameB:Dv->Dv->Bool
 |.p x,.p y=>Pl.sameB x y
 |.elem x,.elem y=>Pl.sameB x y
 |.ref i o l,.ref j q m=>Nat.beq i j&&Nat.beq o q&&Zyg l m
 |.own i a s xs,.own j b u ys=>Nat.beq i j&&a==b&&Nat.beq s u&&Pl.samesB xs ys
 |.view i o l a b c,.view i' o' l' a' b' c'=>Nat.beq i i'&&Nat.beq o o'&&Zyg l l'&&Nat.beq a a'&&Nat.beq b b'&&Nat.beq c c'
 |.agg xs,.agg ys=>Dv.samesB xs ys
 |.arr n s xs,.arr m u ys=>Nat.beq n m&&Nat.beq s u&&Dv.samesB xs ys
 |.fn f xs,.fn g ys=>Nat.beq f g&&Dv.samesB xs ys
 |.iface t x,.iface u y=>Nat.beq t u&&Dv.sameB x y
 |.tup xs,.tup ys=>Dv.samesB xs ys
 |.mp i,.mp j=>Nat.beq i j
 |.rv a b c d e,.rv a' b' c' d' e'=>Nat.beq a a'&&Nat.beq b b'&&Nat.beq c c'&&Nat.beq d d'&&Nat.beq e e'
 |.rref a b c l,.rref a' b' c' l'=>Nat.beq a a'&&Nat.beq b b'&&Nat.beq c c'&&Zyg l l'
 |.junk,.junk=>true
 |_,_=>false
def Dv.samesB:yL Dv->yL Dv->Bool
 |[],[]=>true
 |x::r,y::q=>Dv.sameB x y&&Dv.samesB r q
 |_,_=>false
end
theorem Zi7{a b:Nat}(h:Nat.beq a b=true):a=b:=Nat.eq_of_beq_eq_true h
mutual
theorem Dv.sameB_eq:∀(a b:Dv),Dv.sameB a b=true->a=b
 |.p x,b,h=>by
  cases b <;> simp only[Dv.sameB,ybt] at h
  rw[Pl.sameB_eq _ _ h]
 |.elem x,b,h=>by
  cases b <;> simp only[Dv.sameB,ybt] at h
  rw[Pl.sameB_eq _ _ h]
 |.ref i o l,b,h=>by
  cases b <;> simp only[Dv.sameB,ybt,yi] at h
  rw[Zi7 h.1.1,Zi7 h.1.2,Zra _ _ h.2]
 |.own i a s xs,b,h=>by
  cases b <;> simp only[Dv.sameB,ybt,yi,yT] at h
  rw[Zi7 h.1.1.1,h.1.1.2,Zi7 h.1.2,Pl.samesB_eq _ _ h.2]
 |.view i o l a k c,b,h=>by
  cases b <;> simp only[Dv.sameB,ybt,yi] at h
  rw[Zi7 h.1.1.1.1.1,Zi7 h.1.1.1.1.2,Zra _ _ h.1.1.1.2,Zi7 h.1.1.2,Zi7 h.1.2,Zi7 h.2]
 |.agg xs,b,h=>by
  cases b <;> simp only[Dv.sameB,ybt] at h
  rw[Dv.samesB_eq _ _ h]
 |.arr n s xs,b,h=>by
  cases b <;> simp only[Dv.sameB,ybt,yi] at h
  rw[Zi7 h.1.1,Zi7 h.1.2,Dv.samesB_eq _ _ h.2]
 |.fn f xs,b,h=>by
  cases b <;> simp only[Dv.sameB,ybt,yi] at h
  rw[Zi7 h.1,Dv.samesB_eq _ _ h.2]
 |.iface t x,b,h=>by
  cases b <;> simp only[Dv.sameB,ybt,yi] at h
  rw[Zi7 h.1,Dv.sameB_eq _ _ h.2]
 |.tup xs,b,h=>by
  cases b <;> simp only[Dv.sameB,ybt] at h
  rw[Dv.samesB_eq _ _ h]
 |.mp i,b,h=>by
  cases b <;> simp only[Dv.sameB,ybt] at h
  rw[Zi7 h]
 |.rv a k c d e,b,h=>by
  cases b <;> simp only[Dv.sameB,ybt,yi] at h
  rw[Zi7 h.1.1.1.1,Zi7 h.1.1.1.2,Zi7 h.1.1.2,Zi7 h.1.2,Zi7 h.2]
 |.rref a k c l,b,h=>by
  cases b <;> simp only[Dv.sameB,ybt,yi] at h
  rw[Zi7 h.1.1.1,Zi7 h.1.1.2,Zi7 h.1.2,Zra _ _ h.2]
 |.junk,b,h=>by
  cases b <;> simp only[Dv.sameB,ybt] at h;rfl
theorem Dv.samesB_eq:∀(a b:yL Dv),Dv.samesB a b=true->a=b
 |[],[],_=>rfl
 |[],_::_,h=>by cases h
 |_::_,[],h=>by cases h
 |x::r,y::q,h=>by
  simp only[Dv.samesB,yi] at h;rw[Dv.sameB_eq x y h.1,Dv.samesB_eq r q h.2]
end
def Ent.sameB:yO Ent->yO Ent->Bool
 |some (.var d _),some (.var e _)=>Dv.sameB d e
 |_,_=>false
theorem Ent.sameB_rd{a b:yO Ent}(h:Ent.sameB a b=true):rdE a=rdE b:=by
 unfold Ent.sameB at h;split at h
 ·rw[Dv.sameB_eq _ _ h];rfl
 ·cases h
structure TR where
 cls:Nat
 rd:Option Nat
 tc:Option (List Nat)
 n:Nat
 push:Bool
 loc:Bool
 m:Nat
 sm:Nat->Bool
def ZFo(P:yg)(hi:HI)(specs:Sp P)(ops:Array Oper):yL Oper->yL TD->yL TEnt->(yL TD->yL TEnt->yL TR->yL Hint->yO O)->yO O
 |[],all,H,K=>K all H [] []
 |o::r,all,H,K=>gT P hi specs ops o (Zms (looks ops o) 0 all) all H λa d H' hs c=>ZFo P hi specs ops r (Zyc a o.dst d) H' λa' h' rs hs'=>
   K a' h' (⟨c,ZHB P o (TD.ers (lk H) (Zms (looks ops o) 0 all)),Zy0 P o (TD.ers (lk H) (Zms (looks ops o) 0 all)) hs,H.length,Zli o,ZqH o hs,H'.length,λid=>(c==3) || Ent.sameB ((erH H')[id]?) ((erH H)[id]?)⟩::rs) (hs++hs')
def RecOk(R:Rec)(r:TR):Prop:=R.cls<=r.cls/\R.rd=r.rd/\(∀l,r.tc=some l->R.tc=some l)/\R.H.length=r.n/\R.push=r.push/\(r.loc=true->R.loc=true)/\R.H'.length=r.m/\∀id,r.sm id=true->rdE (R.H'[id]?)=rdE (R.H[id]?)
inductive RecsOk:List Rec->List TR->Prop where
 |nil:RecsOk [] []
 |cons {R:Rec} {r:TR} {Rs:List Rec} {rs:List TR} (h:RecOk R r) (k:RecsOk Rs rs):RecsOk (R::Rs) (r::rs)
theorem ZDW{ts:yL Dv}{hs yQ:yL Hint}{l:yL Nat}(h:Zg4 P o ts hs=some l):Zg4 P o ts (hs++yQ)=some l:=by
 unfold Zg4 at h ⊢;split at h <;> first|exact h|skip
 ·cases hs with
  |nil=>cases h
  |cons x r=>rw[yae];cases x <;> exact h
 split at h <;> first|exact h|skip
 all_goals
  split at h
  ·exact h
  ·cases h
theorem ZK1{ts:yL Dv}{hs yQ:yL Hint}{l:yL Nat}(h:Zy0 P o ts hs=some l):Zy0 P o ts (hs++yQ)=some l:=by
 unfold Zy0 at h ⊢;split at h
 ·rename_i hg;rw[yW hg];exact ZDW h
 ·cases h
theorem ZII{hs yQ:yL Hint}(h:ZqH o hs=true):ZqH o (hs++yQ)=true:=by
 unfold ZqH at h ⊢;rw[yi] at h ⊢;refine⟨h.1, ?_⟩;have h:=h.2;split at h
 ·split at h
  ·split at h
   ·exact h
   ·cases h
  ·cases h
 ·cases h
theorem ZvS{hi:HI}{specs:Sp P}{ops:Array Oper}(ok:SpOk specs):∀(l:yL Oper)(all:yL TD)(H:yL TEnt)(K:yL TD->yL TEnt->yL TR->yL Hint->yO O),ZFo P hi specs ops l all H K=some out->
 ∃a h rs hs C,K a h rs hs=some out/\a.length=all.length/\AllP C/\∀yQ,∃RS,evD P ops l (TD.ers (lk H) all) (erH H) (hs++yQ)=some (C,RS,TD.ers (lk h) a,erH h,yQ)/\RecsOk RS rs
 |[],all,H,K,h=>⟨all,H,[],[],[],h,rfl,zT,λ_=>⟨[],rfl,.nil⟩⟩
 |o::r,all,H,K,h=>by
  unfold ZFo at h
  have hgd:∀j want t,o.guard=some (j,want)->ZDV ops j=some t->(Zms (looks ops o) 0 all).getD t .junk=all.getD t .junk:=by
   intro j want t hg hs;refine Zyf _ _ _ _ ?_;rw[ybe];unfold looks;rw[hg];dsimp only;rw[show(ops[j]?).bind (·.dst)=some t from hs]
   simp
  obtain⟨a,d,H',hs,c,h1,h2⟩:=ZFn ok hgd h;obtain⟨a',h',rs,hs',C',k1,k0,k2,k3⟩:=ZvS ok r _ _ _ h1;obtain⟨C,g1,g2⟩:=h2.op;refine⟨a',h',_,_,C++C',k1,by rw[k0,Zyd,h2.len],Zp.2 ⟨g1,k2⟩,λyQ=> ?_⟩;obtain⟨RS,e1,e2⟩:=k3 yQ;unfold evD;rw[<-Zq9,yad,g2 (hs'++yQ)];dsimp only;rw[<-h2.same, <-ZB0,e1]
  refine⟨_,rfl,.cons ⟨h2.cls _,rfl,λl hl=> ?_,Yb _,rfl,λhl=>ZII hl,Yb _,λid hs=>by
   have hs:(c==3 || Ent.sameB ((erH H')[id]?) ((erH H)[id]?))=true:=hs;rw[ych] at hs;rcases hs with h5|h5
   ·rw[h2.sam (by simpa using h5)]
   ·exact Ent.sameB_rd h5⟩ e2⟩
  exact ZK1 hl
def ZFp(ops:Array Oper)(cls:yL Nat)(free comm:Nat->Nat->Bool):Bool:=
 let l:=ops.toList;let A:=ZHC l;let n:=l.length
 (cls.length==n)&&Zky l 0&&
 ((yu n).all λi=>match l[i]? with|some o=>A.getD i 0==Zlj A i o|none=>true)&&
 ((yu n).all λi=>(yu n).all λj=>i==j || Zkz l i==none || !(Zkz l i==Zkz l j))&&
 ((yu n).all λi=>match l[i]? with
   |some o=>let k:=looks ops o
    (yu n).all λj=>match Zkz l j with
      |some t=>i==j || !(k.contains t) || (if j < i then(A.getD i 0).testBit j else(A.getD j 0).testBit i)
      |none=>true
   |none=>true)&&
 ((yu n).all λi=>cls.getD i 0==0 || (yu n).all λj=>i==j || decide (cls.getD j 0 < 2) || (if j < i then(A.getD i 0).testBit j else(A.getD j 0).testBit i) || (decide (cls.getD i 0<=1)&&free i j) || comm i j)
def ZIJ(rs:yL TR)(i j:Nat):Bool:=
 match rs[i]?,rs[j]? with
 |some r,some q=>match r.rd with
  |some id=>decide (id < q.n)&&decide (id < r.n)&&((match q.tc with|some l=> !l.contains id|none=>false) || q.sm id)
  |none=>false
 |_,_=>false
def cT(rs:yL TR)(c:Nat)(r:TR):Bool:=r.loc || (r.push&&r.m==r.n+1&&(rs.take c).all λq=>decide (q.n<=r.n))
def cI(rs:yL TR):Nat:=match rs.findIdx? (λr=>r.loc&&r.cls==2) with
 |some c=>c
 |none=>(rs.findIdx? (λr=>r.push)).getD 0
def ZFq(rs:yL TR)(i j:Nat):Bool:=
 let c:=cI rs
 ((rs[c]?).map (cT rs c)).getD false&&((i==c&&decide (c < j)&&((rs[j]?).map (·.push)).getD false) || (j==c&&decide (c < i)&&((rs[i]?).map (·.push)).getD false))
theorem ZvT{RS:yL Rec}{rs:yL TR}(h:RecsOk RS rs):RS.length=rs.length:=by
 induction h with
 |nil=>rfl
 |cons _ _ ih=>simp[ih]
theorem Znq{RS:yL Rec}{rs:yL TR}(h:RecsOk RS rs):∀{i:Nat}{r:TR},rs[i]? =some r->∃R,RS[i]? =some R/\RecOk R r:=by
 induction h with
 |nil=>intro i r h;simp at h
 |cons h k ih=>
  intro i r hi
  cases i with
  |zero=>cases hi;exact⟨_,rfl,h⟩
  |succ i=>exact ih hi
theorem ZGS{RS:yL Rec}{rs:yL TR}(h:RecsOk RS rs):∀{i:Nat}{R:Rec},RS[i]? =some R->∃r,rs[i]? =some r/\RecOk R r:=by
 induction h with
 |nil=>intro i r h;simp at h
 |cons h k ih=>
  intro i r hi
  cases i with
  |zero=>cases hi;exact⟨_,rfl,h⟩
  |succ i=>exact ih hi
theorem ZB1{RS:yL Rec}{rs:yL TR}(h:RecsOk RS rs)(i:Nat):(RS.map (·.cls)).getD i 0<=(rs.map (·.cls)).getD i 0:=by
 simp only[yda,yan]
 cases hi:rs[i]? with
 |none=>
  have:RS[i]? =none:=by rw[List.getElem?_eq_none_iff] at hi ⊢;rw[ZvT h];exact hi
  rw[this]
  exact yj _
 |some r=>
  obtain⟨R,e,k⟩:=Znq h hi;rw[e];exact k.1
theorem ZK2{ops:Array Oper}{RS:yL Rec}{rs:yL TR}(h:RecsOk RS rs)(k:ZFp ops (rs.map (·.cls)) (ZIJ rs) (ZFq rs)=true)(hn:rs.length=ops.size):Zy1 ops RS=true:=by
 unfold ZFp at k;unfold Zy1;simp only[yi] at k ⊢;obtain⟨⟨⟨⟨⟨k1,k2⟩,k3⟩,k4⟩,k5⟩,k6⟩:=k;refine⟨⟨⟨⟨⟨?_,k2⟩,k3⟩,k4⟩,k5⟩, ?_⟩
 ·simpa[ZvT h] using k1
 ·have hcm:∃c,c∈yu (ops.toList.length+1)/\∀i j,ZFq rs i j=true->ZjP RS c i j=true:=by
   have hget:∀(k:Nat),((rs[k]?).map (·.push)).getD false=true->((RS[k]?).map (·.push)).getD false=true:=by
    intro k hk
    cases hr:rs[k]? with
    |none=>rw[hr] at hk;cases hk
    |some r=>
     obtain⟨R,e1,e2⟩:=Znq h hr;rw[hr] at hk;rw[e1];show R.push=true;rw[e2.2.2.2.2.1];exact hk
   refine⟨if cI rs < rs.length then cI rs else 0, ?_,λi j hij=> ?_⟩
   ·rw[List.mem_range];split
    ·rename_i hlt;rw[hn] at hlt;have:ops.toList.length=ops.size:=by simp
     omega
    ·omega
   ·unfold ZFq at hij;dsimp only at hij;generalize cI rs=c at hij ⊢;rw[yi] at hij;obtain⟨h1,h2⟩:=hij
    cases hr:rs[c]? with
    |none=>rw[hr] at h1;cases h1
    |some r=>
     have hlt:=(yq.1 hr).1;rw[yW hlt];obtain⟨R,e1,e2⟩:=Znq h hr;rw[hr] at h1;unfold ZjP;rw[yi];refine⟨?_, ?_⟩
     ·rw[e1];show cOk RS c R=true;have h1:cT rs c r=true:=h1;unfold cT at h1;unfold cOk;rw[ych] at h1 ⊢;rcases h1 with h1|h1
      ·exact .inl (e2.2.2.2.2.2.1 h1)
      ·simp only[yi,yT,ybj,yP] at h1 ⊢;obtain⟨⟨b1,b2⟩,b3⟩:=h1;refine .inr ⟨⟨by rw[e2.2.2.2.2.1];exact b1,by rw[e2.2.2.2.2.2.2.1,e2.2.2.2.1];exact b2⟩,λq hq=> ?_⟩;obtain⟨k,hk⟩:=List.mem_iff_getElem?.1 hq;rw[ycl] at hk;split at hk
       ·rename_i hkc;obtain⟨q2,f1,f2⟩:=ZGS h hk;rw[f2.2.2.2.1,e2.2.2.2.1];refine b3 q2 (List.mem_iff_getElem?.2 ⟨k, ?_⟩);rw[ycl,yW hkc];exact f1
       ·cases hk
     ·simp only[ych,yi] at h2 ⊢;rcases h2 with⟨⟨a1,a2⟩,a3⟩|⟨⟨a1,a2⟩,a3⟩
      ·exact .inl ⟨⟨a1,a2⟩,hget _ a3⟩
      ·exact .inr ⟨⟨a1,a2⟩,hget _ a3⟩
  obtain⟨c,hc1,hc2⟩:=hcm;rw[List.any_eq_true];refine⟨c,hc1, ?_⟩;rw[ybj] at k6 ⊢;intro i hi;have:=k6 i hi;have hc:=ZB1 h i;simp only[ych] at this ⊢;rcases this with h0|h1
  ·left;have h0:(rs.map (·.cls)).getD i 0=0:=by simpa using h0
   have:(RS.map (·.cls)).getD i 0=0:=by omega
   simpa using this
  ·by_cases hz:(RS.map (·.cls)).getD i 0=0
   ·left;simpa using hz
   ·right;rw[ybj] at h1 ⊢;intro j hj;have h2:=h1 j hj;have hd:=ZB1 h j;simp only[ych,yi,yP] at h2 ⊢;rcases h2 with(((h2|h2)|h2)|h2)|h2
    ·exact .inl (.inl (.inl (.inl h2)))
    ·refine .inl (.inl (.inl (.inr ?_)));have:(RS.map (·.cls)).getD j 0≠2:=by omega
     simpa using this
    ·exact .inl (.inl (.inr h2))
    ·refine .inl (.inr ⟨?_, ?_⟩)
     ·have:(RS.map (·.cls)).getD i 0=1:=by omega
      simpa using this
     ·have hf:=h2.2;unfold ZIJ at hf;unfold Zna;split at hf
      ·rename_i r q hr hq;obtain⟨R,e1,e2⟩:=Znq h hr;obtain⟨Q,e3,e4⟩:=Znq h hq;rw[e1,e3];dsimp only;split at hf
       ·rename_i id hrd;rw[e2.2.1,hrd];dsimp only;rw[e4.2.2.2.1,e2.2.2.2.1];rw[yi] at hf ⊢;refine⟨hf.1, ?_⟩;rw[ych] at hf ⊢;rcases hf.2 with h5|h5
        ·left;split at h5
         ·rename_i l htc;rw[e4.2.2.1 l htc];exact h5
         ·cases h5
        ·right;exact@decide_eq_true _ (Classical.propDecidable _) (e4.2.2.2.2.2.2.2 id h5)
       ·cases hf
      ·cases hf
    ·exact .inr (hc2 i j h2)
theorem ZDX{A B:yL Ent}(hl:A.length=B.length)(h:∀(i:Nat)(a b:Ent),A[i]? =some a->B[i]? =some b->WkE a b):WkH A B:=by
 induction A generalizing B with
 |nil=>cases B with
  |nil=>exact .nil
  |cons _ _=>simp at hl
 |cons a A ih=>cases B with
  |nil=>simp at hl
  |cons b B=>exact .cons (h 0 a b rfl rfl) (ih (by simpa using hl) λi a b h1 h2=>h (i+1) a b h1 h2)
def ZIK:TEnt->TEnt
 |.var d _=>.var d false
 |e=>e
def Zst(ids:yL Nat)(H:yL TEnt):yL TEnt:=(yu H.length).zipWith (λi e=>if ids.contains i then ZIK e else e) H
theorem ZK3(e:TEnt):lkE (some (ZIK e))=lkE (some e):=by cases e <;> rfl
theorem ZvU(ids:yL Nat)(H:yL TEnt)(i:Nat):(Zst ids H)[i]? =(H[i]?).map λe=>if ids.contains i then ZIK e else e:=by
 unfold Zst;rw[List.getElem?_zipWith];rcases ycb i H.length with h|h
 ·rw[List.getElem?_range h,yab h];rfl
 ·rw[yap (by simpa using h),yap h];rfl
theorem Zyh(ids:yL Nat)(H:yL TEnt):lk (Zst ids H)=lk H:=by
 funext i;unfold lk;rw[ZvU]
 cases H[i]? with
 |none=>rfl
 |some e=>
  show lkE (some (if ids.contains i=true then ZIK e else e))=_
  split
  ·exact ZK3 e
  ·rfl
theorem ZGT(ids:yL Nat)(H:yL TEnt):WkH (erH H) (erH (Zst ids H)):=by
 refine ZDX (by rw[Yb,Yb];unfold Zst;simp) λi a b h1 h2=> ?_;unfold erH at h1 h2;rw[yan] at h1 h2;rw[Zyh,ZvU] at h2
 cases he:H[i]? with
 |none=>rw[he] at h1;cases h1
 |some e=>
  rw[he] at h1 h2;cases h1;cases h2;show WkE (e.er (lk H)) (TEnt.er (lk H) (if ids.contains i=true then ZIK e else e))
  split
  ·cases e <;> first|exact .refl _|exact .frz
  ·exact .refl _
theorem ZIL{c:Code}{ts ts1:yL Dv}{H0 H1 H2:yL Ent}{ex:Ex}(h:WkH H0 H1)(r:VO P c ts H1 ex ts1 H2):VO P c ts H0 ex ts1 H2:=by
 intro σ a ok hH yR;obtain⟨to,ok2⟩:=ZqK ok (H':=H1) (by rw[hH];exact h);refine wp_mono (r { σ with H:=H1} a ok2 rfl (yR.to to.leaf)) ?_;rintro e a' w' ⟨rfl,σ2,q1,q2,q3,q4,q5⟩;exact⟨rfl,σ2,q1,q2,to.trans q3,q4,q5⟩
def ZIM(ops:yL Oper)(all:yL TD):Nat->Tmp->yO Nat
 |0,_=>none
 |n+1,x=>match ops.find? λo=>o.dst==some x with
  |some o=>match o.op with
   |.fieldAddr _ (.tmp y) _=>ZIM ops all n y
   |_=>none
  |none=>match all.getD x .junk with
   |.ref id _=>some id
   |_=>none
def ZN9(hi:HI)(ops:yL Oper)(all:yL TD)(o:Oper):yO Nat:=
 match o.op with
 |.slice _ (.tmp x) _ _ none=>if ZvO hi.frz o.dst then ZIM ops all 4 x else none
 |_=>none
def ZvV(hi:HI)(ops:Array Oper)(all:yL TD)(H:yL TEnt):yL TEnt:=
 match hi.frz with
 |[]=>H
 |_=>match ops.toList.filterMap (ZN9 hi ops.toList all) with
  |[]=>H
  |ids=>Zst ids H
theorem ZGU(hi:HI)(ops:Array Oper)(all:yL TD)(H:yL TEnt):WkH (erH H) (erH (ZvV hi ops all H))/\lk (ZvV hi ops all H)=lk H:=by
 unfold ZvV;split
 ·exact⟨WkH.refl _,rfl⟩
 ·split
  ·exact⟨WkH.refl _,rfl⟩
  ·exact⟨ZGT _ _,Zyh _ _⟩
def ZMV(P:yg)(hi:HI)(specs:Sp P)(ops:Array Oper)(all:yL TD)(H:yL TEnt)(K:yL TD->yL TEnt->yO O):yO O:=
 if P.follows .mixedOrders then ZFo P hi specs ops ops.toList all (ZvV hi ops all H) λa h rs _=>if ZFp ops (rs.map (·.cls)) (ZIJ rs) (ZFq rs)=true then K a h else none else none
theorem ZGV{hi:HI}{specs:Sp P}{ops:Array Oper}{K:yL TD->yL TEnt->yO O}(ok:SpOk specs)(h:ZMV P hi specs ops all H K=some out):∃a h,K a h=some out/\a.length=all.length/\∀id,VO P (.region id ops true) (TD.ers (lk H) all) (erH H) .normal (TD.ers (lk h) a) (erH h):=by
 unfold ZMV at h;split at h
 ·rename_i hf;obtain⟨w1,w2⟩:=ZGU hi ops all H;generalize ZvV hi ops all H=H0 at h w1 w2;obtain⟨a,h',rs,hs,C,k1,k0,k2,k3⟩:=ZvS ok _ _ _ _ h;obtain⟨k4,k5⟩:=Za k1;refine⟨a,h',k5,k0,λid=> ?_⟩;obtain⟨RS,e1,e2⟩:=k3 [];rw[<-w2];refine ZIL w1 (Zvv (hs:=hs) (hs':=[]) (C:=C) ?_ k2);simp only[ev,if_true];unfold Zy2;rw[yW hf];rw[ybd] at e1;rw[e1];dsimp only;rw[yW (ZK2 e2 k4 (by have:=ZvT e2;unfold ZFp at k4;simp only[yi] at k4;simpa using k4.1.1.1.1.1))];rfl
 ·cases h
theorem ZGW{hi:HI}{specs:Sp P}{ops:Array Oper}{K:yL TD->yL TEnt->yL Hint->yO O}(ok:SpOk specs)(h:ZIH P hi specs ops ops.toList all H K=some out):∃a h hs,K a h hs=some out/\a.length=all.length/\∀id,VO P (.region id ops false) (TD.ers (lk H) all) (erH H) .normal (TD.ers (lk h) a) (erH h):=by
 obtain⟨a,h',hs,C,k1,k0,k2,k3⟩:=Zye ok _ _ _ _ h;refine⟨a,h',hs,k1,k0,λid=> ?_⟩;refine Zvv (hs:=hs) (hs':=[]) (C:=C) ?_ k2;have:=k3 [];rw[ybd] at this;simp only[ev,ybt,if_false,this];rfl
end
end Go.Ev
end
section
namespace Go.Ev
def Q4(H H':yL Ent):Prop:=∀σ:Sg,Ok σ->σ.H=H->∃σ':Sg,σ'.w=σ.w/\σ'.H=H'/\To σ σ'/\Ok σ'
theorem Q4.refl(H:yL Ent):Q4 H H:=λσ ok h=>⟨σ,rfl,h,To.refl σ,ok⟩
theorem Q4.trans{A B C:yL Ent}(h:Q4 A B)(k:Q4 B C):Q4 A C:=λσ ok e=>by
 obtain⟨σ1,a1,a2,a3,a4⟩:=h σ ok e;obtain⟨σ2,b1,b2,b3,b4⟩:=k σ1 a4 a2;exact⟨σ2,b1.trans a1,b2,a3.trans b3,b4⟩
theorem ZIN{H H':yL Ent}(h:WkH H H'):Q4 H H':=λσ ok e=>by
 subst e;obtain⟨to,ok'⟩:=ZqK ok h;exact⟨{ σ with H:=H'},rfl,rfl,to,ok'⟩
theorem ZK4{P:yg}{c:Code}{ts ts1 ts2:yL Dv}{H H1 H2:yL Ent}{ex:Ex}(h:Q4 H H1/\∀(σ:Sg)(a:Act),RepT σ ts a->RepT σ ts1 a)(r:VO P c ts1 H1 ex ts2 H2):VO P c ts H ex ts2 H2:=by
 intro σ a ok hH yR;obtain⟨σ1,e1,e2,e3,e4⟩:=h.1 σ ok hH;have:=r σ1 a e4 e2 (h.2 _ _ (yR.to e3.leaf));rw[e1] at this;refine wp_mono this ?_;rintro e' a' w' ⟨rfl,σ2,q1,q2,q3,q4,q5⟩;exact⟨rfl,σ2,q1,q2,e3.trans q3,q4,q5⟩
theorem ZMW{H:yL Ent}{j:Nat}{x x' y:Ent}(hj:H[j]? =some x)
 (hy:∀σ:Sg,entOk σ none y)
 (hvar:(∃d st,x=.var d st)->∃d st,x'=.var d st) (hmap:(∃t kvs,x=.map t kvs)->∃t kvs,x'=.map t kvs) (hlog:∀s e xs,x≠ .log s e xs)
 (hunl:∀o,x.unlocked o->x'.unlocked o)
 (hrow:∀v s st e d,x=.row v s st e d->∃st' d',x'=.row v s st' e d')
 (hent:∀(σ:Sg)(mi:yO Nat),σ.H[H.length]? =some y->σ.m[H.length]? =some none->entOk σ mi x->entOk σ mi x'):Q4 H ((H++[y]).set j x'):=by
 intro σ ok hH;subst hH;have hjl:j < σ.H.length:=(yq.1 hj).1;obtain⟨to1,ok1⟩:=V7 (σ':={ σ with m:=σ.m++[none],H:=σ.H++[y]}) ok rfl rfl rfl rfl (World.grownBy.refl σ.w none) (.inl rfl) (λ_=>hy _);obtain⟨mi,hm⟩:∃mi,σ.m[j]? =some mi:=⟨_,yab (by rw[ok.len];exact hjl)⟩;let σ1:Sg:={ σ with m:=σ.m++[none],H:=σ.H++[y]};let σ2:Sg:={ σ1 with m:=σ1.m.set j mi,H:=σ1.H.set j x'}
 have hH1:σ1.H[j]? =some x:=by
  show(σ.H++[y])[j]? =_;rw[yao hjl];exact hj
 have hm1:σ1.m[j]? =some mi:=by
  show(σ.m++[none])[j]? =_;rw[yao (by rw[ok.len];exact hjl)];exact hm
 have hx:=ok1.ent j x mi hH1 hm1
 obtain⟨to2,ok2⟩:=Ve (σ':=σ2) (mi:=mi) (mi':=mi) ok1 hH1 hm1 rfl rfl rfl rfl rfl rfl rfl (yj _)
  (λ_ _ _=>rfl) (λ_ _ _ _ _ h=>h) (λo _ hu=>hunl o hu) (.inl rfl) (λq=>⟨rfl,hvar q⟩) (λq=>⟨rfl,hmap q⟩) (λs e xs q=>absurd q (hlog s e xs))
  (λleaf=>by
    refine hent σ2 mi ?_ ?_ (ZeI leaf (λb _=>rfl) hx)
    ·show(σ1.H.set j _)[σ.H.length]? =_;rw[ybw,yX (by omega)];simp[σ1]
    ·show(σ1.m.set j _)[σ.H.length]? =_;rw[ybw,yX (by omega)];show(σ.m++[none])[σ.H.length]? =_;rw[yax (by rw[ok.len];exact yj _),ok.len];simp)
  (λv s st e d q=>by
    obtain⟨st',d',q'⟩:=hrow v s st e d q;exact⟨v,st',d',q',yj _,λ_=>⟨rfl,λb cur _ hc=>⟨cur,hc,rfl⟩⟩⟩)
 exact⟨σ2,rfl,rfl,to1.trans to2,ok2⟩
theorem ZGX{σ:Sg}{s:Nat}{a:yL Value}(h:yJ σ (.p (.sl (some false) s [])) a):a=[.slice none 0 0]:=by
 simp only[yJ,repC] at h;obtain⟨_,A,c,rfl,w1,w2,w3,w4,w5⟩:=h
 have hA:A=none:=by
  have:=w3 false rfl
  cases A with
  |none=>rfl
  |some _=>cases this
 subst hA;have hc:=w4 rfl;subst hc;rfl
theorem ZK5{H:yL Ent}{j s:Nat}{e:yc}{d d':Dv}{st:Bool}{yS:yL Nat}(hj:H[j]? =some (.var d st))(hg:Ws d yS s (.rv H.length 0 s 0 0)=some d'):
 Q4 H ((H++[Ent.row 0 s true e (.p (.arr 0 s []))]).set j (.var d' st)):=by
 have hsz:=Zg7 yS d d' s _ rfl hg;refine ZMW hj (λσ=>⟨0,by simp[rowN],.inl ⟨rfl,rfl⟩⟩) (λ_=>⟨_,_,rfl⟩) (λ⟨_,_,q⟩=>by cases q) (λ_ _ _ q=>by cases q) (λo hu=>hu) (λ_ _ _ _ _ q=>by cases q) ?_;rintro σ mi h1 h2 ⟨b,cs,t,rfl,q2,q3,q4⟩;refine⟨b,cs,t,rfl,q2, ?_,by rw[hsz];exact q4⟩;rw[hsz];refine Zjn yS d d' s _ (λa ha=> ?_) hg _ q3;have:=ZGX ha;subst this;simp only[yJ];exact⟨none,0,rfl,yj _,by simp[maxLen],λ_=>rfl,λh=>absurd h (Nat.lt_irrefl 0),0,s,true,e,_,h1,yj _,λ_=>⟨rfl,.inl ⟨h2,rfl,rfl⟩⟩⟩
theorem ZK6{H:yL Ent}{j:Nat}{d d':Dv}{st:Bool}(hj:H[j]? =some (.var d st))(hsz:d'.size=d.size)(hd:∀σ:Sg,Ok σ->σ.H=H->∀us,yJ σ d us->yJ σ d' us):Q4 H (H.set j (.var d' st)):=by
 intro σ ok hH;subst hH;have hjl:j < σ.H.length:=(yq.1 hj).1;obtain⟨mi,hm⟩:∃mi,σ.m[j]? =some mi:=⟨_,yab (by rw[ok.len];exact hjl)⟩;let σ2:Sg:={ σ with m:=σ.m.set j mi,H:=σ.H.set j (.var d' st)};obtain⟨b,cs,t,rfl,q2,q3,q4⟩:=ok.ent j _ mi hj hm;have q5:=hd σ ok rfl _ q3
 obtain⟨to2,ok2⟩:=Ve (σ':=σ2) (mi:=some b) (mi':=some b) ok hj hm rfl rfl rfl rfl rfl rfl rfl (yj _)
  (λ_ _ _=>rfl) (λ_ _ _ _ _ h=>h) (λo _ hu=>hu) (.inl rfl) (λq=>⟨rfl,_,_,rfl⟩) (λ⟨_,_,q⟩=>by cases q) (λs e xs q=>by cases q)
  (λleaf=>⟨b,cs,t,rfl,q2,by rw[hsz];exact YY leaf _ _ q5,by rw[hsz];exact q4⟩)
  (λv s st e d q=>by cases q)
 exact⟨σ2,rfl,rfl,to2,ok2⟩
inductive GOp where
 |rowt (t:Tmp) (yS:List Nat) (T:Ty) (e:yc)
 |freshS (t:Tmp)
 |freshDone (t:Tmp) (i:Nat)
 |any (t:Tmp) (i:Nat) (T:Ty)
 |melt (t:Tmp)
 |split (t:Tmp) (ks:List Nat)
 |nn (t:Tmp)
def ZPc:TEnt->Bool
 |.rowN _ _ _ true _ _ _=>true
 |_=>false
section
variable{O:Type}{out:O}
abbrev Kh(O:Type):=yL TD->yL TEnt->yO O
def ZPd(t:Tmp)(yS:yL Nat)(T:Ty)(e:yc)(np:yL Nat)(a:yL TD)(h:yL TEnt)(K:Kh O):yO O:=
 match a[t]? with
 |some (.ref id [])=>match h[id]? with
  |some (.var d true)=>(Zlz T (.rw h.length) yS d).bind λd'=>if(TD.frees h.length a&&h.all (TEnt.free h.length))=true then K a ((h++[TEnt.rowN T np [] true e [] []]).set id (.var d' true)) else none
  |_=>none
 |_=>none
def ZDY(t:Tmp)(yS:yL Nat)(T:Ty)(e:yc)(a:yL TD)(h:yL TEnt)(K:Kh O):yO O:=
 match a[t]? with
 |some (.ref id [])=>match h[id]? with
  |some (.var d true)=>(Zlz T (.rw h.length) yS d).bind λd'=>if(TD.frees h.length a&&h.all (TEnt.free h.length))=true then K a ((h++[TEnt.rowT T [] true e []]).set id (.var d' true)) else none
  |_=>none
 |_=>none
def ZB2(h:yL TEnt):TD->yO (TD×yL Nat)
 |.rw j=>match h[j]? with
  |some (.rowN T _ _ _ _ pre [])=>some (.p (.sl none T pre),[j])
  |some (.rowT T _ _ _ l)=>some (.p (.sl none T l),[j])
  |_=>none
 |d=>some (d,[])
def ZIO(h:yL TEnt):TD->(TD->yL Nat->yO O)->yO O
 |.rw j,K=>match h[j]? with
  |some (.rowN T _ _ _ _ pre post)=>if post.isEmpty=true then K (.p (.sl none T pre)) [j] else none
  |some (.rowT T _ _ _ l)=>K (.p (.sl none T l)) [j]
  |_=>none
 |d,K=>K d []
theorem ZDZ{h:yL TEnt}{d:TD}{K:TD->yL Nat->yO O}(k:ZIO h d K=some out):∃q,ZB2 h d=some q/\K q.1 q.2=some out:=by
 unfold ZIO at k;unfold ZB2;split at k
 ·rename_i j;dsimp only;split at k
  ·rename_i T np v st e pre post hd;rw[hd];obtain⟨h1,k⟩:=Za k
   cases post with
   |nil=>exact⟨_,rfl,k⟩
   |cons _ _=>cases h1
  ·rename_i T v st e l hd;rw[hd];exact⟨_,rfl,k⟩
  ·cases k
 ·rename_i hne;refine⟨(d,[]), ?_,k⟩;cases d <;> first|rfl|exact absurd rfl (hne _)
def ZD0(h:yL TEnt):yL TD->(yL TD->yL Nat->yO O)->yO O
 |[],K=>K [] []
 |d::r,K=>ZIO h d λx l=>ZD0 h r λy m=>K (x::y) (l++m)
def ZvW(h:yL TEnt):yL TD->yO (yL TD×yL Nat)
 |[]=>some ([],[])
 |d::r=>match ZB2 h d,ZvW h r with
  |some q,some w=>some (q.1::w.1,q.2++w.2)
  |_,_=>none
theorem Ztu{h:yL TEnt}:∀{ds:yL TD}{K:yL TD->yL Nat->yO O},ZD0 h ds K=some out->∃q,ZvW h ds=some q/\K q.1 q.2=some out
 |[],K,k=>⟨_,rfl,k⟩
 |d::r,K,k=>by
  obtain⟨q,h1,k⟩:=ZDZ k;obtain⟨w,h2,k⟩:=Ztu k;exact⟨(q.1::w.1,q.2++w.2),by simp only[ZvW,h1,h2],k⟩
def Znr:TEnt->TEnt
 |.rowN T np v _ e a b=>.rowN T np v false e a b
 |.rowT t v _ e l=>.rowT t v false e l
 |e=>e
def ZeM(ids:yL Nat)(H:yL TEnt):yL TEnt:=(yu H.length).zipWith (λi e=>if ids.contains i then Znr e else e) H
def ZzV(t:Tmp)(a:yL TD)(h:yL TEnt)(K:Kh O):yO O:=
 match a[t]? with
 |some (.ref id [])=>match h[id]? with
  |some (.var (.agg ds) st)=>ZD0 h ds λx l=>K a ((ZeM l h).set id (.var (.agg x) st))
  |_=>none
 |_=>none
def ZzW(t:Tmp)(i:Nat)(a:yL TD)(h:yL TEnt)(K:Kh O):yO O:=
 match a[t]? with
 |some (.ref j [])=>match h[j]? with
  |some (.var (.agg ds) st)=>match ds[i]? with
   |some (.rv id v s 0 n)=>match h[id]? with
    |some (.rowT T w _ _ l)=>if(decide (v=w.length)&&(decide (s=T.size)&&decide (n=l.length)))=true then K a (h.set j (.var (.agg (ds.set i (.rw id))) st)) else none
    |_=>none
   |_=>none
  |_=>none
 |_=>none
def ZvX(t:Tmp)(a:yL TD)(h:yL TEnt)(K:Kh O):yO O:=
 match a[t]? with
 |some (.rv id v s 0 n)=>match h[id]? with
  |some (.rowT T w _ _ l)=>if(decide (v=w.length)&&(decide (s=T.size)&&decide (n=l.length)))=true then K (a.set t (.rw id)) h else none
  |_=>none
 |_=>none
def ZIP(t:Tmp)(i:Nat)(T:Ty)(a:yL TD)(h:yL TEnt)(K:Kh O):yO O:=
 match a[t]? with
 |some (.ref j [])=>match h[j]? with
  |some (.var (.agg ds) st)=>match ds[i]? with
   |some (.p x)=>(TP.to Zpv x T).bind λy=>K a (h.set j (.var (.agg (ds.set i (.p (.v T y)))) st))
   |_=>none
  |_=>none
 |_=>none
def ZD1(t:Tmp)(a:yL TD)(h:yL TEnt)(K:Kh O):yO O:=
 match a[t]? with
 |some (.ref j [])=>match h[j]? with
  |some (.var (.p (.arr n s xs)) st)=>K a (h.set j (.var (.arr n s (xs.map TD.p)) st))
  |_=>K a h
 |_=>K a h
def ZzX(z:Int)(t:Tmp)(a:yL TD)(h:yL TEnt)(K:Kh O):yL Nat->yO O
 |[]=>none
 |n::r=>if(z==(n:Int))=true then K (a.set t (.p (.v (.int .i64) (n:Int)))) h else ZzX z t a h K r
def ZzY(t:Tmp)(ks:yL Nat)(a:yL TD)(h:yL TEnt)(K:Kh O):yO O:=
 match a.getD t .junk with
 |.p (.v (.int .i64) z)=>ZzX z t a h K ks
 |_=>none
def ZMX(t:Tmp)(a:yL TD)(h:yL TEnt)(K:Kh O):yO O:=
 match a.getD t .junk with
 |.ref _ _=>K a h
 |_=>none
def ghT:GOp->yL TD->yL TEnt->Kh O->yO O
 |.rowt t yS T e,a,h,K=>ZDY t yS T e a h K
 |.freshS t,a,h,K=>ZvX t a h K
 |.freshDone t i,a,h,K=>ZzW t i a h λa h=>ZzV t a h K
 |.any t i T,a,h,K=>ZIP t i T a h K
 |.melt t,a,h,K=>ZD1 t a h K
 |.split t ks,a,h,K=>ZzY t ks a h K
 |.nn t,a,h,K=>ZMX t a h K
def ghO(g:yO GOp)(a:yL TD)(h:yL TEnt)(K:Kh O):yO O:=
 match g with
 |none=>K a h
 |some g=>ghT g a h K
theorem ZK7{H:yL TEnt}{e:TEnt}(h:H.all (TEnt.free H.length)=true):erH (H++[e])=erH H++[e.er (lk (H++[e]))]:=by
 unfold erH;rw[ybb];congr 1;refine yct λx hx=> ?_;have hf:=ybj.1 h x hx;exact(ZBR (λid t hn=>Zfs id t hn) x hf).symm
theorem ZK8{H:yL TEnt}{e:TEnt}{a:yL TD}(h:TD.frees H.length a=true):TD.ers (lk (H++[e])) a=TD.ers (lk H) a:=(ers_free (λid t hn=>Zfs id t hn) a h).symm
theorem ZB3{t:Tmp}{yS:yL Nat}{T:Ty}{e:yc}{a:yL TD}{h:yL TEnt}{K:Kh O}(k:ZDY t yS T e a h K=some out):
 ∃a' h',K a' h'=some out/\a'.length=a.length/\Q4 (erH h) (erH h')/\∀(σ:Sg)(act:Act),RepT σ (TD.ers (lk h) a) act->RepT σ (TD.ers (lk h') a') act:=by
 unfold ZDY at k;split at k
 ·rename_i id hid;split at k
  ·rename_i d hd;obtain⟨d',h1,k⟩:=yf.1 k;obtain⟨h2,k⟩:=Za k;rw[yi] at h2;have hlt:id < h.length:=(yq.1 hd).1;have hd':(h++[TEnt.rowT T [] true e []])[id]? =some (.var d true):=by rw[yao hlt];exact hd
   have hL:lk ((h++[TEnt.rowT T [] true e []]).set id (.var d' true))=lk (h++[TEnt.rowT T [] true e []]):=ZeL hd' rfl rfl;refine⟨_,_,k,rfl, ?_,λσ act r=> ?_⟩
   ·have e1:erH ((h++[TEnt.rowT T [] true e []]).set id (.var d' true))=(erH h++[Ent.row 0 T.size true e (.p (.arr 0 T.size []))]).set id (.var (d'.er (lk (h++[TEnt.rowT T [] true e []]))) true):=by
     rw[ZaJ hL,ZK7 h2.2];rfl
    rw[e1];have hj:(erH h)[id]? =some (.var (d.er (lk h)) true):=by rw[Xs hd];rfl
    refine ZK5 (yS:=yS) hj ?_;have e2:=ZoF (L:=lk (h++[TEnt.rowT T [] true e []])) yS d d' h1;have e3:d.er (lk (h++[TEnt.rowT T [] true e []]))=d.er (lk h):=(Zhb (λid t hn=>Zfs id t hn) d (ybj.1 h2.2 _ (List.mem_of_getElem? hd))).symm;rw[e3,(Zjt (T:=T) (v:=[]) (l:=[]) (List.getElem?_concat_length ..)).1] at e2;rw[Yb];exact e2
   ·rw[hL,ZK8 h2.1];exact r
  ·cases k
 ·cases k
theorem ZIQ(e:TEnt):lkE (some (Znr e))=lkE (some e):=by cases e <;> rfl
theorem ZlB(ids:yL Nat)(H:yL TEnt)(i:Nat):(ZeM ids H)[i]? =(H[i]?).map λe=>if ids.contains i then Znr e else e:=by
 unfold ZeM;rw[List.getElem?_zipWith];rcases ycb i H.length with h|h
 ·rw[List.getElem?_range h,yab h];rfl
 ·rw[yap (by simpa using h),yap h];rfl
theorem Zyi(ids:yL Nat)(H:yL TEnt):lk (ZeM ids H)=lk H:=by
 funext i;unfold lk;rw[ZlB]
 cases H[i]? with
 |none=>rfl
 |some e=>
  show lkE (some (if ids.contains i=true then Znr e else e))=_
  split
  ·exact ZIQ e
  ·rfl
theorem ZGY(ids:yL Nat)(H:yL TEnt):WkH (erH H) (erH (ZeM ids H)):=by
 refine ZDX (by rw[Yb,Yb];unfold ZeM;simp) λi a b h1 h2=> ?_;unfold erH at h1 h2;rw[yan] at h1 h2;rw[Zyi,ZlB] at h2
 cases he:H[i]? with
 |none=>rw[he] at h1;cases h1
 |some e=>
  rw[he] at h1 h2;cases h1;cases h2;show WkE (e.er (lk H)) (TEnt.er (lk H) (if ids.contains i=true then Znr e else e))
  split
  ·cases e <;> first|exact .refl _|exact .lock
  ·exact .refl _
theorem ZIR{h H:yL TEnt}{d:TD}{q:TD×yL Nat}(hq:ZB2 h d=some q)(hL:lk H=lk h)(hl:∀j,j∈q.2->∀e,h[j]? =some e->H[j]? =some (Znr e)):
 (q.1.er (lk H)).size=(d.er (lk H)).size/\∀σ:Sg,Ok σ->σ.H=erH H->∀us,yJ σ (d.er (lk H)) us->yJ σ (q.1.er (lk H)) us:=by
 have zO:∀x:TD,(q.1.er (lk H)).size=(q.1.er (lk H)).size/\∀σ:Sg,Ok σ->σ.H=erH H->∀us,yJ σ (q.1.er (lk H)) us->yJ σ (q.1.er (lk H)) us:=λ_=>⟨rfl,λ_ _ _ _ r=>r⟩
 have row:∀(j:Nat)(v:Nat)(s:Nat)(e:yc)(xs:yL Pl)(T:Ty)(l:yL T.den),(TD.rw j).er (lk H)=.rv j v s 0 xs.length->(erH H)[j]? =some (.row v s false e (.p (.arr xs.length s xs)))->s=T.size->xs=l.map T.enc->
  ((TD.p (.sl none T l)).er (lk H)).size=((TD.rw j).er (lk H)).size/\∀σ:Sg,Ok σ->σ.H=erH H->∀us,yJ σ ((TD.rw j).er (lk H)) us->yJ σ ((TD.p (.sl none T l)).er (lk H)) us:=by
  intro j v s e xs T l e1 e2 e3 e4;subst e3;rw[e1];refine⟨rfl,λσ ok hH us r=> ?_⟩;have dr:=DeepR.rvp (H:=σ.H) (lo:=0) (n:=xs.length) (by rw[hH];exact e2) (by omega);rw[List.drop_zero,yat] at dr;have:=Zvx ok dr us r;rw[TD.er,TP.pe, <-e4];simpa[yJ] using this
 unfold ZB2 at hq;split at hq
 ·rename_i j;split at hq
  ·rename_i T np v st e pre hd;cases hq;have hH:=hl j (yay ..) _ hd;have hr:=ZKT (q:=(v.length,T.size,pre.length+0)) (x:=Znr (.rowN T np v st e pre [])) hH rfl;refine row j v.length T.size e (pre.map T.enc) T pre (by rw[hr.1,yac];rfl) ?_ rfl rfl;rw[Xs hH,yac];simp only[Znr,TEnt.er,List.map_nil,ybd,List.length_nil,yce]
  ·rename_i T v st e l hd;cases hq;have hH:=hl j (yay ..) _ hd;have hr:=Zjt (T:=T) (v:=v) (st:=false) (e:=e) (l:=l) hH;refine row j v.length T.size e (l.map T.enc) T l (by rw[hr.1,yac]) ?_ rfl rfl;rw[Xs hH,yac];rfl
  ·cases hq
 ·cases hq;exact zO d
theorem Zyj{h H:yL TEnt}:∀{ds:yL TD}{q:yL TD×yL Nat},ZvW h ds=some q->lk H=lk h->(∀j,j∈q.2->∀e,h[j]? =some e->H[j]? =some (Znr e))->
 Dv.sizes (TD.ers (lk H) q.1)=Dv.sizes (TD.ers (lk H) ds)/\∀σ:Sg,Ok σ->σ.H=erH H->∀us,repDs σ (TD.ers (lk H) ds) us->repDs σ (TD.ers (lk H) q.1) us
 |[],q,hq,hL,hl=>by cases hq;exact⟨rfl,λ_ _ _ _ r=>r⟩
 |d::r,q,hq,hL,hl=>by
  simp only[ZvW] at hq;split at hq
  ·rename_i q1 q2 h1 h2;cases hq;obtain⟨a1,a2⟩:=ZIR h1 hL (λj hj=>hl j (List.mem_append_left _ hj));obtain⟨b1,b2⟩:=Zyj h2 hL (λj hj=>hl j (List.mem_append_right _ hj));refine⟨by simp only[TD.ers,Dv.sizes];rw[a1,b1],λσ ok hH us rr=> ?_⟩;simp only[TD.ers,repDs] at rr ⊢;obtain⟨u1,u2,e1,e2,e3⟩:=rr;exact⟨u1,u2,e1,a2 σ ok hH _ e2,b2 σ ok hH _ e3⟩
  ·cases hq
theorem ZB4{t:Tmp}{a:yL TD}{h:yL TEnt}{K:Kh O}(k:ZzV t a h K=some out):
 ∃a' h',K a' h'=some out/\a'.length=a.length/\Q4 (erH h) (erH h')/\∀(σ:Sg)(act:Act),RepT σ (TD.ers (lk h) a) act->RepT σ (TD.ers (lk h') a') act:=by
 unfold ZzV at k;split at k
 ·rename_i id hid;split at k
  ·rename_i ds st hd;obtain⟨q,h1,k⟩:=Ztu k
   have hd2:(ZeM q.2 h)[id]? =some (.var (.agg ds) st):=by
    rw[ZlB,hd];show some (if q.2.contains id=true then Znr (.var (.agg ds) st) else .var (.agg ds) st)=_
    split <;> rfl
   have hL0:lk (ZeM q.2 h)=lk h:=Zyi _ _;have hL:lk ((ZeM q.2 h).set id (.var (.agg q.1) st))=lk (ZeM q.2 h):=ZeL hd2 rfl rfl;refine⟨_,_,k,rfl,(ZIN (ZGY q.2 h)).trans ?_,λσ act rr=>by rw[hL,hL0];exact rr⟩;rw[ZaJ hL];have hj:(erH (ZeM q.2 h))[id]? =some (.var (.agg (TD.ers (lk (ZeM q.2 h)) ds)) st):=by rw[Xs hd2];rfl
   obtain⟨c1,c2⟩:=Zyj (H:=ZeM q.2 h) h1 hL0 (λj hj e he=>by
    rw[ZlB,he];show some (if q.2.contains j=true then Znr e else e)=_
    rw[yW (by simpa using hj)])
   refine ZK6 hj ?_ λσ ok hH us r=> ?_
   ·exact c1
   ·simp only[TD.er,yJ] at r ⊢;exact c2 σ ok hH us r
  ·cases k
 ·cases k
theorem ZB5{L:Lk}{ds:yL TD}{i:Nat}{x y:TD}(h:ds[i]? =some x)(e:y.er L=x.er L):TD.ers L (ds.set i y)=TD.ers L ds:=by
 rw[ZW,ZW,ybv,e];apply ybs;intro k;by_cases hk:i=k
 ·subst hk;rw[ycx (by rw[yac];exact(yq.1 h).1),yan,h];rfl
 ·rw[List.getElem?_set_ne hk]
theorem ZzZ{t:Tmp}{i:Nat}{a:yL TD}{h:yL TEnt}{K:Kh O}(k:ZzW t i a h K=some out):
 ∃a' h',K a' h'=some out/\a'.length=a.length/\Q4 (erH h) (erH h')/\∀(σ:Sg)(act:Act),RepT σ (TD.ers (lk h) a) act->RepT σ (TD.ers (lk h') a') act:=by
 unfold ZzW at k;split at k
 ·rename_i j hj;split at k
  ·rename_i ds st hd;split at k
   ·rename_i id v s n hi;split at k
    ·rename_i T w st' e l hr;obtain⟨c,k2⟩:=Za k;clear k;rw[yi,yi,yP,yP,yP] at c;obtain⟨rfl,rfl,rfl⟩:=c;have hL:lk (h.set j (.var (.agg (ds.set i (.rw id))) st))=lk h:=ZeL hd rfl rfl
     have he:(TD.rw id).er (lk h)=(TD.rv id w.length T.size 0 l.length).er (lk h):=by
      refine(ZzS (v:=w) (s:=T.size) (N:=l.length) ?_).1;unfold Yy lk;dsimp only;rw[hr];rfl
     refine⟨_,_,k2,rfl, ?_,λσ act rr=>by rw[hL];exact rr⟩
     have e2:erH (h.set j (.var (.agg (ds.set i (.rw id))) st))=erH h:=by
      rw[ZaJ hL];show(erH h).set j (.var (.agg (TD.ers (lk h) (ds.set i (.rw id)))) st)=erH h;rw[ZB5 hi he];apply ybs;intro q;by_cases hq:j=q
      ·subst hq;have hjl:(erH h)[j]? =some (.var (.agg (TD.ers (lk h) ds)) st):=by rw[Xs hd];rfl
       rw[ycx (yq.1 hjl).1,hjl]
      ·rw[List.getElem?_set_ne hq]
     rw[e2];exact Q4.refl _
    ·cases k
   ·cases k
  ·cases k
 ·cases k
theorem ZIS{h:yL TEnt}{id:Nat}{T:Ty}{w:yL Unit}{st:Bool}{e:yc}{l:yL T.den}(hr:h[id]? =some (.rowT T w st e l)):(TD.rw id).er (lk h)=(TD.rv id w.length T.size 0 l.length).er (lk h):=by
 refine(ZzS (v:=w) (s:=T.size) (N:=l.length) ?_).1;unfold Yy lk;dsimp only;rw[hr];rfl
theorem Zxj{t:Tmp}{a:yL TD}{h:yL TEnt}{K:Kh O}(k:ZvX t a h K=some out):
 ∃a' h',K a' h'=some out/\a'.length=a.length/\Q4 (erH h) (erH h')/\∀(σ:Sg)(act:Act),RepT σ (TD.ers (lk h) a) act->RepT σ (TD.ers (lk h') a') act:=by
 unfold ZvX at k;split at k
 ·rename_i id v s n hi;split at k
  ·rename_i T w st' e l hr;obtain⟨c,k2⟩:=Za k;clear k;rw[yi,yi,yP,yP,yP] at c;obtain⟨rfl,rfl,rfl⟩:=c;exact⟨_,_,k2,ybn,Q4.refl _,λσ act rr=>by rw[ZB5 hi (ZIS hr)];exact rr⟩
  ·cases k
 ·cases k
theorem ZFr:∀{l:yL Dv}{i:Nat}{d e:Dv},l[i]? =some d->Wk d e->WkL l (l.set i e)
 |[],_,_,_,h,_=>by simp at h
 |x::r,0,d,e,h,k=>by
  simp only[yau,yp] at h;subst h
  exact .cons k (WkL.refl r)
 |x::r,i+1,d,e,h,k=>by
  simp only[yaq] at h;exact .cons (Wk.refl x) (ZFr h k)
theorem ZIT{L:Lk}:∀{ds:yL TD}{i:Nat}{d e:TD},ds[i]? =some d->(TD.ers L ds)[i]? =some (d.er L)/\TD.ers L (ds.set i e)=(TD.ers L ds).set i (e.er L)
 |[],_,_,_,h=>by simp at h
 |x::r,0,d,e,h=>by
  simp only[yau,yp] at h;subst h
  exact⟨rfl,rfl⟩
 |x::r,i+1,d,e,h=>by
  simp only[yaq] at h;obtain⟨h1,h2⟩:=ZIT (e:=e) h;exact⟨h1,by show x.er L::TD.ers L (r.set i e)=_;rw[h2];rfl⟩
theorem ZD2{t:Tmp}{i:Nat}{T:Ty}{a:yL TD}{h:yL TEnt}{K:Kh O}(k:ZIP t i T a h K=some out):
 ∃a' h',K a' h'=some out/\a'.length=a.length/\Q4 (erH h) (erH h')/\∀(σ:Sg)(act:Act),RepT σ (TD.ers (lk h) a) act->RepT σ (TD.ers (lk h') a') act:=by
 unfold ZIP at k;split at k
 ·rename_i j hj;split at k
  ·rename_i ds st hd;split at k
   ·rename_i x hx;obtain⟨y,h1,k⟩:=yf.1 k;have hL:lk (h.set j (.var (.agg (ds.set i (.p (.v T y)))) st))=lk h:=ZeL hd rfl rfl;refine⟨_,_,k,rfl, ?_,λσ act rr=>by rw[hL];exact rr⟩;rw[ZaJ hL];have hjl:(erH h)[j]? =some (.var (.agg (TD.ers (lk h) ds)) st):=by rw[Xs hd];rfl
    obtain⟨e1,e2⟩:=ZIT (L:=lk h) (e:=.p (.v T y)) hx;refine ZIN (WkH.set_at hjl (WkE.var ?_));show Wk (.agg (TD.ers (lk h) ds)) (.agg (TD.ers (lk h) (ds.set i (.p (.v T y)))));rw[e2];exact WkL.agg (ZFr e1 (Wk.p (ZBu h1)))
   ·cases k
  ·cases k
 ·cases k
theorem Wk.melt{n s:Nat}{xs:yL Pl}:Wk (.p (.arr n s xs)) (.arr n s (xs.map Dv.p)):=⟨rfl,rfl,λσ vs r=>by
 simp only[yJ,repC] at r ⊢;exact⟨by rw[yac];exact r.1,λx hx=>by obtain⟨y,hy,rfl⟩:=List.mem_map.1 hx;exact r.2.1 y hy,Zlk.2 r.2.2⟩⟩
theorem ZB6{t:Tmp}{a:yL TD}{h:yL TEnt}{K:Kh O}(k:ZD1 t a h K=some out):
 ∃a' h',K a' h'=some out/\a'.length=a.length/\Q4 (erH h) (erH h')/\∀(σ:Sg)(act:Act),RepT σ (TD.ers (lk h) a) act->RepT σ (TD.ers (lk h') a') act:=by
 unfold ZD1 at k;split at k
 ·rename_i j hj;split at k
  ·rename_i n s xs st hd;have hL:lk (h.set j (.var (.arr n s (xs.map TD.p)) st))=lk h:=ZeL hd rfl rfl;refine⟨_,_,k,rfl, ?_,λσ act rr=>by rw[hL];exact rr⟩;rw[ZaJ hL];have hjl:(erH h)[j]? =some (.var (.p (.arr n s (TP.pes xs))) st):=by rw[Xs hd];rfl
   refine ZIN (WkH.set_at hjl (WkE.var ?_));show Wk (.p (.arr n s (TP.pes xs))) (.arr n s (TD.ers (lk h) (xs.map TD.p)))
   have e:TD.ers (lk h) (xs.map TD.p)=(TP.pes xs).map Dv.p:=by
    rw[ZW,Ze8,ybi,ybi];rfl
   rw[e];exact Wk.melt
  ·exact⟨_,_,k,rfl,Q4.refl _,λ_ _ r=>r⟩
 ·exact⟨_,_,k,rfl,Q4.refl _,λ_ _ r=>r⟩
theorem Ztv{z:Int}{t:Tmp}{a:yL TD}{h:yL TEnt}{K:Kh O}(ha:a.getD t .junk=.p (.v (.int .i64) z)):∀{ks:yL Nat},ZzX z t a h K ks=some out->K a h=some out
 |[],k=>by cases k
 |n::r,k=>by
  unfold ZzX at k;split at k
  ·rename_i e;have e:z=(n:Int):=by simpa using e
   rw[set_same (by rw[ha,e])] at k;exact k
  ·exact Ztv ha k
theorem Zz0{t:Tmp}{ks:yL Nat}{a:yL TD}{h:yL TEnt}{K:Kh O}(k:ZzY t ks a h K=some out):
 ∃a' h',K a' h'=some out/\a'.length=a.length/\Q4 (erH h) (erH h')/\∀(σ:Sg)(act:Act),RepT σ (TD.ers (lk h) a) act->RepT σ (TD.ers (lk h') a') act:=by
 unfold ZzY at k;split at k
 ·rename_i z hz;exact⟨_,_,Ztv hz k,rfl,Q4.refl _,λ_ _ r=>r⟩
 ·cases k
theorem ZIU{g:yO GOp}{a:yL TD}{h:yL TEnt}{K:Kh O}(k:ghO g a h K=some out):
 ∃a' h',K a' h'=some out/\a'.length=a.length/\Q4 (erH h) (erH h')/\∀(σ:Sg)(act:Act),RepT σ (TD.ers (lk h) a) act->RepT σ (TD.ers (lk h') a') act:=by
 unfold ghO at k;split at k
 ·exact⟨_,_,k,rfl,Q4.refl _,λ_ _ r=>r⟩
 ·rename_i g
  cases g with
  |rowt t yS T e=>exact ZB3 k
  |freshS t=>exact Zxj k
  |freshDone t i=>
   obtain⟨a1,h1,k,l1,g1,r1⟩:=ZzZ (K:=λa h=>ZzV t a h K) k;obtain⟨a2,h2,k,l2,g2,r2⟩:=ZB4 k
   exact⟨a2,h2,k,l2.trans l1,g1.trans g2,λσ act r=>r2 σ act (r1 σ act r)⟩
  |any t i T=>exact ZD2 k
  |melt t=>exact ZB6 k
  |split t ks=>exact Zz0 k
  |nn t=>
   replace k:ZMX t a h K=some out:=k
   unfold ZMX at k;split at k
   ·exact⟨_,_,k,rfl,Q4.refl _,λ_ _ r=>r⟩
   ·cases k
end
end Go.Ev
end
section
namespace Go.Ev
section
variable{P:yg}
theorem ZB7{x y:Code}{ts ts1 ts2:yL Dv}{H H1 H2:yL Ent}{ex:Ex}(r1:VO P x ts H .normal ts1 H1)(r2:VO P y ts1 H1 ex ts2 H2):VO P (.seq x y) ts H ex ts2 H2:=by
 intro σ a ok hH yR;refine wp_seq (wp_mono (r1 σ a ok hH yR) ?_);rintro e a' w' ⟨rfl,σ1,rfl,e1,to1,ok1,hrep1⟩;refine wp_mono (r2 σ1 a' ok1 e1 hrep1) ?_;rintro e a'' w'' ⟨rfl,σ2,rfl,e2,to2,ok2,hrep2⟩;exact⟨rfl,σ2,rfl,e2,to1.trans to2,ok2,hrep2⟩
theorem Zyk{x y:Code}{ts ts1:yL Dv}{H H1:yL Ent}{ex:Ex}(hne:ex≠ .normal)(r1:VO P x ts H ex ts1 H1):VO P (.seq x y) ts H ex ts1 H1:=by
 intro σ a ok hH yR;refine wp_seq (wp_mono (r1 σ a ok hH yR) ?_);rintro e a' w' ⟨rfl,hq⟩
 cases ex with
 |normal=>exact absurd rfl hne
 |exit id=>exact⟨rfl,hq⟩
 |ret=>exact⟨rfl,hq⟩
theorem ZoM{c:yo}{x y:Code}{ts ts1:yL Dv}{H H1:yL Ent}{ex:Ex}{b:Bool}(hc:ZS P ts 0 c=.p (.bool b))(r1:VO P (if b then x else y) ts H ex ts1 H1):VO P (.cond c x y) ts H ex ts1 H1:=by
 intro σ a ok hH yR;have hv:=Zs (P:=P) yR 0 c;rw[hc] at hv;cases b
 ·exact wp_cond_false (Xm hv) (r1 σ a ok hH yR)
 ·exact wp_cond_true (Xm hv) (r1 σ a ok hH yR)
def Zz1(id:Nat):Ex->Ex
 |.exit i=>if i=id then .normal else .exit i
 |ex=>ex
theorem ZD3{id:Nat}{body:Code}{ts ts1:yL Dv}{H H1:yL Ent}{ex:Ex}(r1:VO P body ts H ex ts1 H1):VO P (.block id body) ts H (Zz1 id ex) ts1 H1:=by
 intro σ a ok hH yR;refine wp_block (wp_mono (r1 σ a ok hH yR) ?_);rintro e a' w' ⟨rfl,hq⟩
 cases ex with
 |normal=>exact⟨rfl,hq⟩
 |exit id'=>
  simp only[Ex.to,Exit.inBlock,Zz1];split
  ·exact⟨rfl,hq⟩
  ·exact⟨rfl,hq⟩
 |ret=>exact⟨rfl,hq⟩
theorem ZD4{body:Code}{ts ts1:yL Dv}{H H1:yL Ent}{ex:Ex}(r1:VO P body ts H ex ts1 H1):VO P (.scope body) ts H ex ts1 H1:=by
 intro σ a ok hH yR;refine wp_scope_straight (wp_mono (r1 σ a ok hH yR) ?_);rintro e a' w' ⟨rfl,hq⟩;cases ex <;> exact⟨rfl,hq⟩
theorem ZGZ{ts:yL Dv}{H:yL Ent}:VO P .skip ts H .normal ts H:=λσ a ok hH yR=>wp_skip ⟨rfl,σ,rfl,hH,To.refl σ,ok,yR⟩
theorem ZD5{n:Nat}{ts:yL Dv}{H:yL Ent}:VO P (.label n) ts H .normal ts H:=λσ a ok hH yR=>wp_label ⟨rfl,σ,rfl,hH,To.refl σ,ok,yR⟩
theorem ZG0{n:Nat}{ts:yL Dv}{H:yL Ent}:VO P (.exit n) ts H (.exit n) ts H:=λσ a ok hH yR=>wp_exit ⟨rfl,σ,rfl,hH,To.refl σ,ok,yR⟩
theorem ZIV{ts:yL Dv}{H:yL Ent}:VO P .ret ts H .ret ts H:=λσ a ok hH yR=>wp_ret ⟨rfl,σ,rfl,hH,To.refl σ,ok,yR⟩
theorem ZG1{c:Code}{ts ts1:yL Dv}{H H1:yL Ent}{ex:Ex}(keep:yL Nat)(r:VO P c ts H ex ts1 H1):VO P c ts H ex (ZY keep 0 ts1) H1:=by
 intro σ a ok hH yR;refine wp_mono (r σ a ok hH yR) ?_;rintro e a' w' ⟨rfl,σ1,rfl,e1,to1,ok1,hrep1⟩;exact⟨rfl,σ1,rfl,e1,to1,ok1,Zc8 keep hrep1⟩
def ZB8(n0:Nat)(sl:Slots)(es:yL ESh)(a:yL TD)(h:yL TEnt):yO (yL TV):=
 if once (yu n0++[]) then(VA h (yu n0++[]) (yu n0++[])).bind λh2=>(TD.rns (toIds (yu n0++[])) (Zms (sl.map (·.1)) 0 a)).bind λa2=>
  (Sh.mts (lk h2) (shs sl a.length) a2).bind λq=>(ESh.mts (lk h2) es h2).bind λw=>some (q.2++w.2)
 else none
theorem ZD6{n0:Nat}{sl:Slots}{es:yL ESh}{a:yL TD}{h:yL TEnt}{vs:yL TV}(k:ZB8 n0 sl es a h=some vs):
 ∃a3 h3,Zas a.length sl es vs=some (a3,h3)/\∀{c:Code}{ts:yL Dv}{H:yL Ent}{ex:Ex},H.length=n0->VO P c ts H ex (TD.ers (lk h) a) (erH h)->VO P c ts H ex (TD.ers (lk h3) a3) (erH h3):=by
 unfold ZB8 at k;split at k
 ·rename_i ho;obtain⟨h2,h1,k⟩:=yf.1 k;obtain⟨a2,e2,k⟩:=yf.1 k;obtain⟨q,e3,k⟩:=yf.1 k;obtain⟨w,e4,k⟩:=yf.1 k;cases k;obtain⟨g1,g2⟩:=ZkI e4;have hc:∀id t,Yy (lk h2) id t none=Yy (lk w.1) id t none:=λid t=>by rw[g2]
  refine⟨q.1,w.1, ?_,λ{c ts H ex}hl r=> ?_⟩
  ·unfold Zas;rw[mts_fills _ _ _ e3];have:=ZcA e4 [];rw[ybd] at this;rw[ya,this];rfl
  ·have r1:=ZG1 (sl.map (·.1)) r;rw[<-Zq9] at r1;have r2:=ZGI [] [] r1 (by rw[hl];exact ho) (by rw[hl];exact Vq (Zca h1) h1) (by rw[hl];exact rns_er (Zca h1) _ _ e2);exact Zx4 r2 (mts_wk hc _ _ _ e3) (ZoJ hc e4)
 ·cases k
theorem ZD7{n0:Nat}{sl:Slots}{es:yL ESh}{a:yL TD}{h:yL TEnt}{vs:yL TV}(hn:h.length=n0)(k:ZB8 n0 sl es a h=some vs):
 ∃a3 h3,Zas a.length sl es vs=some (a3,h3)/\∀(σ:Sg)(act:Act),Ok σ->σ.H=erH h->RepT σ (TD.ers (lk h) a) act->∃σ':Sg,σ'.w=σ.w/\σ'.H=erH h3/\To σ σ'/\Ok σ'/\RepT σ' (TD.ers (lk h3) a3) act:=by
 subst hn;unfold ZB8 at k;split at k
 ·rename_i ho;obtain⟨h2,h1,k⟩:=yf.1 k;obtain⟨a2,e2,k⟩:=yf.1 k;obtain⟨q,e3,k⟩:=yf.1 k;obtain⟨w,e4,k⟩:=yf.1 k;cases k;obtain⟨g1,g2⟩:=ZkI e4;have hc:∀id t,Yy (lk h2) id t none=Yy (lk w.1) id t none:=λid t=>by rw[g2]
  refine⟨q.1,w.1, ?_,λσ act ok hH yR=> ?_⟩
  ·unfold Zas;rw[mts_fills _ _ _ e3];have:=ZcA e4 [];rw[ybd] at this;rw[ya,this];rfl
  ·have r1:=Zc8 (sl.map (·.1)) yR;rw[<-Zq9] at r1
   have hin:subEnts σ.H (yu σ.H.length++[]) (yu σ.H.length++[])=some (erH h2):=by
    rw[hH,Yb];exact Vq (Zca h1) h1
   have ho':once (yu σ.H.length++[])=true:=by rw[hH,Yb];exact ho
   have e2':Dv.rns (toIds (yu σ.H.length++[])) (TD.ers (lk h) (Zms (sl.map (·.1)) 0 a))=some (TD.ers (lk h2) a2):=by
    rw[hH,Yb];exact rns_er (Zca h1) _ _ e2
   have r2:=ZBm (Zlt hin) e2' r1;have to1:=Zux ok (To.refl σ) ho' hin;have ok1:=Zuw ok ho' hin;obtain⟨to2,ok2⟩:=ZqK (σ:=Zpt σ (yu σ.H.length++[]) (erH h2)) ok1 (H':=erH w.1) (ZoJ hc e4);exact⟨{ Zpt σ (yu σ.H.length++[]) (erH h2) with H:=erH w.1},rfl,rfl,to1.trans to2,ok2,(mts_wk hc _ _ _ e3).repT (r2.to to2.leaf)⟩
 ·cases k
def ZMY(L:Lk):ESh->TEnt->yO TEnt
 |.rowN _ _ _ _,.rowM u np v st e pre mid post=>(ZMN L u mid).map λy=>.rowN u np v st e (pre++[y]) post
 |_,x=>some x
def ZIW(L:Lk):yL ESh->yL TEnt->yO (yL TEnt)
 |[],h=>some h
 |_::_,[]=>some []
 |s::r,x::h=>match ZMY L s x,ZIW L r h with
  |some y,some ys=>some (y::ys)
  |_,_=>none
theorem ZK9{L:Lk}{s:ESh}{x y:TEnt}(h:ZMY L s x=some y):lkE (some y)=lkE (some x)/\WkE (x.er L) (y.er L):=by
 unfold ZMY at h;split at h
 ·rename_i u np v st e pre mid post;obtain⟨c,h1,rfl⟩:=Zd h;refine⟨?_,ZFg (ZFd h1)⟩;simp only[lkE,yl,yai,List.length_nil];rw[yci,Nat.add_comm (0+1)]
 ·cases h;exact⟨rfl,.refl _⟩
theorem ZFs{L:Lk}:∀{es:yL ESh}{h h':yL TEnt},ZIW L es h=some h'->h'.length=h.length/\(∀j:Nat,lkE (h'[j]?)=lkE (h[j]?))/\WkH (h.map (TEnt.er L)) (h'.map (TEnt.er L))
 |[],h,h',k=>by cases k;exact⟨rfl,λ_=>rfl,WkH.refl _⟩
 |_::_,[],h',k=>by cases k;exact⟨rfl,λ_=>rfl,WkH.refl _⟩
 |s::r,x::h,h',k=>by
  simp only[ZIW] at k;split at k
  ·rename_i y ys h1 h2;cases k;obtain⟨a1,a2⟩:=ZK9 h1;obtain⟨b1,b2,b3⟩:=ZFs h2;refine⟨by simp[b1],λj=> ?_,.cons a2 b3⟩
   cases j with
   |zero=>exact a1
   |succ j=>exact b2 j
  ·cases k
theorem ZFt{es:yL ESh}{h h':yL TEnt}(k:ZIW (lk h) es h=some h'):h'.length=h.length/\lk h'=lk h/\WkH (erH h) (erH h'):=by
 obtain⟨a,b,c⟩:=ZFs k;have e:lk h'=lk h:=funext b;refine⟨a,e, ?_⟩;unfold erH;rw[e];exact c
def Zz2(n0:Nat)(sl:Slots)(es:yL ESh)(a:yL TD)(h:yL TEnt):yO (yL TV):=(ZIW (lk h) es h).bind λh=>ZB8 n0 sl es a h
theorem Zsu{n0:Nat}{sl:Slots}{es:yL ESh}{a:yL TD}{h:yL TEnt}{vs:yL TV}(k:Zz2 n0 sl es a h=some vs):
 ∃a3 h3,Zas a.length sl es vs=some (a3,h3)/\∀{c:Code}{ts:yL Dv}{H:yL Ent}{ex:Ex},H.length=n0->VO P c ts H ex (TD.ers (lk h) a) (erH h)->VO P c ts H ex (TD.ers (lk h3) a3) (erH h3):=by
 obtain⟨h1,k1,k2⟩:=yf.1 k;obtain⟨e1,e2,e3⟩:=ZFt k1;obtain⟨a3,h3,g1,g2⟩:=ZD6 (P:=P) k2;refine⟨a3,h3,g1,λhl r=>g2 hl ?_⟩;rw[e2];exact Zx4 r (WkL.refl _) e3
theorem Zyl{n0:Nat}{sl:Slots}{es:yL ESh}{a:yL TD}{h:yL TEnt}{vs:yL TV}(hn:h.length=n0)(k:Zz2 n0 sl es a h=some vs):
 ∃a3 h3,Zas a.length sl es vs=some (a3,h3)/\∀(σ:Sg)(act:Act),Ok σ->σ.H=erH h->RepT σ (TD.ers (lk h) a) act->∃σ':Sg,σ'.w=σ.w/\σ'.H=erH h3/\To σ σ'/\Ok σ'/\RepT σ' (TD.ers (lk h3) a3) act:=by
 obtain⟨h1,k1,k2⟩:=yf.1 k;obtain⟨e1,e2,e3⟩:=ZFt k1;obtain⟨a3,h3,g1,g2⟩:=ZD7 (by rw[e1];exact hn) k2;refine⟨a3,h3,g1,λσ act ok hH hr=> ?_⟩;obtain⟨to,ok'⟩:=ZqK ok (H':=erH h1) (by rw[hH];exact e3);obtain⟨σ2,q1,q2,q3,q4,q5⟩:=g2 { σ with H:=erH h1} act ok' rfl (by rw[e2];exact hr.to to.leaf);exact⟨σ2,q1,q2,to.trans q3,q4,q5⟩
structure Lp where
 sl:Slots
 es:List ESh
 I:List Ty
 xs:List XSh
 L:Ty.dens I->Option (XSh.sum xs)
def Lp.Is(P:yg)(n:Nat)(c:Code)(lp:Lp):Prop:=
 ∀v o,lp.L v=some o->∀s,Zas n lp.sl lp.es (ofD lp.I v)=some s->∀e vs s',ZBT lp.xs o e vs->Zas n e.sl e.es vs=some s'->
  VO P c (TD.ers (lk s.2) s.1) (erH s.2) e.ex (TD.ers (lk s'.2) s'.1) (erH s'.2)
abbrev Lp.Ok(P:yg)(n:Nat)(body:Code)(lp:Lp):Prop:=lp.Is P n (.loop body)
structure FI where
 hi:HI:={}
 lp:List (Nat×Lp):=[]
 bk:List (Nat×Lp):=[]
 gh:List (Nat×GOp):=[]
 un:Nat:=0
def Code.nl:Code->Nat
 |.seq a b=>Code.nl a+Code.nl b
 |.cond _ a b=>Code.nl a+Code.nl b
 |.block _ a=>Code.nl a
 |.scope a=>Code.nl a
 |.loop a=>Code.nl a+1
 |_=>0
def Code.ns:Code->Nat
 |.seq a b=>Code.ns a+Code.ns b+1
 |.cond _ a b=>Code.ns a+Code.ns b
 |.block _ a=>Code.ns a
 |.scope a=>Code.ns a
 |.loop a=>Code.ns a
 |_=>0
theorem Zdd:∀c:Code,(ZJ c).length=Code.nl c
 |.seq a b=>by simp only[ZJ,yl,Zdd a,Zdd b,Code.nl]
 |.cond _ a b=>by simp only[ZJ,yl,Zdd a,Zdd b,Code.nl]
 |.block _ a=>by simp only[ZJ,Zdd a,Code.nl]
 |.scope a=>by simp only[ZJ,Zdd a,Code.nl]
 |.loop a=>by simp only[ZJ,yai,Zdd a,Code.nl]
 |.skip=>rfl
 |.region _ _ _=>rfl
 |.rangeFunc _ _ _ _=>rfl
 |.exit _=>rfl
 |.ret=>rfl
 |.label _=>rfl
 |.goto _=>rfl
 |.refuse _=>rfl
def ZuD{O:Type}(step:yL TD->yL TEnt->Kc O->yO O):Nat->yL TD->yL TEnt->Kc O->yO O
 |0,_,_,_=>none
 |k+1,a,h,K=>step a h λex a' h'=>match ex with
  |.normal=>ZuD step k a' h' K
  |ex=>K ex a' h'
theorem Ztw{O:Type}{body:Code}{N:Nat}{step:yL TD->yL TEnt->Kc O->yO O}
 (hs:∀(a:yL TD)(h:yL TEnt)(K:Kc O)(out:O),a.length=N->step a h K=some out->∃ex a' h',K ex a' h'=some out/\a'.length=N/\VO P body (TD.ers (lk h) a) (erH h) ex (TD.ers (lk h') a') (erH h')):
 ∀(k:Nat)(a:yL TD)(h:yL TEnt)(K:Kc O)(out:O),a.length=N->ZuD step k a h K=some out->∃ex a' h',K ex a' h'=some out/\a'.length=N/\ZxZ P body (TD.ers (lk h) a) (erH h) ex (TD.ers (lk h') a') (erH h')
 |0,_,_,_,_,_,k=>by cases k
 |n+1,a,h,K,out,hN,k=>by
  unfold ZuD at k;obtain⟨ex,a1,h1,k1,k2,k3⟩:=hs _ _ _ _ hN k;split at k1
  ·obtain⟨ex2,a2,h2,k4,k5,k6⟩:=Ztw hs n a1 h1 K out k2 k1;exact⟨ex2,a2,h2,k4,k5,Zx1 [] k3 k6⟩
  ·rename_i hne;exact⟨_,a1,h1,k1,k2,Zx0 hne k3⟩
def Zsv(m:Nat)(a:yL TD)(h:yL TEnt):yL (Nat×Lp)->yO (Σ bk:Lp,Ty.dens bk.I)
 |[]=>none
 |q::r=>if Nat.beq q.1 m=true then match (Zz2 h.length q.2.sl q.2.es a h).bind (toD q.2.I) with
   |some v=>some ⟨q.2,v⟩
   |none=>Zsv m a h r
  else Zsv m a h r
theorem Zju{m:Nat}{a:yL TD}{h:yL TEnt}{b:Σ bk:Lp,Ty.dens bk.I}:∀{l:yL (Nat×Lp)},Zsv m a h l=some b->(m,b.1)∈l/\∃vs,Zz2 h.length b.1.sl b.1.es a h=some vs/\toD b.1.I vs=some b.2
 |[],k=>by cases k
 |q::r,k=>by
  unfold Zsv at k;split at k
  ·rename_i hm;split at k
   ·rename_i v hv;cases k;have e:=Nat.eq_of_beq_eq_true hm;refine⟨?_,yf.1 hv⟩;rw[<-e];exact yay ..
   ·obtain⟨h1,h2⟩:=Zju k;exact⟨yba _ h1,h2⟩
  ·obtain⟨h1,h2⟩:=Zju k;exact⟨yba _ h1,h2⟩
def evT{O:Type}(P:yg)(fi:FI)(specs:Sp P):Code->Nat->Nat->yL TD->yL TEnt->Kc O->yO O
 |.skip,_,_,a,h,K=>K .normal a h
 |.label _,_,_,a,h,K=>K .normal a h
 |.region _ ops draw,_,_,a,h,K=>if draw=true then ZMV P fi.hi specs ops a h λa' h'=>K .normal a' h' else ZIH P fi.hi specs ops ops.toList a h λa' h' _=>K .normal a' h'
 |.seq x y,n,m,a,h,K=>ghO (fi.gh.lookup m) a h λa h=>match Zsv m a h fi.bk with
  |none=>evT P fi specs x n (m+1) a h λex a' h'=>match ex with
   |.normal=>evT P fi specs y (n+Code.nl x) (m+1+Code.ns x) a' h' K
   |ex=>K ex a' h'
  |some bk=>(bk.1.L bk.2).bind λo=>xT a.length bk.1.xs o λex a' h'=>match ex with
   |.normal=>evT P fi specs y (n+Code.nl x) (m+1+Code.ns x) a' h' K
   |ex=>K ex a' h'
 |.cond c x y,n,m,a,h,K=>((arT P a 0 c).bind TD.boolT).bind λb=>match c with
  |.tmp t=>if b=true then evT P fi specs x n m (a.set t (Zxi true)) h K else evT P fi specs y (n+Code.nl x) (m+Code.ns x) (a.set t (Zxi false)) h K
  |_=>if b=true then evT P fi specs x n m a h K else evT P fi specs y (n+Code.nl x) (m+Code.ns x) a h K
 |.block id body,n,m,a,h,K=>evT P fi specs body n m a h λex a' h'=>K (Zz1 id ex) a' h'
 |.loop body,n,m,a,h,K=>match Zsv n a h fi.lp with
  |some lp=>(lp.1.L lp.2).bind λo=>xT a.length lp.1.xs o K
  |none=>ZuD (λa h K=>evT P fi specs body (n+1) m a h K) fi.un a h K
 |.scope body,n,m,a,h,K=>evT P fi specs body n m a h K
 |.exit id,_,_,a,h,K=>K (.exit id) a h
 |.ret,_,_,a,h,K=>K .ret a h
 |_,_,_,_,_,_=>none
def VB:Code->yL Code
 |.seq a b=>a::(VB a++VB b)
 |.cond _ a b=>VB a++VB b
 |.block _ a=>VB a
 |.scope a=>VB a
 |.loop a=>VB a
 |_=>[]
theorem Zde:∀c:Code,(VB c).length=Code.ns c
 |.seq a b=>by simp only[VB,yai,yl,Zde a,Zde b,Code.ns]
 |.cond _ a b=>by simp only[VB,yl,Zde a,Zde b,Code.ns]
 |.block _ a=>by simp only[VB,Zde a,Code.ns]
 |.scope a=>by simp only[VB,Zde a,Code.ns]
 |.loop a=>by simp only[VB,Zde a,Code.ns]
 |.skip=>rfl
 |.region _ _ _=>rfl
 |.rangeFunc _ _ _ _=>rfl
 |.exit _=>rfl
 |.ret=>rfl
 |.label _=>rfl
 |.goto _=>rfl
 |.refuse _=>rfl
def Zmt(P:yg)(fi:FI)(N:Nat)(c:Code)(m:Nat):Prop:=∀(k:Nat)(x:Code),(VB c)[k]? =some x->∀bk,(m+k,bk)∈fi.bk->bk.Is P N x
theorem ZIX{fi:FI}{N:Nat}{x y c:Code}{m:Nat}(e:VB c=VB x++VB y)(h:Zmt P fi N c m):Zmt P fi N x m:=λk b hk=>h k b (by
 rw[e,yao (yq.1 hk).1];exact hk)
theorem ZG2{fi:FI}{N:Nat}{x y c:Code}{m:Nat}(e:VB c=VB x++VB y)(h:Zmt P fi N c m):Zmt P fi N y (m+Code.ns x):=λk b hk lp hl=>h (Code.ns x+k) b (by
 rw[e,yax (by rw[Zde];omega),Zde];rw[show Code.ns x+k - Code.ns x=k by omega];exact hk) lp (by rw[<-yci];exact hl)
theorem ZIY{fi:FI}{N:Nat}{x y:Code}{m:Nat}(h:Zmt P fi N (.seq x y) m):Zmt P fi N x (m+1):=λk b hk lp hl=>h (k+1) b (by
 rw[VB,yaq,yao (yq.1 hk).1];exact hk) lp (by rw[show m+(k+1)=m+1+k by omega];exact hl)
theorem ZB9{fi:FI}{N:Nat}{x y:Code}{m:Nat}(h:Zmt P fi N (.seq x y) m):Zmt P fi N y (m+1+Code.ns x):=λk b hk lp hl=>h (Code.ns x+k+1) b (by
 rw[VB,yaq,yax (by rw[Zde];omega),Zde];rw[show Code.ns x+k - Code.ns x=k by omega];exact hk) lp (by rw[show m+(Code.ns x+k+1)=m+1+Code.ns x+k by omega];exact hl)
def Zns(P:yg)(fi:FI)(N:Nat)(c:Code)(n:Nat):Prop:=∀(k:Nat)(b:Code),(ZJ c)[k]? =some (.loop b)->∀lp,(n+k,lp)∈fi.lp->lp.Ok P N b
theorem ZCa{fi:FI}{N:Nat}{x y c:Code}{n:Nat}(e:ZJ c=ZJ x++ZJ y)(h:Zns P fi N c n):Zns P fi N x n:=λk b hk=>h k b (by
 rw[e,yao (yq.1 hk).1];exact hk)
theorem Zym{fi:FI}{N:Nat}{x y c:Code}{n:Nat}(e:ZJ c=ZJ x++ZJ y)(h:Zns P fi N c n):Zns P fi N y (n+Code.nl x):=λk b hk lp hl=>h (Code.nl x+k) b (by
 rw[e,yax (by rw[Zdd];omega),Zdd];rw[show Code.nl x+k - Code.nl x=k by omega];exact hk) lp (by rw[<-yci];exact hl)
theorem VC{O:Type}{fi:FI}{specs:Sp P}{out:O}{N:Nat}(ok:SpOk specs):∀(c:Code)(n m:Nat)(a:yL TD)(h:yL TEnt)(K:Kc O),a.length=N->Zns P fi N c n->Zmt P fi N c m->evT P fi specs c n m a h K=some out->
 ∃ex a' h',K ex a' h'=some out/\a'.length=N/\VO P c (TD.ers (lk h) a) (erH h) ex (TD.ers (lk h') a') (erH h')
 |.skip,n,m,a,h,K,hN,hl,hb0,k=>⟨_,_,_,k,hN,ZGZ⟩
 |.label _,n,m,a,h,K,hN,hl,hb0,k=>⟨_,_,_,k,hN,ZD5⟩
 |.exit _,n,m,a,h,K,hN,hl,hb0,k=>⟨_,_,_,k,hN,ZG0⟩
 |.ret,n,m,a,h,K,hN,hl,hb0,k=>⟨_,_,_,k,hN,ZIV⟩
 |.region id ops draw,n,m,a,h,K,hN,hl,hb0,k=>by
  unfold evT at k
  cases draw with
  |true=>
   rw[yW rfl] at k;obtain⟨a',h',k1,k2,k3⟩:=ZGV ok k
   exact⟨_,_,_,k1,by rw[k2,hN],k3 id⟩
  |false=>
   rw[yX (by decide)] at k;obtain⟨a',h',hs,k1,k2,k3⟩:=ZGW ok k
   exact⟨_,_,_,k1,by rw[k2,hN],k3 id⟩
 |.seq x y,n,m,a,h,K,hN,hl,hb0,k=>by
  have hx:=ZCa (x:=x) (y:=y) rfl hl;have hy:=Zym (x:=x) (y:=y) rfl hl;unfold evT at k;obtain⟨a0,h0,k,hN0,gst⟩:=ZIU k;rw[hN] at hN0
  suffices key:∃ex a' h',K ex a' h'=some out/\a'.length=N/\VO P (.seq x y) (TD.ers (lk h0) a0) (erH h0) ex (TD.ers (lk h') a') (erH h') by
   obtain⟨ex,a',h',g1,g2,g3⟩:=key;exact⟨ex,a',h',g1,g2,ZK4 gst g3⟩
  clear gst;have hN:=hN0;clear hN0;split at k
  ·obtain⟨ex,a1,h1,k1,k2,k3⟩:=VC ok x _ _ _ _ _ hN hx (ZIY hb0) k;split at k1
   ·obtain⟨ex2,a2,h2,k4,k5,k6⟩:=VC ok y _ _ _ _ _ k2 hy (ZB9 hb0) k1;exact⟨_,_,_,k4,k5,ZB7 k3 k6⟩
   ·rename_i hne;exact⟨_,_,_,k1,k2,Zyk hne k3⟩
  ·rename_i bkv hbk;obtain⟨bk,v⟩:=bkv;obtain⟨hbk,vs,j1,j2⟩:=Zju hbk;dsimp only at hbk j1 j2 k;obtain⟨o,j3,k⟩:=yf.1 k;obtain⟨e,vs',s,g1,g2,g3⟩:=ZuB k;obtain⟨a3,h3,j4,j5⟩:=Zyl rfl j1;have hok:=hb0 0 x rfl bk (by rw[yce];exact hbk);rw[hN] at g2 j4;have e1:=Ze9 _ _ _ j2;have r:=hok v o j3 (a3,h3) (by rw[e1];exact j4) e vs' s g1 g2
   have k3:VO P x (TD.ers (lk h0) a0) (erH h0) e.ex (TD.ers (lk s.2) s.1) (erH s.2):=by
    intro σ act okσ hH yR;obtain⟨σ1,p1,p2,p3,p4,p5⟩:=j5 σ act okσ hH yR;rw[<-p1];refine wp_mono (r σ1 act p4 p2 p5) ?_;rintro e' a' w' ⟨rfl,σ2,q1,q2,q3,q4,q5⟩;exact⟨rfl,σ2,q1,q2,p3.trans q3,q4,q5⟩
   split at g3
   ·rename_i he;rw[he] at k3;obtain⟨ex2,a2,h2,k4,k5,k6⟩:=VC ok y _ _ _ _ _ (ZkJ g2) hy (ZB9 hb0) g3;exact⟨_,_,_,k4,k5,ZB7 k3 k6⟩
   ·rename_i hne
    exact⟨_,_,_,g3,ZkJ g2,Zyk hne k3⟩
 |.cond c x y,n,m,a,h,K,hN,hl,hb0,k=>by
  have hx:=ZCa (x:=x) (y:=y) rfl hl;have hy:=Zym (x:=x) (y:=y) rfl hl;have bx:=ZIX (x:=x) (y:=y) rfl hb0;have bY:=ZG2 (x:=x) (y:=y) rfl hb0;unfold evT at k;obtain⟨b,k0,k⟩:=yf.1 k;obtain⟨d,k00,k01⟩:=yf.1 k0;have hc:=ZM (L:=lk h) k00;rw[ZkD k01] at hc;split at k
  ·rename_i t;cases k00;have e:=ZBZ k01;split at k
   ·rename_i hb;subst hb;rw[set_same e] at k;obtain⟨ex,a1,h1,k1,k2,k3⟩:=VC ok x _ _ _ _ _ hN hx bx k;exact⟨_,_,_,k1,k2,ZoM hc k3⟩
   ·rename_i hb;have hb:b=false:=by simpa using hb
    subst hb;rw[set_same e] at k;obtain⟨ex,a1,h1,k1,k2,k3⟩:=VC ok y _ _ _ _ _ hN hy bY k;exact⟨_,_,_,k1,k2,ZoM hc k3⟩
  ·split at k
   ·rename_i hb;subst hb;obtain⟨ex,a1,h1,k1,k2,k3⟩:=VC ok x _ _ _ _ _ hN hx bx k;exact⟨_,_,_,k1,k2,ZoM hc k3⟩
   ·rename_i hb;have hb:b=false:=by simpa using hb
    subst hb;obtain⟨ex,a1,h1,k1,k2,k3⟩:=VC ok y _ _ _ _ _ hN hy bY k
    exact⟨_,_,_,k1,k2,ZoM hc k3⟩
 |.block id body,n,m,a,h,K,hN,hl,hb0,k=>by
  unfold evT at k;obtain⟨ex,a1,h1,k1,k2,k3⟩:=VC ok body _ _ _ _ _ hN hl hb0 k
  exact⟨_,_,_,k1,k2,ZD3 k3⟩
 |.scope body,n,m,a,h,K,hN,hl,hb0,k=>by
  unfold evT at k;obtain⟨ex,a1,h1,k1,k2,k3⟩:=VC ok body _ _ _ _ _ hN hl hb0 k
  exact⟨_,_,_,k1,k2,ZD4 k3⟩
 |.loop body,n,m,a,h,K,hN,hl,hb0,k=>by
  unfold evT at k;split at k
  ·rename_i lpv hlp;obtain⟨lp,v⟩:=lpv;obtain⟨hlp,vs,j1,j2⟩:=Zju hlp;dsimp only at hlp j1 j2 k;obtain⟨o,j3,k⟩:=yf.1 k;obtain⟨e,vs',s,g1,g2,g3⟩:=ZuB k;obtain⟨a3,h3,j4,j5⟩:=Zyl rfl j1;have hok:=hl 0 body rfl lp (by rw[yce];exact hlp);rw[hN] at g2 j4;have e1:=Ze9 _ _ _ j2;have r:=hok v o j3 (a3,h3) (by rw[e1];exact j4) e vs' s g1 g2;refine⟨_,_,_,g3,ZkJ g2, ?_⟩;intro σ act okσ hH yR;obtain⟨σ1,p1,p2,p3,p4,p5⟩:=j5 σ act okσ hH yR;rw[<-p1];refine wp_mono (r σ1 act p4 p2 p5) ?_;rintro e' a' w' ⟨rfl,σ2,q1,q2,q3,q4,q5⟩;exact⟨rfl,σ2,q1,q2,p3.trans q3,q4,q5⟩
  ·have hl1:Zns P fi N body (n+1):=λk b hk lp hl2=>hl (k+1) b (by rw[ZJ,yaq];exact hk) lp (by rw[show n+(k+1)=n+1+k by omega];exact hl2);obtain⟨ex,a1,h1,k1,k2,k3⟩:=Ztw (λa h K out hN k=>VC ok body _ _ _ _ K hN hl1 hb0 k) _ _ _ _ _ hN k
   exact⟨ex,a1,h1,k1,k2,Zx2 k3⟩
 |.rangeFunc _ _ _ _,_,_,_,_,_,_,_,_,k=>by cases k
 |.goto _,_,_,_,_,_,_,_,_,k=>by cases k
 |.refuse _,_,_,_,_,_,_,_,_,k=>by cases k
end
end Go.Ev
end
section
namespace Go.Ev
def Zb{I X:Type}(step:I->yO (I⊕X)):Nat->I->yO X
 |0,_=>none
 |n+1,i=>(step i).bind λr=>match r with
  |.inl j=>Zb step n j
  |.inr x=>some x
theorem ZIZ:∃n:Nat,n=18446744073709551616:=⟨_,rfl⟩
noncomputable def yD:Nat:=Classical.choose ZIZ
theorem Zdf:yD=18446744073709551616:=Classical.choose_spec ZIZ
section
variable{P:yg}
def ZI0(n0:Nat)(ex:Ex)(a:yL TD)(h:yL TEnt):(l:yL XSh)->yO (XSh.sum l)
 |[]=>none
 |[e]=>if ex=e.ex then(Zz2 n0 e.sl e.es a h).bind λvs=>toD e.ty vs else none
 |e::f::r=>match (if ex=e.ex then(Zz2 n0 e.sl e.es a h).bind λvs=>toD e.ty vs else none) with
  |some x=>some (Sum.inl x:Ty.dens e.ty⊕XSh.sum (f::r))
  |none=>(ZI0 n0 ex a h (f::r)).map λx=>(Sum.inr x:Ty.dens e.ty⊕XSh.sum (f::r))
theorem Zsw{n0:Nat}{ex:Ex}{a:yL TD}{h:yL TEnt}:∀{l:yL XSh}{o:XSh.sum l},ZI0 n0 ex a h l=some o->∀e vs,ZBT l o e vs->ex=e.ex/\Zz2 n0 e.sl e.es a h=some vs
 |[],_,k,_,_,_=>by cases k
 |[e],o,k,x,vs,hs=>by
  obtain⟨rfl,rfl⟩:=hs;have k:(if ex=x.ex then(Zz2 n0 x.sl x.es a h).bind λvs=>toD x.ty vs else none)=some o:=k
  split at k
  ·rename_i he;obtain⟨ws,h1,h2⟩:=yf.1 k;exact⟨he,by rw[h1,Ze9 _ _ _ h2]⟩
  ·cases k
 |e::f::r,o,k,x,vs,hs=>by
  simp only[ZI0] at k;split at k
  ·rename_i y hy;cases k;obtain⟨rfl,rfl⟩:=hs;split at hy
   ·rename_i he;obtain⟨ws,h1,h2⟩:=yf.1 hy;exact⟨he,by rw[h1,Ze9 _ _ _ h2]⟩
   ·cases hy
  ·obtain⟨y,h1,h2⟩:=Zd k;subst h2;exact Zsw h1 x vs hs
def Zyn(P:yg)(fi:FI)(specs:Sp P)(body:Code)(n N:Nat)(sl:Slots)(es:yL ESh)(I:yL Ty)(xs:yL XSh):Ty.dens I->yO (Ty.dens I⊕XSh.sum xs):=λv=>
 (Zas N sl es (ofD I v)).bind λs=>evT P fi specs body (n+1) 0 s.1 s.2 λex a h=>match ex with
   |.normal=>(Zz2 s.2.length sl es a h).bind λvs=>(toD I vs).map .inl
   |ex=>(ZI0 s.2.length ex a h xs).map .inr
theorem ZI1{fi:FI}{specs:Sp P}{body:Code}{n N:Nat}{sl:Slots}{es:yL ESh}{I:yL Ty}{xs:yL XSh}(ok:SpOk specs)(hl:Zns P fi N body (n+1))(hb0:Zmt P fi N body 0):
 ∀(f:Nat)(v:Ty.dens I)(o:XSh.sum xs),Zb (Zyn P fi specs body n N sl es I xs) f v=some o->∀s,Zas N sl es (ofD I v)=some s->∀e vs s',ZBT xs o e vs->Zas N e.sl e.es vs=some s'->
  ZxZ P body (TD.ers (lk s.2) s.1) (erH s.2) e.ex (TD.ers (lk s'.2) s'.1) (erH s'.2)
 |0,_,_,h,_,_,_,_,_,_,_=>by cases h
 |f+1,v,o,h,s,hs,e,vs,s',hx,hs'=>by
  unfold Zb at h;obtain⟨r,h1,h2⟩:=yf.1 h;unfold Zyn at h1;rw[hs,ya] at h1;obtain⟨ex,a,h3,k1,k2,k3⟩:=VC ok body _ _ _ _ _ (ZkJ hs) hl hb0 h1;split at k1
  ·obtain⟨ws,g1,k1⟩:=yf.1 k1;obtain⟨w,g2,rfl⟩:=Zd k1;obtain⟨a3,h4,g3,g4⟩:=Zsu (P:=P) g1;rw[k2] at g3;have r1:=g4 (Yb _) k3;have:=ZI1 ok hl hb0 f w o h2 (a3,h4) (by rw[Ze9 _ _ _ g2];exact g3) e vs s' hx hs';exact Zx1 [] r1 this
  ·rename_i hne;obtain⟨w,g2,rfl⟩:=Zd k1;cases h2;obtain⟨g5,g6⟩:=Zsw g2 e vs hx;obtain⟨a3,h4,g3,g4⟩:=Zsu (P:=P) g6;rw[k2,hs'] at g3;cases g3;subst g5;exact Zx0 hne (g4 (Yb _) k3)
theorem ZOa{fi:FI}{specs:Sp P}{body:Code}{n N:Nat}{sl:Slots}{es:yL ESh}{I:yL Ty}{xs:yL XSh}{step:Ty.dens I->yO (Ty.dens I⊕XSh.sum xs)}(f:Nat)(ok:SpOk specs)(hl:Zns P fi N body (n+1))(hb0:Zmt P fi N body 0)
 (h:∀v,Zyn P fi specs body n N sl es I xs v=step v):Lp.Ok P N body ⟨sl,es,I,xs,Zb step f⟩:=by
 intro v o hL s hs e vs s' hx hs';have e1:Zyn P fi specs body n N sl es I xs=step:=funext h;subst e1;exact Zx2 (ZI1 ok hl hb0 f v o hL s hs e vs s' hx hs')
theorem Zft:∀(c:Code)(k:Nat)(b:Code),(ZJ c)[k]? =some (.loop b)->∀j x,(ZJ b)[j]? =some x->(ZJ c)[k+1+j]? =some x
 |.seq x y,k,b,h,j,z,hz=>by
  simp only[ZJ] at h ⊢;rcases ycb k (ZJ x).length with hl|hl
  ·rw[yao hl] at h;have:=Zft x k b h j z hz;rw[yao (yq.1 this).1];exact this
  ·rw[yax hl] at h;have:=Zft y _ b h j z hz;rw[yax (by omega)];rw[show k+1+j - (ZJ x).length=k - (ZJ x).length+1+j by omega]
   exact this
 |.cond _ x y,k,b,h,j,z,hz=>by
  simp only[ZJ] at h ⊢;rcases ycb k (ZJ x).length with hl|hl
  ·rw[yao hl] at h;have:=Zft x k b h j z hz;rw[yao (yq.1 this).1];exact this
  ·rw[yax hl] at h;have:=Zft y _ b h j z hz;rw[yax (by omega)];rw[show k+1+j - (ZJ x).length=k - (ZJ x).length+1+j by omega]
   exact this
 |.block _ a,k,b,h,j,z,hz=>Zft a k b h j z hz
 |.scope a,k,b,h,j,z,hz=>Zft a k b h j z hz
 |.loop a,k,b,h,j,z,hz=>by
  simp only[ZJ] at h ⊢
  cases k with
  |zero=>
   simp only[yau,yp,Code.loop.injEq] at h;subst h;rw[show 0+1+j=j+1 by omega,yaq]
   exact hz
  |succ k=>
   rw[yaq] at h;rw[show k+1+1+j=(k+1+j)+1 by omega,yaq]
   exact Zft a k b h j z hz
 |.skip,_,_,h,_,_,_=>by simp[ZJ] at h
 |.region _ _ _,_,_,h,_,_,_=>by simp[ZJ] at h
 |.rangeFunc _ _ _ _,_,_,h,_,_,_=>by simp[ZJ] at h
 |.exit _,_,_,h,_,_,_=>by simp[ZJ] at h
 |.ret,_,_,h,_,_,_=>by simp[ZJ] at h
 |.label _,_,_,h,_,_,_=>by simp[ZJ] at h
 |.goto _,_,_,h,_,_,_=>by simp[ZJ] at h
 |.refuse _,_,_,h,_,_,_=>by simp[ZJ] at h
def Znt(P:yg)(g:yv)(N:Nat):yL (Nat×Lp)->Prop
 |[]=>True
 |q::r=>q.2.Ok P N (Zdc P g q.1)/\Znt P g N r
theorem ZoN{g:yv}{N:Nat}:∀{l:yL (Nat×Lp)}{n:Nat}{lp:Lp},Znt P g N l->(n,lp)∈l->lp.Ok P N (Zdc P g n)
 |[],_,_,_,h=>by cases h
 |q::r,n,lp,hk,h=>by
  rcases ybh.1 h with h|h
  ·subst h;exact hk.1
  ·exact ZoN hk.2 h
def VQ(P:yg)(g:yv):Code:=
 match P.funcs[g]? with
 |some fn=>fn.body.getD .skip
 |none=>.skip
theorem ZoO{g:yv}{k:Nat}{b:Code}(h:(ZJ (VQ P g))[k]? =some (.loop b)):Zdc P g k=b:=by
 unfold Zdc ZHZ;unfold VQ at h;split at h
 ·rename_i fn hf;rw[hf];dsimp only
  cases hb:fn.body with
  |none=>rw[hb] at h;simp[ZJ] at h
  |some c=>
   rw[hb] at h;dsimp only[Option.getD] at h ⊢;rw[yda,h];rfl
 ·simp[ZJ] at h
theorem ZFu{g:yv}{fi:FI}{N:Nat}(h:Znt P g N fi.lp):Zns P fi N (VQ P g) 0:=by
 intro k b hk lp hl;rw[ybe] at hl;rw[<-ZoO hk];exact ZoN h hl
theorem ZI2{g:yv}{fi:FI}{N k:Nat}(hk:(ZJ (VQ P g))[k]? =some (.loop (Zdc P g k)))(h:Znt P g N fi.lp):Zns P fi N (Zdc P g k) (k+1):=by
 intro j b hj lp hl;have:=Zft _ _ _ hk j _ hj;rw[<-ZoO this];exact ZoN h hl
def Zrb(P:yg)(g k:Nat):Bool:=
 match (ZJ (VQ P g))[k]? with
 |some (.loop _)=>true
 |_=>false
theorem Zxk{g k:Nat}(h:Zrb P g k=true):(ZJ (VQ P g))[k]? =some (.loop (Zdc P g k)):=by
 unfold Zrb at h;split at h
 ·rename_i b hb;rw[hb,ZoO hb]
 ·cases h
def ZgD(c:Code)(m:Nat):Code:=((VB c)[m]?).getD .skip
def ZvY(P:yg)(N:Nat)(c:Code):yL (Nat×Lp)->Prop
 |[]=>True
 |q::r=>q.2.Is P N (ZgD c q.1)/\ZvY P N c r
theorem Zyo{N:Nat}{c:Code}:∀{l:yL (Nat×Lp)}{m:Nat}{bk:Lp},ZvY P N c l->(m,bk)∈l->bk.Is P N (ZgD c m)
 |[],_,_,_,h=>by cases h
 |q::r,m,bk,hk,h=>by
  rcases ybh.1 h with h|h
  ·subst h;exact hk.1
  ·exact Zyo hk.2 h
theorem ZuE{fi:FI}{N:Nat}{c:Code}(h:ZvY P N c fi.bk):Zmt P fi N c 0:=by
 intro k x hk bk hl;rw[ybe] at hl;have:=Zyo h hl;unfold ZgD at this;rw[hk] at this;exact this
def ZMZ(P:yg)(fi:FI)(specs:Sp P)(x:Code)(n N:Nat)(sl:Slots)(es:yL ESh)(I:yL Ty)(xs:yL XSh):Ty.dens I->yO (XSh.sum xs):=λv=>
 (Zas N sl es (ofD I v)).bind λs=>evT P fi specs x n 0 s.1 s.2 λex a h=>ZI0 s.2.length ex a h xs
theorem ZD8{fi:FI}{specs:Sp P}{g n N:Nat}{x:Code}{sl:Slots}{es:yL ESh}{I:yL Ty}{xs:yL XSh}{L:Ty.dens I->yO (XSh.sum xs)}(ok:SpOk specs)(hl:Znt P g N fi.lp:=by exact True.intro)
 (hx:ZJ x=((ZJ (VQ P g)).drop n).take (Code.nl x):=by kernel_rfl) (h:∀v,ZMZ P fi specs x n N sl es I xs v=L v:=by intro v;kernel_rfl) (hb:ZvY P N x fi.bk:=by exact True.intro):Lp.Is P N x ⟨sl,es,I,xs,L⟩:=by
 intro v o hL s hs e vs s' hsel hs';have hL:L v=some o:=hL;rw[<-h v] at hL;unfold ZMZ at hL;have hs:Zas N sl es (ofD I v)=some s:=hs;rw[hs,ya] at hL
 have hlps:Zns P fi N x n:=by
  intro k b hk lp hlp
  have h1:(ZJ (VQ P g))[n+k]? =some (.loop b):=by
   rw[hx,ycl] at hk;split at hk
   ·rw[List.getElem?_drop] at hk;exact hk
   ·cases hk
  rw[<-ZoO h1];exact ZoN hl hlp
 obtain⟨ex,a,h',k1,k2,k3⟩:=VC ok x _ _ _ _ _ (ZkJ hs) hlps (ZuE hb) hL;obtain⟨g5,g6⟩:=Zsw k1 e vs hsel;obtain⟨a3,h4,g3,g4⟩:=Zsu (P:=P) g6;have hs':Zas N e.sl e.es vs=some s':=hs';rw[k2,hs'] at g3;cases g3;subst g5;exact g4 (Yb _) k3
theorem Zz3{fi:FI}{specs:Sp P}{g k N:Nat}{sl:Slots}{es:yL ESh}{I:yL Ty}{xs:yL XSh}{step:Ty.dens I->yO (Ty.dens I⊕XSh.sum xs)}(ok:SpOk specs)(hl:Znt P g N fi.lp:=by exact True.intro)(hk:Zrb P g k=true:=by kernel_rfl)
 (h:∀v,Zyn P fi specs (Zdc P g k) k N sl es I xs v=step v:=by intro v;kernel_rfl) (hb:ZvY P N (Zdc P g k) fi.bk:=by exact True.intro):Lp.Ok P N (Zdc P g k) ⟨sl,es,I,xs,Zb step yD⟩:=
 ZOa yD ok (ZI2 (Zxk hk) hl) (ZuE hb) h
def Zxl{O:Type}(P:yg)(a:yL TD)(h:yL TEnt):yL ResultVar->(yL TD->yL Hint->yO O)->yO O
 |[],K=>K [] []
 |.tmp t::r,K=>Zxl P a h r λds hs=>K (a.getD t .junk::ds) hs
 |.cell t ty::r,K=>match a.getD t .junk with
  |.ref id yS=>(Ztp h id).bind λd=>gpT (lk h) yS d λsub hs _=>if okT P ty (sub.er (lk h))=true then Zxl P a h r λds hs'=>K (sub::ds) (hs++hs') else none
  |_=>none
theorem ZkK{O:Type}{a:yL TD}{h:yL TEnt}{out:O}:∀(l:yL ResultVar)(K:yL TD->yL Hint->yO O),Zxl P a h l K=some out->∃ds hs C,K ds hs=some out/\AllP C/\∀yQ,Zw8 P (TD.ers (lk h) a) (erH h) l (hs++yQ)=some (C,TD.ers (lk h) ds)
 |[],K,k=>⟨[],[],[],k,zT,λ_=>rfl⟩
 |.tmp t::r,K,k=>by
  obtain⟨ds,hs,C,k1,k2,k3⟩:=ZkK r _ k;refine⟨_,_,C,k1,k2,λyQ=> ?_⟩
  simp only[Zw8,k3 yQ,yaa,ZqX,TD.ers]
 |.cell t ty::r,K,k=>by
  unfold Zxl at k;split at k
  ·rename_i id yS hx;obtain⟨d,h1,k⟩:=yf.1 k;obtain⟨st,h2,h3⟩:=Zh4 h1;obtain⟨sub,hs,put,C,g1,g2,g3,_⟩:=V8 _ _ _ _ k;obtain⟨g4,g5⟩:=Za g1;obtain⟨ds,hs',C',k1,k2,k3⟩:=ZkK r _ g5;refine⟨_,_,C++[Zh3 yS=QQ yS]++C',k1,Zp.2 ⟨Zp.2 ⟨g2,(QR _).symm,ytt⟩,k2⟩,λyQ=> ?_⟩;unfold Zw8;rw[ZqX,hx];dsimp only[TD.er];rw[h3];dsimp only;rw[yad,g3 (hs'++yQ)];dsimp only;rw[yW g4,k3 yQ];rfl
  ·cases k
def ZvZ:yL TD->TD
 |[d]=>d
 |ds=>.tup ds
theorem ZoP{L:Lk}(ds:yL TD):(ZvZ ds).er L=ZuV (TD.ers L ds):=by
 match ds with
 |[]=>rfl
 |[d]=>rfl
 |_::_::_=>rfl
def TD.arg(L:Lk):TD->TD
 |.own id nn t c=>.p (.sl nn t (Yy L id t c))
 |.agg ds=>TD.melt L ds
 |d=>d
theorem ZD9{L:Lk}(d:TD):(d.arg L).er L=(d.er L).arg:=by
 cases d <;> first|rfl|exact ZE5 _
def ZI3(h:yL TEnt)(rs:Sh)(es:yL ESh)(n0:Nat)(r:TD):yO (yL Nat):=
 let l:=ZMR h es 0 ((yu n0).map (λi=>(i,i))++Sh.ids rs r)
 ((yu es.length).drop n0).mapM λj=>l.lookup j
def ZLa(h:yL TEnt)(n0:Nat)(ds:yL TD)(e:XSh):yO (Ty.dens e.ty):=
 match e.sl with
 |[(0,rs)]=>(ZI3 h rs e.es n0 (ZvZ ds)).bind λkeep=>
  if once (yu n0++keep) then(match Dv.rn (toIds (yu n0++keep)) ((ZvZ ds).er (lk h)) with
   |some _=>(ZvZ ds).rn (toIds (yu n0++keep))
   |none=>(ZvZ (ds.map (TD.arg (lk h)))).rn (toIds (yu n0++keep))).bind λr=>
   (VA h (yu n0++keep) (yu n0++keep)).bind λh2=>(Sh.mt (lk h2) rs r).bind λq=>(ESh.mts (lk h2) e.es h2).bind λw=>toD e.ty (q.2++w.2)
  else none
 |_=>none
def ZCb(h:yL TEnt)(n0:Nat)(ds:yL TD):(l:yL XSh)->yO (XSh.sum l)
 |[]=>none
 |[e]=>ZLa h n0 ds e
 |e::f::r=>match ZLa h n0 ds e with
  |some x=>some (Sum.inl x:Ty.dens e.ty⊕XSh.sum (f::r))
  |none=>(ZCb h n0 ds (f::r)).map λx=>(Sum.inr x:Ty.dens e.ty⊕XSh.sum (f::r))
theorem Zv0{h:yL TEnt}{n0:Nat}{ds:yL TD}:∀{l:yL XSh}{o:XSh.sum l},ZCb h n0 ds l=some o->∀e vs,ZBT l o e vs->∃x,ZLa h n0 ds e=some x/\vs=ofD e.ty x
 |[],_,k,_,_,_=>by cases k
 |[e],o,k,x,vs,hs=>by
  obtain⟨rfl,rfl⟩:=hs
  exact⟨o,k,rfl⟩
 |e::f::r,o,k,x,vs,hs=>by
  simp only[ZCb] at k;split at k
  ·rename_i y hy;cases k;obtain⟨rfl,rfl⟩:=hs;exact⟨y,hy,rfl⟩
  ·obtain⟨y,h1,h2⟩:=Zd k;subst h2;exact Zv0 h1 x vs hs
def fnT(P:yg)(fi:FI)(specs:Sp P)(g:yv)(ps:yL Sh)(es:yL ESh)(ins:yL Ty)(xs:yL XSh):Ty.dens ins->yO (XSh.sum xs):=λx=>
 match P.funcs[g]? with
 |some fn=>match fn.body with
  |some c=>(Sh.fills ps (ofD ins x)).bind λq=>(ESh.fills es q.2).bind λw=>if w.2.isEmpty then
    evT P fi specs c 0 0 (q.1++yy (fn.ntmps - q.1.length) .junk) w.1 λex a h=>match ex with
     |.exit _=>none
     |_=>Zxl P a h fn.results.toList λds _=>ZCb h w.1.length ds xs
    else none
  |none=>none
 |none=>none
def Qt(P:yg)(g:yv):Nat:=
 match P.funcs[g]? with
 |some fn=>fn.ntmps
 |none=>0
theorem Ztx{fi:FI}{specs:Sp P}{g:yv}{ps:yL Sh}{es:yL ESh}{ins:yL Ty}{xs:yL XSh}{M:Ty.dens ins->yO (XSh.sum xs)}(ok:SpOk specs)(hl:Znt P g (Qt P g) fi.lp:=by exact True.intro)(hn:ps.length<=Qt P g:=by decide+kernel)
 (h:∀x,fnT P fi specs g ps es ins xs x=M x:=by intro v;kernel_rfl) (hb:ZvY P (Qt P g) (VQ P g) fi.bk:=by exact True.intro):Fs.Ok (⟨g,ps,es,ins,xs,M⟩:Fs P):=by
 intro x o hM;have hM:M x=some o:=hM;rw[<-h x] at hM;have hl':=ZFu hl;unfold fnT at hM;split at hM
 ·rename_i fn hf;split at hM
  ·rename_i c hb1;obtain⟨q,h1,hM⟩:=yf.1 hM;obtain⟨w,h2,hM⟩:=yf.1 hM;obtain⟨h3,hM⟩:=Za hM;have hN:Qt P g=fn.ntmps:=by unfold Qt;rw[hf]
   have hc:VQ P g=c:=by unfold VQ;rw[hf];dsimp only;rw[hb1];rfl
   rw[hc,hN] at hl' hb;have hb0:=ZuE hb;rw[hN] at hn
   have zY:(q.1++yy (fn.ntmps - q.1.length) TD.junk).length=fn.ntmps:=by
    rw[yl,ycq,ZoK h1];omega
   obtain⟨ex,a,hh,k1,k2,k3⟩:=VC ok c _ _ _ _ _ zY hl' hb0 hM
   have hex:(ex=.ret\/ex=.normal)/\(Zxl P a hh fn.results.toList λds _=>ZCb hh w.1.length ds xs)=some o:=by
    cases ex with
    |exit _=>cases k1
    |normal=>exact⟨.inr rfl,k1⟩
    |ret=>exact⟨.inl rfl,k1⟩
   obtain⟨hex,k1⟩:=hex;obtain⟨ds,hs,C,g1,g2,g3⟩:=ZkK _ _ k1;refine⟨q.1,q.2,w.1,h1, ?_,λe vs s' hsel hfs=> ?_⟩
   ·rw[h2];have:w.2=[]:=by simpa using h3
    rw[<-this]
   obtain⟨o1,g1,hvs⟩:=Zv0 g1 e vs hsel;unfold ZLa at g1;split at g1
   case h_2=>cases g1
   rename_i rs hsl;obtain⟨keep,g4,g1⟩:=yf.1 g1;obtain⟨g5,g1⟩:=Za g1;obtain⟨r,g6,g1⟩:=yf.1 g1;obtain⟨e2,g7,g1⟩:=yf.1 g1;obtain⟨z,g8,g1⟩:=yf.1 g1;obtain⟨y,g9,g1⟩:=yf.1 g1;obtain⟨b1,b2⟩:=ZkI g9;have hcc:∀id t,Yy (lk e2) id t none=Yy (lk y.1) id t none:=λid t=>by rw[b2]
   have eo:=Ze9 _ _ _ g1
   have efill:s'=([z.1],y.1):=by
    rw[hvs,eo,hsl] at hfs;unfold Zas at hfs;rw[show shs [(0,rs)] 1=[rs] from rfl] at hfs
    simp only[Sh.fills,ZoI _ _ _ g8,ya,yaa] at hfs;have:=ZcA g9 [];rw[ybd] at this;rw[this] at hfs;exact(ybk hfs).symm
   subst efill;refine⟨z.1,rfl, ?_⟩
   have hfin:fin P fn (TD.ers (lk hh) a) (erH hh) (erH w.1).length keep hs=some (C,r.er (lk e2),erH e2):=by
    unfold fin;have:=g3 [];rw[ybd] at this;rw[this];dsimp only;rw[Yb,g5, <-ZoP,show subEnts (erH hh) _ _=some (erH e2) from Vq (Zca g7) g7]
    split at g6
    ·rename_i r0 hr0;have e4:=Zh6 (Zca g7) _ _ g6;rw[e4]
    ·rename_i hr0;have e4:=Zh6 (Zca g7) _ _ g6;rw[ZoP,ZW,ybi] at e4
     rw[hr0,show(TD.ers (lk hh) ds).map Dv.arg=ds.map (TD.er (lk hh) ∘ TD.arg (lk hh)) by
      rw[ZW,ybi];exact yct λd _=>(ZD9 d).symm,e4]
   have zW:VO P c (TD.ers (lk w.1) q.1++yy (fn.ntmps - (TD.ers (lk w.1) q.1).length) .junk) (erH w.1) ex (TD.ers (lk hh) a) (erH hh):=by
    have e5:TD.ers (lk w.1) (q.1++yy (fn.ntmps - q.1.length) TD.junk)=TD.ers (lk w.1) q.1++yy (fn.ntmps - (TD.ers (lk w.1) q.1).length) .junk:=by
     rw[Zzh,ZW,ZW,ybb,List.map_replicate];rfl
    rw[<-e5];exact k3
   exact ZBn (Znm hf hb1 zW hex hfin g2) (ZvJ hcc _ _ _ g8) (ZoJ hcc g9)
  ·cases hM
 ·cases hM
end
theorem Zsx{P:yg}{g:yv}{t:Ty}{xs:yL XSh}{MA:Ty.dens [.sl t]->yO (XSh.sum xs)}{MB:Ty.dens []->yO (XSh.sum xs)}(hA:Fs.Ok (⟨g,[.sl true t],[],[.sl t],xs,MA⟩:Fs P))(hB:Fs.Ok (⟨g,[.nil t],[],[],xs,MB⟩:Fs P))
 (h:MB ()=MA ([]:yL t.den)):Fs.Ok (⟨g,[.v (.sl t)],[],[.sl t],xs,MA⟩:Fs P):=by
 intro l o hM;have key:∀(l:yL t.den),Ty.cast (.sl t) (.sl t) l=some l:=λl=>XU (.sl t) l;obtain⟨a1,R1,H1,f1,f2,f3⟩:=hA l o hM
 have e1:a1=[.p (.sl (some true) t l)]/\R1=[]:=by
  have:Sh.fills [.sl true t] [(⟨.sl t,l⟩:TV)]=some (a1,R1):=f1;simp only[Sh.fills,Sh.fill] at this;rw[key l] at this;have this:some (([.p (.sl (some true) t l)]:yL TD),([]:yL TV))=some (a1,R1):=this;cases this;exact⟨rfl,rfl⟩
 obtain⟨rfl,rfl⟩:=e1;cases f2;refine⟨[.p (.v (.sl t) l)],[],[], ?_,rfl,λe vs s' hs hf=> ?_⟩
 ·show Sh.fills [.v (.sl t)] [(⟨.sl t,l⟩:TV)]=_;simp only[Sh.fills,Sh.fill];rw[key l];rfl
 ·obtain⟨r,r1,r2⟩:=f3 e vs s' hs hf;refine⟨r,r1, ?_⟩;refine ZEY (xs:=l.map t.enc) r2 λhl=> ?_;have hl:l=[]:=List.map_eq_nil_iff.1 hl;subst hl;obtain⟨a2,R2,H2,g1,g2,g3⟩:=hB () o (by rw[<-hM];exact h);cases g1;cases g2;obtain⟨r',r1',r2'⟩:=g3 e vs s' hs hf;rw[r1] at r1';cases r1';exact r2'
def Zv1(n:Int):yO (yL yB):=if(decide (0<=n)&&decide (n.toNat<=Zw))=true then some [] else none
theorem ZLb{P:yg}{g:yv}{e:yc}(h:∀n:Nat,n<=Zw->Con P g [.p (.sl (some false) 1 []),.p (.int .i64 (n:Int))] [] (.own 0 none 1 []) [.log 1 e []]):
 Fs.Ok (⟨g,[.nil .u8,.v (.int .i64)],[],[.int .i64],[⟨.ret,[(0,.own 0 .u8)],[.log .u8 e],[.sl .u8]⟩],Zv1⟩:Fs P):=by
 intro n o hM
 have key:∀(n:Int),Zv1 n=some o->(0<=n/\n.toNat<=Zw)/\([]:yL yB)=o:=λn hM=>by
  unfold Zv1 at hM;obtain⟨h1,h2⟩:=Za (α:=yL yB) hM;rw[yi,yP,yP] at h1;exact⟨h1,ybk h2⟩
 obtain⟨h1,h2⟩:=key n hM;cases h2;refine⟨[.p (.sl (some false) .u8 []),.p (.v (.int .i64) n)],[],[],rfl,rfl,λx vs s' hs hf=> ?_⟩;obtain⟨rfl,rfl⟩:=hs;cases hf;refine⟨_,rfl, ?_⟩;have:=h (Int.toNat n) h1.2;rw[Int.toNat_of_nonneg h1.1] at this;exact this
mutual
theorem Zyp:∀(s:Sh)(vs w:yL TV)(q:TD×yL TV),s.fill vs=some q->s.fill (vs++w)=some (q.1,q.2++w)
 |.v t,vs,w,q,h=>by
  cases vs with
  |nil=>cases h
  |cons x r=>
   obtain⟨y,h1,rfl⟩:=Zd (show(Ty.cast x.1 t x.2).map (λy=>((TD.p (.v t y),r):TD×yL TV))=some q from h)
   show(Ty.cast x.1 t x.2).map (λy=>((TD.p (.v t y),r++w):TD×yL TV))=_
   rw[h1];rfl
 |.elem t,vs,w,q,h=>by
  cases vs with
  |nil=>cases h
  |cons x r=>
   obtain⟨y,h1,rfl⟩:=Zd (show(Ty.cast x.1 t x.2).map (λy=>((TD.elem (.v t y),r):TD×yL TV))=some q from h)
   show(Ty.cast x.1 t x.2).map (λy=>((TD.elem (.v t y),r++w):TD×yL TV))=_
   rw[h1];rfl
 |.sl nn t,vs,w,q,h=>by
  cases vs with
  |nil=>cases h
  |cons x r=>
   obtain⟨y,h1,rfl⟩:=Zd (α:=(Ty.sl t).den) (show(Ty.cast x.1 (.sl t) x.2).map (λ(y:yL t.den)=>((TD.p (.sl (some nn) t y),r):TD×yL TV))=some q from h)
   show(Ty.cast x.1 (.sl t) x.2).map (λ(y:yL t.den)=>((TD.p (.sl (some nn) t y),r++w):TD×yL TV))=_
   rw[h1];rfl
 |.nil _,vs,w,q,h=>by cases h;rfl
 |.own _ _,vs,w,q,h=>by cases h;rfl
 |.ref _ _,vs,w,q,h=>by cases h;rfl
 |.mp _,vs,w,q,h=>by cases h;rfl
 |.rw _,vs,w,q,h=>by cases h;rfl
 |.rp j s p,vs,w,q,h=>by
  cases vs with
  |nil=>cases h
  |cons x r=>
   obtain⟨y,h1,rfl⟩:=Zd (α:=Int) (show(Ty.cast x.1 (.int .i64) x.2).map (λ(i:Int)=>((TD.rp j (.ix i.toNat s::p),r):TD×yL TV))=some q from h)
   show(Ty.cast x.1 (.int .i64) x.2).map (λ(i:Int)=>((TD.rp j (.ix i.toNat s::p),r++w):TD×yL TV))=_
   rw[h1];rfl
 |.view _ _ _ _ _,vs,w,q,h=>by cases h;rfl
 |.fn g l,vs,w,q,h=>by
  simp only[Sh.fill] at h ⊢;obtain⟨y,h1,rfl⟩:=Zd h
  rw[fills_more l vs w y h1];rfl
 |.agg l,vs,w,q,h=>by
  simp only[Sh.fill] at h ⊢;obtain⟨y,h1,rfl⟩:=Zd h
  rw[fills_more l vs w y h1];rfl
 |.arr n s l,vs,w,q,h=>by
  simp only[Sh.fill] at h ⊢;obtain⟨y,h1,rfl⟩:=Zd h
  rw[fills_more l vs w y h1];rfl
 |.tup l,vs,w,q,h=>by
  simp only[Sh.fill] at h ⊢;obtain⟨y,h1,rfl⟩:=Zd h
  rw[fills_more l vs w y h1];rfl
 |.iface t x,vs,w,q,h=>by
  simp only[Sh.fill] at h ⊢;obtain⟨y,h1,rfl⟩:=Zd h
  rw[Zyp x vs w y h1];rfl
 |.ptr0,vs,w,q,h=>by cases h;rfl
 |.fn0,vs,w,q,h=>by cases h;rfl
 |.if0,vs,w,q,h=>by cases h;rfl
 |.map0,vs,w,q,h=>by cases h;rfl
 |.junk,vs,w,q,h=>by cases h;rfl
theorem fills_more:∀(l:yL Sh)(vs w:yL TV)(q:yL TD×yL TV),Sh.fills l vs=some q->Sh.fills l (vs++w)=some (q.1,q.2++w)
 |[],vs,w,q,h=>by simp only[Sh.fills] at h;cases h;rfl
 |s::r,vs,w,q,h=>by
  simp only[Sh.fills] at h ⊢;obtain⟨a,h1,h⟩:=yf.1 h;obtain⟨b,h2,rfl⟩:=Zd h;rw[Zyp s vs w a h1,ya,fills_more r a.2 w b h2];rfl
end
theorem ZM0{P:yg}{g:yv}{t:Ty}{e:yc}{yQ:yL Sh}{i1 i2:yL Ty}{xs:yL XSh}{M:Ty.dens i2->yO (XSh.sum xs)}(pk:Ty.dens i1->Ty.dens i2)(h:Fs.Ok (⟨g,.own 0 t::yQ,[.log t e],i2,xs,M⟩:Fs P))
 (hp:∀x,ofD i2 (pk x)=ofD i1 x++[⟨.sl t,([]:yL t.den)⟩]) (hf:∀x,∃a,Sh.fills yQ (ofD i1 x)=some (a,[])):Fs.Ok (⟨g,.nil t::yQ,[],i1,xs,λx=>M (pk x)⟩:Fs P):=by
 intro x o hM;obtain⟨args,R,H,f1,f2,f3⟩:=h (pk x) o hM;obtain⟨a,ha⟩:=hf x;have f1:Sh.fills (.own 0 t::yQ) (ofD i2 (pk x))=some (args,R):=f1;rw[hp x] at f1;simp only[Sh.fills,Sh.fill,ya,fills_more yQ _ _ _ ha,yaa,yp,Prod.mk.injEq,yw] at f1;obtain⟨rfl,rfl⟩:=f1;have f2:((Ty.cast (.sl t) (.sl t) ([]:yL t.den)).map λ(y:yL t.den)=>((TEnt.log t e y,[]):TEnt×yL TV)).bind (λa=>(ESh.fills [] a.2).map λb=>(a.1::b.1,b.2))=some (H,[]):=f2;have key:Ty.cast (.sl t) (.sl t) ([]:yL t.den)=some ([]:yL t.den):=XU (.sl t) ([]:yL t.den);rw[key] at f2;cases f2;refine⟨.p (.sl (some false) t [])::a,[],[], ?_,rfl,λx' vs s' hs hf'=> ?_⟩
 ·show Sh.fills (.nil t::yQ) (ofD i1 x)=_;simp only[Sh.fills,Sh.fill,ya,ha,yaa]
 ·obtain⟨r,r1,r2⟩:=f3 x' vs s' hs hf';refine⟨r,r1, ?_⟩
  have e1:TD.ers (lk [.log t e []]) (.own 0 none t none::a)=.own 0 none t.size []::TD.ers (lk []) a:=by
   have e0:TD.ers (lk [.log t e []]) a=TD.ers (lk []) a:=(ers_cont (λid t'=>Zq7 (H:=[]) (T:=t) (e:=e) id t') a).symm;rw[TD.ers,e0];congr 1;rw[TD.er,show Yy (lk [.log t e []]) 0 t none=[] from ZkG (H:=[])]
   rfl
  have r2:Con P g (TD.ers (lk [.log t e []]) (.own 0 none t none::a)) (erH [.log t e []]) (r.er (lk s'.2)) (erH s'.2):=r2;rw[e1] at r2;exact ZBp (H:=[]) (e:=e) r2
section
variable{P:yg}
theorem fnO(h:HI)(lp:yL (Nat×Lp))(l:yL (Fs P))(a:AllOk l){g:yv}{ps:yL Sh}{es:yL ESh}{ins:yL Ty}{xs:yL XSh}{M:Ty.dens ins->yO (XSh.sum xs)}(hl:Znt P g (Qt P g) lp:=by exact True.intro)(hn:ps.length<=Qt P g:=by decide+kernel)
 (k:∀x,fnT P { hi:=h,lp:=lp} { l:=l} g ps es ins xs x=M x:=by intro v;kernel_rfl):Fs.Ok (⟨g,ps,es,ins,xs,M⟩:Fs P):=Ztx (okS a) hl hn k
abbrev Lp.okA(L:Lp)(P:yg)(g k:Nat):Prop:=L.Ok P (Qt P g) (Zdc P g k)
theorem Zx(h:HI)(lp:yL (Nat×Lp))(l:yL (Fs P))(a:AllOk l){g k N:Nat}{sl:Slots}{es:yL ESh}{I:yL Ty}{xs:yL XSh}{step:Ty.dens I->yO (Ty.dens I⊕XSh.sum xs)}(hl:Znt P g N lp:=by exact True.intro)(hk:Zrb P g k=true:=by kernel_rfl)
 (h':∀v,Zyn P { hi:=h,lp:=lp} { l:=l} (Zdc P g k) k N sl es I xs v=step v:=by intro v;kernel_rfl):Lp.Ok P N (Zdc P g k) ⟨sl,es,I,xs,Zb step yD⟩:=Zz3 (okS a) hl hk h'
theorem ZG3(n g:Nat)(h:HI)(lp:yL (Nat×Lp))(l:yL (Fs P))(a:AllOk l){N:Nat}{x:Code}{sl:Slots}{es:yL ESh}{I:yL Ty}{xs:yL XSh}{L:Ty.dens I->yO (XSh.sum xs)}(hl:Znt P g N lp:=by exact True.intro)
 (hx:ZJ x=((ZJ (VQ P g)).drop n).take (Code.nl x):=by kernel_rfl) (k:∀v,ZMZ P { hi:=h,lp:=lp} { l:=l} x n N sl es I xs v=L v:=by intro v;kernel_rfl):Lp.Is P N x ⟨sl,es,I,xs,L⟩:=ZD8 (n:=n) (g:=g) (okS a) hl hx k
end
end Go.Ev
end
