/- Parts of the proof, in one file. -/
import Derived.Test.YtghfiijgklnflaaGreatKc
open Bool renaming and_eq_true → yi, false_eq_true → yaw
open Go renaming TypeId → yb, Program → yg, Oper → ym, Operand → yn, FuncId → yw, World → yz
open List renaming length_append → yj, getElem?_eq_some_iff → yo, range → yp, append_assoc → yx, nil_append → yy, length_map → yaa, replicate → yac, getElem?_eq_getElem → yad, cons_append → yae, take_length → yag, map_cons → yah, getElem?_map → yal, length_set → yan, length_cons → yao, append_nil → yas, getElem?_append_right → yat, map_append → yau, getElem?_append_left → yba, mem_cons_self → ybd, map_map → ybe, getElem?_eq_none → ybi, ext_getElem? → ybk, map_set → ybm, getElem?_set → ybq, all_eq_true → ybs, range' → yby, mem_of_getElem? → ybz, getElem?_take → ycc, map_take → ycj, length_nil → yck, map_congr_left → ycs, getElem?_set_self → ycw, length_replicate → ycx, getElem?_concat_length → yde
open Nat renaming le_refl → yl, beq → yar
open Option renaming bind_some → ya, bind_eq_some_iff → yf, map_some → yaf
open Prod.mk renaming injEq → yab
set_option linter.unusedVariables false
set_option linter.unusedSimpArgs false
section
namespace Go.Ev
section
variable{P:yg}{o:ym}{ts all:yL TD}{H:yL TEnt}{O:Type}{K:Kn O}{out:O}
theorem Zgr{id:Nat}{e x:TEnt}(hx:H[id]? =some x)(h1:x.isLog=false)(h2:e.isLog=false):TD.ers (lk (H.set id e)) all=TD.ers (lk H) all:=by rw[Zah hx h1 h2]
def Zwa(P:yg)(t:yb)(all:yL TD)(H:yL TEnt)(K:Kn O)(kd vd:yb->yO TD):TD->yO O
 |.mp id=>match P.underlying t with
  |some (.map kt et)=>(ZuL H id).bind λm=>(kd kt).bind λx=>(ZBB x m.k).bind λkey=>((vd et).bind (TD.flat (lk H))).bind λz=>(TP.to ZnT z m.v).bind λy=>
   if ZmE P kt m.k=true then K all .junk (H.set id (.map m.tid m.k m.v (@Zkq m.k.den m.v.den (Ty.deq m.k) m.l key y))) [.kvs (kvl m.k.enc m.v.enc (@Zkq m.k.den m.v.den (Ty.deq m.k) m.l key y))] 2 else none
  |_=>none
 |_=>none
theorem Zwb{t:yb}{x k v:yn}{xd:TD}(ho:o.op=.mapUpdate t x k v)(hx:arT P ts t x=some xd)(h:Zwa P t all H K (λkt=>arT P ts kt k) (λet=>arT P ts et v) xd=some out):
 ∃a d H' hs c,K a d H' hs c=some out/\Good P o ts all H a d H' hs c:=by
 have hv:=Zv (L:=lk H) hx;unfold Zwa at h;split at h
 ·rename_i id;split at h
  ·rename_i kt et hu;obtain⟨m,h1,h⟩:=yf.1 h;obtain⟨kd,h2,h⟩:=yf.1 h;obtain⟨key,h3,h⟩:=yf.1 h;obtain⟨z,h4,h⟩:=yf.1 h;obtain⟨zd,h40,h41⟩:=yf.1 h4;obtain⟨y,h6,h⟩:=yf.1 h;obtain⟨h5,h⟩:=Zc h;obtain⟨e1,e2⟩:=Zjw h1;have hk:=Zv (L:=lk H) h2;rw[Zr6 h3] at hk;have hz:=Zv (L:=lk H) h40
   letI:=Ty.deq m.k
   refine⟨_,_,_,_,_,h,Zgr e1 rfl rfl,rfl,or3 (⟨rfl,λyJ=> ?_,λyJ=> ?_,[fitP P 20 kt (m.k.enc key),Zj9 P kt (kvl m.k.enc m.v.enc m.l),ZcZ (kvl m.k.enc m.v.enc m.l) (m.k.enc key) z.pe.soft (kvl m.k.enc m.v.enc (Zkq m.l key y))],
    ⟨ZhB h5 key,Zpb (ZhB h5) _,by rw[Zjs z m.v y h6];exact ZrU (Zq4 h5) _ _ _,ytt⟩,λyJ=> ?_⟩)⟩
   ·unfold evN;rw[ho]
   ·unfold evR;rw[ho]
   ·unfold evE;rw[ho];dsimp only;rw[hu,hv];dsimp only[TD.er];rw[hk,hz,Zr1 h41,e2]
    try dsimp only
    rw[yae,yy]
    try dsimp only
    rw[yW (Zr7 h5),WV (Zah e1 rfl rfl)];rfl
  ·cases h
 ·cases h
def TP.nilT(x:TP)(T:Ty):Bool:=
 match x with
 |.sl (some false) t []=>decide (t.size=T.size)
 |_=>false
theorem Zwc{x:TP}{T:Ty}(h:x.nilT T=true):x.pe=.sl (some false) T.size []:=by
 unfold TP.nilT at h;split at h
 ·rename_i t;show Pl.sl (some false) t.size []=_;grind
 ·cases h
def Zgs(T:Ty)(new:TD):yL Nat->TD->yO TD
 |[],.p x=>if x.nilT T then some new else none
 |i::r,.p x=>x.parts.bind λl=>(l[i]?).bind λz=>(Zgs T new r (.p z)).map λy=>.agg ((l.map .p).set i y)
 |i::r,.agg ds=>(ds[i]?).bind λz=>(Zgs T new r z).map λy=>.agg (ds.set i y)
 |_,_=>none
theorem Zf5{L:Lk}{T:Ty}{new:TD}:∀(yM:yL Nat)(d d':TD),Zgs T new yM d=some d'->We (d.er L) yM T.size (new.er L)=some (d'.er L)
 |[],d,d',h=>by
  cases d with
  |p x=>
   simp only[Zgs] at h;split at h
   ·rename_i hn;cases h;rw[TD.er,Zwc hn];simp[We]
   ·cases h
  |_=>cases h
 |i::r,d,d',h=>by
  cases d with
  |p x=>
   simp only[Zgs] at h;obtain⟨l,h1,h⟩:=yf.1 h;obtain⟨z,h2,h⟩:=yf.1 h;obtain⟨y,h3,rfl⟩:=Zg h;have:=Zf5 (L:=L) r (.p z) y h3;rw[TD.er,ZrV h1];unfold We;rw[show(TP.pes l)[i]? =some z.pe by rw[ZaS,yal,h2];rfl];dsimp only;rw[TD.er] at this
   rw[this,yaf,TD.er,ZP,ybm, <-ZP,ZE0]
  |agg ds=>
   simp only[Zgs] at h;obtain⟨z,h2,h⟩:=yf.1 h;obtain⟨y,h3,rfl⟩:=Zg h;have:=Zf5 (L:=L) r z y h3;rw[TD.er];unfold We;rw[QW h2];dsimp only
   rw[this,yaf,TD.er,ZP,ZP,ybm]
  |_=>cases h
def Zn7(d:TD)(n:Nat):yL (yL Nat×Ty×yb)->yO (TD×yL (Ty×yb))
 |[]=>some (d,[])
 |q::r=>(Zgs q.2.1 (.own n none q.2.1 none) q.1 d).bind λd'=>(Zn7 d' (n+1) r).map λz=>(z.1,(q.2.1,q.2.2)::z.2)
def ghH(l:yL (yL Nat×Ty×yb)):yL Hint:=l.map λq=>.ghost q.1 q.2.1.size q.2.2
def Zx5(l:yL (Ty×yb)):yL TEnt:=l.map λq=>.log q.1 q.2 []
def ZE7(L:Lk)(n:Nat):Prop:=∀id t,n<=id->Ym L id t none=[]
theorem Znd{L:Lk}:∀(l:yL (yL Nat×Ty×yb))(d:TD)(n:Nat)(z:TD×yL (Ty×yb)),ZE7 L n->Zn7 d n l=some z->∀yJ,
 YX (d.er L) n (ghH l++.raw::yJ)=(z.1.er L,z.2.map (λq=>Ent.log q.1.size q.2 []),.raw::yJ)
 |[],d,n,z,hN,h,yJ=>by cases h;rfl
 |q::r,d,n,z,hN,h,yJ=>by
  simp only[Zn7] at h;obtain⟨d',h1,h⟩:=yf.1 h;obtain⟨w,h2,rfl⟩:=Zg h;have e:=Zf5 (L:=L) q.1 d d' h1;rw[TD.er,hN n q.2.1 (yl _)] at e;have ih:=Znd r d' (n+1) w (λid t h=>hN id t (by omega)) h2 yJ;show YX (d.er L) n (.ghost q.1 q.2.1.size q.2.2::(ghH r++.raw::yJ))=_;unfold YX;grind
theorem ZE8(H:yL TEnt):ZE7 (lk H) H.length:=λid t h=>by
 unfold Ym lk;rw[ybi h];rfl
theorem Zpf:∀(l:yL (Ty×yb))(H:yL TEnt),(∀id t,Ym (lk H) id t none=Ym (lk (H++Zx5 l)) id t none)/\erH (H++Zx5 l)=erH H++l.map (λq=>Ent.log q.1.size q.2 [])
 |[],H=>by simp[Zx5]
 |q::l,H=>by
  have e:H++Zx5 (q::l)=(H++[.log q.1 q.2 []])++Zx5 l:=by simp[Zx5]
  obtain⟨h1,h2⟩:=Zpf l (H++[.log q.1 q.2 []]);rw[e];refine⟨λid t=>(Zn5 id t).trans (h1 id t), ?_⟩;rw[h2,Zv5];simp
def newVar(hi:HI)(dst:yO Tmp)(d:TD)(all:yL TD)(H:yL TEnt)(K:Kn O):yO O:=
 match dst with
 |some t=>match hi.ghost.lookup t with
  |some l=>(Zn7 d (H.length+1) l).bind λz=>K all (.ref H.length []) (H++[.var z.1 true]++Zx5 z.2) (ghH l++[.raw]) 2
  |none=>K all (.ref H.length []) (H++[.var d true]) [.raw] 2
 |none=>none
theorem Zp2{hi:HI}{dst:yO Tmp}{d:TD}(h:newVar hi dst d all H K=some out):
 ∃H' hs gd gl,K all (.ref H.length []) H' hs 2=some out/\TD.ers (lk H') all=TD.ers (lk H) all/\erH H'=erH H++Ent.var gd true::gl/\∀yJ,YX (d.er (lk H)) ((erH H).length+1) (hs++yJ)=(gd,gl,.raw::yJ):=by
 unfold newVar at h;split at h
 ·rename_i t;split at h
  ·rename_i l hl;obtain⟨z,h1,h⟩:=yf.1 h;obtain⟨c1,c2⟩:=Zpf z.2 (H++[.var z.1 true]);have hL:lk (H++[.var z.1 true])=lk H:=Zl6 rfl;refine⟨_,_,z.1.er (lk H),z.2.map (λq=>Ent.log q.1.size q.2 []),h, ?_, ?_,λyJ=> ?_⟩
   ·rw[<-ers_cont c1 all,hL]
   ·rw[c2,ZkZ hL];simp[TEnt.er]
   ·rw[Z1,yx];exact Znd l d _ z (λid t hh=>ZE8 H id t (by omega)) h1 yJ
  ·refine⟨_,_,d.er (lk H),[],h,Zl7 rfl, ?_,λyJ=> ?_⟩
   ·rw[ZkZ (Zl6 rfl)];rfl
   ·rfl
 ·cases h
def ZAb(P:yg)(hi:HI)(dst:yO Tmp)(t:yb)(all:yL TD)(H:yL TEnt)(K:Kn O):yO O:=
 (P.info? t).bind λi=>(Zx2 P t).bind λz=>if(zOk i&&okT P t (zeroD P t)&&(zeroD P t).solid)=true then newVar hi dst (.p z) all H K else none
theorem Zx6{hi:HI}{t:yb}(ho:o.op=.alloc t)(h:ZAb P hi o.dst t all H K=some out):∃a d H' hs c,K a d H' hs c=some out/\Good P o ts all H a d H' hs c:=by
 unfold ZAb at h;obtain⟨i,h1,h⟩:=yf.1 h;obtain⟨z,h2,h⟩:=yf.1 h;obtain⟨h3,h⟩:=Zc h;obtain⟨H',hs,gd,gl,k1,k2,k3,k4⟩:=Zp2 h;refine⟨_,_,_,_,_,k1,k2,rfl,or3 (⟨rfl,λyJ=> ?_,λyJ=> ?_,[],zY,λyJ=> ?_⟩)⟩
 ·unfold evN;rw[ho]
 ·unfold evR;rw[ho]
 ·have k5:=k4 yJ;rw[TD.er, <-Zr8 h2] at k5;unfold evE;rw[ho];dsimp only;rw[h1];dsimp only;rw[k5];dsimp only;rw[yW h3,k3,Z1];rfl
def ZHF(L:Lk)(d:TD):TD:=
 match d.plain L with
 |some y=>.p y
 |none=>d
theorem ZHG{L:Lk}(d:TD):(ZHF L d).er L=ZzF (d.er L):=by
 unfold ZHF ZzF
 cases h:d.plain L with
 |none=>rw[Zr4 h]
 |some y=>rw[ZuI h];rfl
def ZJm(hi:HI)(dst:yO Tmp)(all:yL TD)(H:yL TEnt)(K:Kn O)(d:TD):yO O:=
 if((ZHF (lk H) d).er (lk H)).solid=true then newVar hi dst (ZHF (lk H) d) all H K else none
theorem ZDd{hi:HI}{t:yb}{x:yn}{xd:TD}(ho:o.op=.box t x)(hx:arT P ts t x=some xd)(h:ZJm hi o.dst all H K xd=some out):∃a d H' hs c,K a d H' hs c=some out/\Good P o ts all H a d H' hs c:=by
 have hv:=Zv (L:=lk H) hx;unfold ZJm at h;obtain⟨h3,h⟩:=Zc h;obtain⟨H',hs,gd,gl,k1,k2,k3,k4⟩:=Zp2 h;refine⟨_,_,_,_,_,k1,k2,rfl,or3 (⟨rfl,λyJ=> ?_,λyJ=> ?_,[],zY,λyJ=> ?_⟩)⟩
 ·unfold evN;rw[ho]
 ·unfold evR;rw[ho]
 ·have k5:=k4 yJ;rw[ZHG] at k5 h3;unfold evE;rw[ho];dsimp only;rw[hv,k5];dsimp only;rw[yW h3,k3,Z1];rfl
def TD.meltP(L:Lk)(v:TD):TD:=
 match v.flat L with
 |some x=>.p x
 |none=>v
theorem Zsa{L:Lk}(v:TD):(v.meltP L).er L=(v.er L).meltP:=by
 unfold TD.meltP Dv.meltP;rw[Zq3];cases v.flat L <;> rfl
def Zwd(L:Lk)(yM:yL Stp)(d v:TD):yO TD:=
 match d,yM with
 |.p _,_=>some (v.meltP L)
 |_,[]=>some (v.meltP L)
 |_,_=>some v
theorem Zpg{L:Lk}{yM:yL Stp}{d v new:TD}(h:Zwd L yM d v=some new):Ze3 (yM.map Stp.i) (d.er L) (v.er L)=some (new.er L):=by
 unfold Zwd at h;split at h
 ·cases h;unfold Ze3;rw[TD.er];dsimp only;rw[Zsa]
 ·cases h;unfold Ze3;split
  ·rw[Zsa]
  ·simp only[List.map_nil];rw[Zsa]
 ·rename_i h1 h2;cases h;unfold Ze3;split
  ·rename_i z hz;cases d <;> first|cases hz|skip
   grind
  simp_all
def ZhC(P:yg)(t:yb)(new sub:Dv):Bool:=new.solid&&new.size==sub.size&&P.cellsOf t==new.size&&(P.info? t).isSome&&new.isAgg==sub.isAgg
def ZKG(hi:HI):yn->yL (yL Nat×Ty×yb)
 |.tmp t=>(hi.gst.lookup t).getD []
 |_=>[]
def ZAc(P:yg)(gs:yL (yL Nat×Ty×yb))(t:yb)(all:yL TD)(H:yL TEnt)(K:Kn O)(v:TD):TD->yO O
 |.ref id yM=>match H[id]? with
  |some (.var d true)=>gpT (lk H) yM d λsub hs put=>(Zwd (lk H) yM d v).bind λnew=>(put new).bind λd'=>(Zn7 d' H.length gs).bind λz=>
   if ZhC P t (new.er (lk H)) (sub.er (lk H))=true then K all .junk (H.set id (.var z.1 true)++Zx5 z.2) (hs++(ghH gs++[.raw])) 2 else none
  |_=>none
 |.rref id v' yM=>match H[id]? with
  |some (.row w s true e d)=>gpT (lk H) yM d λsub hs put=>(Zwd (lk H) yM d v).bind λnew=>(put new).bind λd'=>
   if(ZhC P t (new.er (lk H)) (sub.er (lk H))&&w==v'&&rowN (d'.er (lk H)) s==rowN (d.er (lk H)) s)=true then K all .junk (H.set id (.row v' s true e d')) hs 2 else none
  |_=>none
 |_=>none
theorem Zx7{gs:yL (yL Nat×Ty×yb)}{t:yb}{x y:yn}{xd yd:TD}(ho:o.op=.store t x y)(hx:arT P ts 0 x=some xd)(hy:arT P ts t y=some yd)(h:ZAc P gs t all H K yd xd=some out):
 ∃a d H' hs c,K a d H' hs c=some out/\Good P o ts all H a d H' hs c:=by
 have hv:=Zv (L:=lk H) hx;have hw:=Zv (L:=lk H) hy;unfold ZAc at h;split at h
 ·rename_i id yM;split at h
  ·rename_i d hd;obtain⟨sub,hs,put,C,k1,k2,k3,k4⟩:=Wy _ _ _ _ h;obtain⟨new,h1,h2⟩:=yf.1 k1;obtain⟨d',h3,h2⟩:=yf.1 h2;obtain⟨z,h5,h2⟩:=yf.1 h2;obtain⟨h4,h2⟩:=Zc h2;unfold ZhC at h4;obtain⟨g1,g2⟩:=Zpf z.2 (H.set id (.var z.1 true));have hL:lk (H.set id (.var z.1 true))=lk H:=Zah hd rfl rfl;refine⟨_,_,_,_,_,h2, ?_,rfl,or3 (⟨rfl,λyJ=> ?_,λyJ=> ?_,C++[Zb2 yM=Vu yM],Zk.2 ⟨k2,(WF _).symm,ytt⟩,λyJ=> ?_⟩)⟩
   ·rw[<-ers_cont g1 all,hL]
   ·unfold evN;rw[ho]
   ·unfold evR;rw[ho]
   ·have k5:=Znd gs d' H.length z (ZE8 H) h5 yJ;unfold evE;rw[ho];dsimp only;rw[hv,hw];dsimp only[TD.er];rw[Yf hd];dsimp only[TEnt.er];rw[yx,k3 (ghH gs++[Hint.raw]++yJ)];dsimp only;rw[Zpg h1];dsimp only;rw[k4 new d' h3 _];dsimp only;rw[yW h4,Z1,yx];rw[show([Hint.raw]++yJ)=.raw::yJ from rfl,k5]
    dsimp only;rw[g2,WV hL];rfl
  ·cases h
 ·rename_i id v' yM;split at h
  ·rename_i w s e d hd;obtain⟨sub,hs,put,C,k1,k2,k3,k4⟩:=Wy _ _ _ _ h;obtain⟨new,h1,h2⟩:=yf.1 k1;obtain⟨d',h3,h2⟩:=yf.1 h2;obtain⟨h4,h2⟩:=Zc h2;rw[yi,yi] at h4;obtain⟨⟨h4,h5⟩,h6⟩:=h4;have h4':=h4;unfold ZhC at h4';have hL:lk (H.set id (.row v' s true e d'))=lk H:=Zah hd rfl rfl;refine⟨_,_,_,_,_,h2,Zgr hd rfl rfl,rfl,or3 (⟨rfl,λyJ=> ?_,λyJ=> ?_,C++[Zb2 yM=Vu yM],Zk.2 ⟨k2,(WF _).symm,ytt⟩,λyJ=> ?_⟩)⟩
   ·unfold evN;rw[ho]
   ·unfold evR;rw[ho]
   ·unfold evE;rw[ho];dsimp only;rw[hv,hw];dsimp only[TD.er];rw[Yf hd];dsimp only[TEnt.er];rw[k3 yJ];dsimp only;rw[Zpg h1];dsimp only;rw[k4 new d' h3 _];dsimp only;rw[yW (by simp only[yi] at h4' ⊢;exact⟨⟨h4',h5⟩,h6⟩),WV hL];rfl
  ·cases h
 ·cases h
def Zwe(P:yg)(ts:yL TD)(t:yb)(len:Nat)(parts:yL (Nat×yn))(all:yL TD)(H:yL TEnt)(K:Kn O):yO O:=
 ZDb (lk H) P ts t len parts λT l e=>if(TD.frees H.length all&&H.all (TEnt.free H.length))=true then K all (.own H.length (some true) T none) (H++[.log T e l]) [.own] 2 else none
theorem Zwf{t:yb}{len:Nat}{parts:Array (Nat×yn)}(ho:o.op=.buildSlice t len parts)(h:Zwe P ts t len parts.toList all H K=some out):
 ∃a d H' hs c,K a d H' hs c=some out/\Good P o ts all H a d H' hs c:=by
 unfold Zwe at h;obtain⟨e,T,l,i,xs,h1,hu,hi,hl,hz,hs,hx⟩:=Zl5 h;obtain⟨h2,h1⟩:=Zc h1;rw[yi] at h2;refine⟨_,_,_,_,_,h1,Ziz h2.1,rfl,or3 (⟨rfl,λyJ=> ?_,λyJ=> ?_,[],zY,λyJ=> ?_⟩)⟩
 ·unfold evN;rw[ho];rfl
 ·unfold evR;rw[ho]
 ·unfold evE;rw[ho];dsimp only;rw[yae,yy];dsimp only;rw[hu];dsimp only;rw[hi,hl];dsimp only;rw[yW (by simpa using hz),hx,ZBA h2.2,Z1,TD.er,Zf4,hs]
def Zx8(P:yg)(T:Ty)(u:yb)(H:yL TEnt)(K:yL T.den->yL Hint->yO O)(x:TD):yO O:=
 match x with
 |.view id yM s lo n=>match P.underlying u with
  |some (.slice _)=>(Zr5 H id).bind λd=>gpT (lk H) yM d λsub hs _=>sub.inner.bind λy=>y.arow.bind λr=>(Ty.castL r.t T r.l).bind λl=>
   if(decide (s=T.size))=true then if(decide (lo+n<=r.n))=true then K ((l.drop lo).take n) hs else none else none
  |_=>none
 |.rv id v s lo n=>match P.underlying u,H[id]? with
  |some (.slice _),some (.row w s' _ _ d)=>d.inner.bind λy=>y.arow.bind λr=>(Ty.castL r.t T r.l).bind λl=>
   if(decide (s=T.size)&&decide (s'=T.size)&&w==v)=true then if(decide (lo+n<=r.n))=true then K ((l.drop lo).take n) [] else none else none
  |_,_=>none
 |.rw id=>match P.underlying u,H[id]? with
  |some (.slice _),some (.rowT T' v st e l')=>(Ty.castL T' T l').bind λl=>K l []
  |_,_=>none
 |x=>(ZtI (lk H) P T u x).bind λl=>K l []
theorem Zne{T:Ty}{u:yb}{x:TD}{K:yL T.den->yL Hint->yO O}(h:Zx8 P T u H K x=some out):
 ∃l hs C,K l hs=some out/\AllP C/\∀yJ,ZoX P T.size u (erH H) (hs++yJ) (x.er (lk H))=some (C,l.map T.enc,yJ):=by
 unfold Zx8 at h;split at h
 ·rename_i id yM s lo n;split at h
  ·rename_i e hu;obtain⟨d,h1,h⟩:=yf.1 h;obtain⟨st,h2,h3⟩:=Zgq h1;obtain⟨sub,hs,put,C,k1,k2,k3,_⟩:=Wy _ _ _ _ h;obtain⟨y,p1,k1⟩:=yf.1 k1;obtain⟨r,p2,k1⟩:=yf.1 k1;obtain⟨l,p3,k1⟩:=yf.1 k1;obtain⟨p4,k1⟩:=Zc k1;obtain⟨p5,k1⟩:=Zc k1;have p4:=yF p4;have p5:=yF p5
   have esub:sub.er (lk H)=.p (.arr r.n T.size (l.map T.enc)):=by
    rw[XV p1,TD.er,Zbj p2];obtain⟨e,p3⟩:=ZR p3;obtain⟨n0,t0,l0⟩:=r;dsimp only at e p3 ⊢;subst e;subst p3;rfl
   refine⟨_,_,C++[Zb2 yM=Vu yM,lo+n<=r.n],k1,Zk.2 ⟨k2,(WF _).symm,p5,ytt⟩,λyJ=> ?_⟩;unfold ZoX;rw[TD.er];dsimp only;rw[hu,h3];dsimp only;rw[k3 yJ,esub];dsimp only;rw[yW (by simp[p4]),ycj,List.map_drop]
  ·cases h
 ·rename_i id v s lo n;split at h
  ·rename_i e w s' st e' d hu hd;obtain⟨y,p1,k1⟩:=yf.1 h;obtain⟨r,p2,k1⟩:=yf.1 k1;obtain⟨l,p3,k1⟩:=yf.1 k1;obtain⟨p4,k1⟩:=Zc k1;obtain⟨p5,k1⟩:=Zc k1;simp only[yi,yP] at p4;have p5:=yF p5
   have esub:d.er (lk H)=.p (.arr r.n T.size (l.map T.enc)):=by
    rw[XV p1,TD.er,Zbj p2];obtain⟨e,p3⟩:=ZR p3;obtain⟨n0,t0,l0⟩:=r;dsimp only at e p3 ⊢;subst e;subst p3;rfl
   refine⟨_,_,[lo+n<=r.n],k1,⟨p5,ytt⟩,λyJ=> ?_⟩;unfold ZoX;rw[TD.er];dsimp only;rw[hu,Yf hd,TEnt.er,esub];dsimp only;rw[yW (by simp[p4]),ycj,List.map_drop];rfl
  ·cases h
 ·rename_i id;split at h
  ·rename_i e T' v st e' l' hu hd;obtain⟨l,p3,k1⟩:=yf.1 h;obtain⟨eT,p3⟩:=ZR p3;subst eT;subst p3;refine⟨l,[],[0+l.length<=l.length],k1,⟨by omega,ytt⟩,λyJ=> ?_⟩;unfold ZoX;rw[(Zc0 hd).1];dsimp only;rw[hu,Yf hd,TEnt.er];dsimp only;rw[yW (by simp),List.drop_zero, <-yaa (f:=T'.enc),yag];simp
  ·cases h
 ·rename_i hx hx2 hx3;obtain⟨l,h1,h⟩:=yf.1 h;refine⟨l,[],[],h,zY,λyJ=> ?_⟩;rw[yy];unfold ZoX;split
  ·rename_i e;cases x <;> first|cases e|skip
   exact absurd rfl (hx _ _ _ _ _)
  ·rename_i e;cases x <;> first|cases e|skip
   ·exact absurd rfl (hx2 _ _ _ _ _)
   ·exact absurd rfl (hx3 _)
  ·rw[ZhA h1];rfl
structure LogE where
 t:Ty
 e:yb
 l:List t.den
def ZE9(H:yL TEnt)(id:Nat):yO LogE:=
 match H[id]? with
 |some (.log t e l)=>some ⟨t,e,l⟩
 |_=>none
theorem ZAd{id:Nat}{m:LogE}(h:ZE9 H id=some m):H[id]? =some (.log m.t m.e m.l):=by
 unfold ZE9 at h;split at h
 ·rename_i hd;cases h;exact hd
 ·cases h
def apB(n m b:Nat):Bool:=decide ((n+m)*b<=bytesBound)&&decide (n+m<=maxLen)
def Zwg(P:yg)(own row:Bool)(t u:yb)(all:yL TD)(H:yL TEnt)(K:Kn O)(y:TD):TD->yO O
 |.own id nn T none=>match P.underlying t with
  |some (.slice e)=>(P.info? e).bind λi=>(ZE9 H id).bind λm=>(Ty.castL m.t T m.l).bind λzs=>Zx8 P T u H (λys hs=>
   if(zOk i&&decide (i.size=T.size)&&decide (m.e=e)&&decide (T.size≠0))=true then if apB zs.length ys.length i.bytes=true then
    K (TD.stales (lk H) id all) (.own id none T none) ((H.map (TEnt.stale (lk H) id)).set id (.log T e (zs++ys))) hs 2 else none else none) y
  |_=>none
 |.rv id v s lo n=>match P.underlying t with
  |some (.slice e)=>(P.info? e).bind λi=>(Zkr P tyD e).bind λT=>Zx8 P T u H (λys hs=>if ys.isEmpty=true then
    if(zOk i&&decide (P.cellsOf e=T.size))=true then K all (.rv id v s lo n) H (.bare::hs) 2 else none
   else match H[id]? with
    |some (.row w s' true e' d)=>d.inner.bind λy0=>y0.arow.bind λr=>(Ty.castL r.t T r.l).bind λxs=>
     if(zOk i&&decide (i.size=T.size)&&decide (s'=T.size)&&decide (e'=e)&&decide (T.size≠0)&&w==v&&decide (lo=0)&&decide (s=T.size))=true then if(decide (n<=r.n)&&apB n ys.length i.bytes)=true then
      K all (.rv id (v+1) s 0 (n+ys.length)) (H.set id (.row (v+1) s true e (.p (.v (.arr (n+ys.length) T) (xs.take n++ys))))) (.raw::hs) 2 else none else none
    |_=>none) y
  |_=>none
 |.p (.sl (some false) _ [])=>if row then match P.underlying t with
  |some (.slice e)=>(P.info? e).bind λi=>(Zkr P tyD e).bind λT=>(ZtI (lk H) P T u y).bind λys=>
   if(zOk i&&i.size !=0&&decide (i.size=T.size)&&decide (P.cellsOf e=T.size))=true then if lenB ys.length i.bytes=true then
    K all (.rv H.length 0 i.size 0 ys.length) (H++[.row 0 i.size true e (.p (.v (.arr ys.length T) ys))]) [.arr] 2 else none else none
  |_=>none else if own then match P.underlying t with
  |some (.slice e)=>(P.info? e).bind λi=>(Zkr P tyD e).bind λT=>(ZtI (lk H) P T u y).bind λys=>
   if(zOk i&&i.size !=0&&decide (i.size=T.size)&&decide (P.cellsOf e=T.size)&&TD.frees H.length all&&H.all (TEnt.free H.length))=true then if lenB ys.length i.bytes=true then
    K all (.own H.length none T none) (H++[.log T e ys]) [.own] 2 else none else none
  |_=>none else none
 |_=>none
theorem ZFa{id:Nat}{T:Ty}{e:yb}{l:yL T.den}(H:yL TEnt)(h:id < H.length):Ym (lk (H.set id (.log T e l))) id T none=l:=by
 unfold Ym lk;dsimp only;rw[ycw h];show(Ty.castL T T l).getD []=l;unfold Ty.castL;split
 ·rfl
 ·rename_i h _;exact absurd rfl h
theorem ZdG{L:Lk}{n:Nat}:∀(l:yL TD),(TD.stales L n l).length=l.length
 |[]=>rfl
 |_::r=>by rw[TD.stales,yao,yao,ZdG r]
def ZAe(H:yL TEnt):TD->TD
 |.own id nn T (some zs)=>match H[id]? with
  |some (.log t e l)=>match Ty.castL t T l with
   |some l'=>if@decide (l'=zs) (@instDecidableEqList T.den (Ty.deq T) l' zs)=true then .own id nn T none else .own id nn T (some zs)
   |none=>.own id nn T (some zs)
  |_=>.own id nn T (some zs)
 |d=>d
theorem ZDe(d:TD):(ZAe H d).er (lk H)=d.er (lk H):=by
 unfold ZAe;split
 ·rename_i id nn T zs;split
  ·rename_i t e l hd;split
   ·rename_i l' hc;split
    ·rename_i he;have he:=@of_decide_eq_true _ (@instDecidableEqList T.den (Ty.deq T) l' zs) he;rw[TD.er,TD.er]
     have:Ym (lk H) id T none=zs:=by
      unfold Ym lk;dsimp only;rw[hd];show(Ty.castL t T l).getD []=zs;rw[hc, <-he];rfl
     rw[this];rfl
    ·rfl
   ·rfl
  ·rfl
 ·rfl
theorem Zwh{own row:Bool}{t u:yb}{x y:yn}{c:Call}{xd yd:TD}(ho:o.op=.call c)(hc:c.callee=.builtin .append)(ha:c.args.toList=[x,y])(ht:c.argTypes.toList=[t,u])
 (hv:argD P (TD.ers (lk H) ts) t x=xd.er (lk H)) (hy:arT P ts u y=some yd) (h:Zwg P own row t u all H K yd xd=some out):∃a d H' hs c,K a d H' hs c=some out/\Good P o ts all H a d H' hs c:=by
 have hw:=Zv (L:=lk H) hy;unfold Zwg at h;split at h
 ·rename_i id nn T;split at h
  ·rename_i e hu;obtain⟨i,h1,h⟩:=yf.1 h;obtain⟨m,h2,h⟩:=yf.1 h;obtain⟨zs,h3,h⟩:=yf.1 h;obtain⟨ys,hs,C,k1,k2,k3⟩:=Zne h;obtain⟨k4,k6⟩:=Zc k1;obtain⟨k5,kk⟩:=Zc k6;clear k1 k6;simp only[yi,yP] at k4;obtain⟨⟨⟨g1,g2⟩,g3⟩,g4⟩:=k4;simp only[apB,yi,yP] at k5;have hl:=ZAd h2;obtain⟨mt,me,ml⟩:=m;dsimp only at h3 g3 hl;obtain⟨eT,h3⟩:=ZR h3;subst eT;subst h3;subst g3;have hlt:id < H.length:=(yo.1 hl).1
   have ec:Ym (lk H) id mt none=zs:=by
    unfold Ym lk;dsimp only;rw[hl];show(Ty.castL mt mt zs).getD []=zs;unfold Ty.castL;split
    ·rfl
    ·rename_i h _;exact absurd rfl h
   refine⟨_,_,_,_,_,kk,ers_stale (λid' t hn=>QO (lk H) id' t hn) all,ZdG all,or3 (⟨rfl,λyJ=> ?_,λyJ=> ?_,
    C++[zs.map mt.enc=zs.map mt.enc,((zs.map mt.enc).length+(ys.map mt.enc).length)*i.bytes<=bytesBound,(zs.map mt.enc).length+(ys.map mt.enc).length<=maxLen],Zk.2 ⟨k2,rfl,by simpa using k5.1,by simpa using k5.2,ytt⟩,λyJ=> ?_⟩)⟩
   ·unfold evN;rw[ho];dsimp only;rw[hc];dsimp only;rw[ha,ht];split
    ·rename_i e1 e2 e3;simp only[List.cons.injEq,and_true] at e1 e2;obtain⟨rfl,rfl⟩:=e1;obtain⟨rfl,rfl⟩:=e2;rw[hu,hv];rfl
    ·rfl
   ·unfold evR;rw[ho];dsimp only;rw[hc]
   ·unfold evE;rw[ho];dsimp only;rw[hc];dsimp only;rw[ha,ht];dsimp only;rw[hu,hv,hw];dsimp only[TD.er];rw[ec,h1,k3 yJ,Yf hl];dsimp only[TEnt.er];rw[yW (by simp[g1,g2,g4]),ZE4,ZFa _ (by rw[yaa];exact hlt),yau]
  ·cases h
 ·rename_i id v s lo n;split at h
  ·rename_i e hu;obtain⟨i,h1,h⟩:=yf.1 h;obtain⟨T,h2,h⟩:=yf.1 h;obtain⟨ys,hs,C,k1,k2,k3⟩:=Zne h
   have nN:∀hs,evN P o (TD.ers (lk H) ts) hs=none:=λhs=>by
    unfold evN;rw[ho];dsimp only;rw[hc];dsimp only;rw[ha,ht]
    cases hs with
    |nil=>rfl
    |cons h0 hr=>cases h0 <;> first|rfl|(dsimp only;rw[hu,hv];rfl)
   have nR:∀hs,evR P o (TD.ers (lk H) ts) (erH H) hs=none:=λhs=>by
    unfold evR;rw[ho];dsimp only;rw[hc]
   split at k1
   ·rename_i hemp;obtain⟨k4,k5⟩:=Zc k1;simp only[yi,yP] at k4;have hys:ys=[]:=by simpa using hemp
    refine⟨_,_,_,_,_,k5,rfl,rfl,or3 (⟨rfl,λyJ=>nN _,λyJ=>nR _,C++[ys.map T.enc=[]],Zk.2 ⟨k2,by rw[hys];rfl,ytt⟩,λyJ=> ?_⟩)⟩;unfold evE;rw[ho];dsimp only;rw[hc];dsimp only;rw[ha,ht];dsimp only;rw[hu,hv,hw];dsimp only[TD.er];rw[yae];dsimp only;rw[h1,k4.2,k3 yJ];dsimp only;rw[yW k4.1]
   ·split at k1
    ·rename_i w s' e' d hd;obtain⟨y0,p1,q1⟩:=yf.1 k1;obtain⟨r,p2,q2⟩:=yf.1 q1;obtain⟨xs,p3,q3⟩:=yf.1 q2;obtain⟨p4,q4⟩:=Zc q3;obtain⟨p5,q5⟩:=Zc q4;simp only[yi,yP,yT] at p4;obtain⟨⟨⟨⟨⟨⟨⟨g1,g2⟩,g3⟩,g4⟩,g5⟩,g6⟩,g7⟩,g8⟩:=p4;simp only[apB,yi,yP] at p5
     have esub:d.er (lk H)=.p (.arr r.n T.size (xs.map T.enc)):=by
      rw[XV p1,TD.er,Zbj p2];obtain⟨e,p3⟩:=ZR p3;obtain⟨n0,t0,l0⟩:=r;dsimp only at e p3 ⊢;subst e;subst p3;rfl
     refine⟨_,_,_,_,_,q5,Zgr hd rfl rfl,rfl,or3 (⟨rfl,λyJ=>nN _,λyJ=>nR _,C++[n<=r.n,(n+(ys.map T.enc).length)*i.bytes<=bytesBound,n+(ys.map T.enc).length<=maxLen,true=true\/n=r.n],
      Zk.2 ⟨k2,p5.1,by simpa using p5.2.1,by simpa using p5.2.2,.inl rfl,ytt⟩,λyJ=> ?_⟩)⟩
     unfold evE;rw[ho];dsimp only;rw[hc];dsimp only;rw[ha,ht];dsimp only;rw[hu,hv,hw];dsimp only[TD.er];rw[yae];dsimp only;rw[h1,g8,k3 yJ,Yf hd,TEnt.er,esub];dsimp only;rw[yW (by simp[g1,g2,g3,g4,g5,g6,g7]),WV (Zah hd rfl rfl)];simp only[TEnt.er,TD.er,TP.pe,ZvU,yaa,yau,ycj]
    ·cases k1
  ·cases h
 ·rename_i T0;split at h
  ·split at h
   ·rename_i e hu;obtain⟨i,h1,h⟩:=yf.1 h;obtain⟨T,h2,h⟩:=yf.1 h;obtain⟨ys,h3,h⟩:=yf.1 h;obtain⟨k4,h⟩:=Zc h;obtain⟨k5,h⟩:=Zc h;simp only[yi,yP] at k4;obtain⟨⟨⟨g1,g2⟩,g3⟩,g4⟩:=k4;obtain⟨g7,g8⟩:=Zbc k5;refine⟨_,_,_,_,_,h,Zl7 rfl,rfl,or3 (⟨rfl,λyJ=> ?_,λyJ=> ?_,[(ys.map T.enc).length*i.bytes<=bytesBound,(ys.map T.enc).length<=maxLen],⟨by rw[yaa];exact g7,by rw[yaa];exact g8,ytt⟩,λyJ=> ?_⟩)⟩
    ·unfold evN;rw[ho];dsimp only;rw[hc];dsimp only;rw[ha,ht];rfl
    ·unfold evR;rw[ho];dsimp only;rw[hc]
    ·unfold evE;rw[ho];dsimp only;rw[hc];dsimp only;rw[ha,ht];dsimp only;rw[hu,hv,hw,show(TD.p (TP.sl (some false) T0 [])).er (lk H)=Dv.p (.sl (some false) T0.size []) from rfl]
     dsimp only;rw[h1,g4,ZhA h3,yae,yy];dsimp only;rw[yW (by simp only[yi];exact⟨g1,g2⟩),ZkZ (Zl6 rfl),Z1];simp only[TEnt.er,TD.er,TP.pe,ZvU,yaa,g3]
   ·cases h
  split at h
  ·split at h
   ·rename_i e hu;obtain⟨i,h1,h⟩:=yf.1 h;obtain⟨T,h2,h⟩:=yf.1 h;obtain⟨ys,h3,h⟩:=yf.1 h;obtain⟨k4,h⟩:=Zc h;obtain⟨k5,h⟩:=Zc h;simp only[yi,yP] at k4;obtain⟨⟨⟨⟨⟨g1,g2⟩,g3⟩,g4⟩,g5⟩,g6⟩:=k4;obtain⟨g7,g8⟩:=Zbc k5;refine⟨_,_,_,_,_,h,Ziz g5,rfl,or3 (⟨rfl,λyJ=> ?_,λyJ=> ?_,[(ys.map T.enc).length*i.bytes<=bytesBound,(ys.map T.enc).length<=maxLen],⟨by rw[yaa];exact g7,by rw[yaa];exact g8,ytt⟩,λyJ=> ?_⟩)⟩
    ·unfold evN;rw[ho];dsimp only;rw[hc];dsimp only;rw[ha,ht];rfl
    ·unfold evR;rw[ho];dsimp only;rw[hc]
    ·unfold evE;rw[ho];dsimp only;rw[hc];dsimp only;rw[ha,ht];dsimp only;rw[hu,hv,hw,show(TD.p (TP.sl (some false) T0 [])).er (lk H)=Dv.p (.sl (some false) T0.size []) from rfl]
     dsimp only;rw[h1,g4,ZhA h3,yae,yy];dsimp only;rw[yW (by simp only[yi];exact⟨g1,g2⟩),ZBA g6,Z1,TD.er,Zf4,g3]
   ·cases h
  ·cases h
 ·cases h
def ZFb(P:yg)(t u:yb)(all:yL TD)(H:yL TEnt)(K:Kn O)(y:TD):TD->yO O
 |.view id yM s lo n=>match P.underlying t,H[id]? with
  |some (.slice e),some (.var d true)=>gpT (lk H) yM d λsub hs put=>sub.inner.bind λy0=>y0.arow.bind λr=>(ZtI (lk H) P r.t u y).bind λys=>
   (put (.p (.v (.arr r.n r.t) (r.l.take lo++(ys++r.l.drop (lo+ys.length)))))).bind λd'=>
     if(decide (r.t.size=s)&&decide (P.cellsOf e=s)&&(P.info? e).isSome&&decide (ys.length<=n)&&decide (lo+n<=r.n))=true then K all (.p (.v (.int .i64) (ys.length:Int))) (H.set id (.var d' true)) hs 2 else none
  |_,_=>none
 |_=>none
theorem ZAf{t u:yb}{x y:yn}{c:Call}{xd yd:TD}(ho:o.op=.call c)(hc:c.callee=.builtin .copy)(ha:c.args.toList=[x,y])(ht:c.argTypes.toList=[t,u])
 (hx:arT P ts t x=some xd) (hy:arT P ts u y=some yd) (h:ZFb P t u all H K yd xd=some out):∃a d H' hs c,K a d H' hs c=some out/\Good P o ts all H a d H' hs c:=by
 have hv:=Zv (L:=lk H) hx;have hw:=Zv (L:=lk H) hy;unfold ZFb at h;split at h
 ·rename_i id yM s lo n;split at h
  ·rename_i e d hu hd;obtain⟨sub,hs,put,C,k1,k2,k3,k4⟩:=Wy _ _ _ _ h;obtain⟨y0,p1,k1⟩:=yf.1 k1;obtain⟨r,p2,k1⟩:=yf.1 k1;obtain⟨ys,p3,k1⟩:=yf.1 k1;obtain⟨d',p4,k1⟩:=yf.1 k1;obtain⟨p5,k1⟩:=Zc k1;simp only[yi,yP] at p5;obtain⟨⟨⟨⟨g1,g2⟩,g3⟩,g4⟩,g5⟩:=p5;have esub:sub.er (lk H)=.p (.arr r.n r.t.size (r.l.map r.t.enc)):=by rw[XV p1,TD.er,Zbj p2]
   refine⟨_,_,_,_,_,k1,Zgr hd rfl rfl,rfl,or3 (⟨rfl,λyJ=> ?_,λyJ=> ?_,C++[Zb2 yM=Vu yM,(ys.map r.t.enc).length<=n,lo+n<=r.n],Zk.2 ⟨k2,(WF _).symm,by rw[yaa];exact g4,g5,ytt⟩,λyJ=> ?_⟩)⟩
   ·unfold evN;rw[ho];dsimp only;rw[hc]
   ·unfold evR;rw[ho];dsimp only;rw[hc]
   ·unfold evE;rw[ho];dsimp only;rw[hc];dsimp only;rw[ha,ht];dsimp only;rw[hu,hv,hw];dsimp only[TD.er];rw[<-g1,ZhA p3,Yf hd];dsimp only[TEnt.er];rw[k3 yJ,esub];dsimp only;have:=k4 _ _ p4 yJ
    have e1:(TD.p (.v (.arr r.n r.t) (r.l.take lo++(ys++r.l.drop (lo+ys.length))))).er (lk H)=.p (.arr r.n r.t.size (ZoW (r.l.map r.t.enc) (ys.map r.t.enc) lo)):=by
     show Dv.p (Pl.arr r.n r.t.size ((r.l.take lo++(ys++r.l.drop (lo+ys.length))).map r.t.enc))=_;unfold ZoW;rw[yau,yau,ycj,List.map_drop,yaa]
    rw[e1] at this;rw[this];dsimp only;rw[yW (by simp only[yi,yP];exact⟨⟨zY,by rw[g1];exact g2⟩,g3⟩),WV (Zah hd rfl rfl),yaa];rfl
  ·cases h
 ·cases h
def ZAg(H:yL TEnt)(id:Nat):Bool:=
 match H[id]? with
 |some (.var _ false)=>true
 |_=>false
def ZJn(P:yg)(t:yb)(lo hi:yO Int)(all:yL TD)(H:yL TEnt)(K:Kn O):TD->yO O
 |.ref id yM=>match P.underlying t with
  |some (.array n e)=>(Zr5 H id).bind λd=>gpT (lk H) yM d λsub hs _=>sub.inner.bind λy=>y.arow.bind λr=>
   if(decide (n=r.n)&&okB P e r.t.size&&decide (n<=maxLen))=true then if VZ n lo hi=true then(if ZAg H id=true then K all (.p (.sl (some true) r.t (Ql r.l lo hi))) H (.frz::hs) 1 else
    K all (.p (.sl (some true) r.t (Ql r.l lo hi))) (H.set id (.var d false)) (.frz::hs) 2) else none else none
  |_=>none
 |_=>none
theorem ZDf{t:yb}{x:yn}{lo hi:yO yn}{l h':yO Int}{xd:TD}(ho:o.op=.slice t x lo hi none)(hx:arT P ts t x=some xd)(hl:Zg8 P ts lo=some l)(hh:Zg8 P ts hi=some h')
 (h:ZJn P t l h' all H K xd=some out):∃a d H' hs c,K a d H' hs c=some out/\Good P o ts all H a d H' hs c:=by
 have hv:=Zv (L:=lk H) hx;have hl:=Zcf (L:=lk H) hl;have hh:=Zcf (L:=lk H) hh;unfold ZJn at h;split at h
 ·rename_i id yM;split at h
  ·rename_i n e hu;obtain⟨d,h1,h⟩:=yf.1 h;obtain⟨st,h2,h3⟩:=Zgq h1;obtain⟨sub,hs,put,C,k1,k2,k3,_⟩:=Wy _ _ _ _ h;obtain⟨y,p1,k1⟩:=yf.1 k1;obtain⟨r,p2,k1⟩:=yf.1 k1;obtain⟨p4,k1⟩:=Zc k1;obtain⟨p5,k1⟩:=Zc k1;have esub:sub.er (lk H)=.p (.arr r.n r.t.size (r.l.map r.t.enc)):=by rw[XV p1,TD.er,Zbj p2]
   have nN:∀yJ,evN P o (TD.ers (lk H) ts) (.frz::hs++yJ)=none:=λyJ=>by
    unfold evN;rw[ho];dsimp only;rw[hu,hv,hl,hh];rfl
   split at k1
   ·rename_i hst
    have hst':st=false:=by
     unfold ZAg at hst;rw[h2] at hst
     cases st with
     |false=>rfl
     |true=>cases hst
    subst hst';refine⟨_,_,_,_,_,k1,rfl,rfl,.inr (.inl ⟨rfl,rfl,nN,C++[Zb2 yM=Vu yM]++XF n l h',Zk.2 ⟨Zk.2 ⟨k2,(WF _).symm,ytt⟩,Zgp p5⟩,λyJ=> ?_⟩)⟩;unfold evR;rw[ho];dsimp only;rw[hu,hv,hl,hh];dsimp only[TD.er];rw[yae];dsimp only;rw[h3];dsimp only;rw[k3 yJ,esub];dsimp only;rw[yW (by simpa[okB,and_assoc] using p4),TP.pe,Zhx]
   rename_i hst
   have hst':st=true:=by
    unfold ZAg at hst;rw[h2] at hst
    cases st with
    |true=>rfl
    |false=>exact absurd rfl hst
   subst hst';refine⟨_,_,_,_,_,k1,Zgr h2 rfl rfl,rfl,or3 (⟨rfl,nN,λyJ=> ?_,C++[Zb2 yM=Vu yM]++XF n l h',Zk.2 ⟨Zk.2 ⟨k2,(WF _).symm,ytt⟩,Zgp p5⟩,λyJ=> ?_⟩)⟩
   ·unfold evR;rw[ho];dsimp only;rw[hu,hv,hl,hh];dsimp only[TD.er];rw[yae];dsimp only;rw[h3]
   ·unfold evE;rw[ho];dsimp only;rw[hu,hv,hl,hh];dsimp only[TD.er];rw[yae];dsimp only;rw[h3];dsimp only;rw[k3 yJ,esub];dsimp only;rw[yW (by simpa[okB,and_assoc] using p4),WV (Zah h2 rfl rfl),TP.pe,Zhx];rfl
  ·cases h
 ·cases h
def Zwi(dst:Tmp)(all:yL TD)(H:yL TEnt)(K:Kn O):TD->yO O
 |.view id yM s lo n=>(Zr5 H id).bind λd=>gpT (lk H) yM d λsub hs _=>sub.inner.bind λy=>y.arow.bind λr=>
  if(decide (r.t.size=s))=true then if(decide (lo+n<=r.n))=true then K all (.p (.sl (some true) r.t ((r.l.drop lo).take n))) (H.set id (.var d false)) (.still dst::hs) 2 else none else none
 |.rv id v s lo n=>match H[id]? with
  |some (.row w s' _ e d)=>d.inner.bind λy=>y.arow.bind λr=>
   if(decide (r.t.size=s)&&decide (s'=s)&&w==v)=true then if(decide (lo+n<=r.n))=true then K all (.p (.sl none r.t ((r.l.drop lo).take n))) (H.set id (.row v s false e d)) [.still dst] 2 else none else none
  |_=>none
 |_=>none
theorem Zx9{dst:Tmp}{xd:TD}(h:Zwi dst all H K xd=some out):∃a d H' hs,K a d H' (.still dst::hs) 2=some out/\TD.ers (lk H') a=TD.ers (lk H) all/\a.length=all.length/\
 ∃C,AllP C/\∀yJ,Zf9 (xd.er (lk H)) (erH H) (hs++yJ)=some (C,d.er (lk H'),erH H',yJ):=by
 unfold Zwi at h;split at h
 ·rename_i id yM s lo n;obtain⟨d,h1,h⟩:=yf.1 h;obtain⟨st,h2,h3⟩:=Zgq h1;obtain⟨sub,hs,put,C,k1,k2,k3,_⟩:=Wy _ _ _ _ h;obtain⟨y,p1,k1⟩:=yf.1 k1;obtain⟨r,p2,k1⟩:=yf.1 k1;obtain⟨p4,k1⟩:=Zc k1;obtain⟨p5,k1⟩:=Zc k1;have p4:=yF p4;have p5:=yF p5;have esub:sub.er (lk H)=.p (.arr r.n r.t.size (r.l.map r.t.enc)):=by rw[XV p1,TD.er,Zbj p2]
  refine⟨_,_,_,_,k1,Zgr h2 rfl rfl,rfl,C++[Zb2 yM=Vu yM,lo+n<=r.n],Zk.2 ⟨k2,(WF _).symm,p5,ytt⟩,λyJ=> ?_⟩;unfold Zf9;rw[show(TD.view id yM s lo n).er (lk H)=Dv.view id (Vu yM) (yM.map Stp.i) s lo n from rfl]
  try dsimp only
  rw[h3]
  try dsimp only
  rw[k3 yJ,esub]
  try dsimp only
  rw[yW p4,WV (Zah h2 rfl rfl),TD.er,TP.pe,ycj,List.map_drop,p4]
  try rfl
 ·rename_i id v s lo n;split at h
  ·rename_i w s' st e d hd;obtain⟨y,p1,k1⟩:=yf.1 h;obtain⟨r,p2,k1⟩:=yf.1 k1;obtain⟨p4,k1⟩:=Zc k1;obtain⟨p5,k1⟩:=Zc k1;simp only[yi,yP] at p4;have p5:=yF p5;have esub:d.er (lk H)=.p (.arr r.n r.t.size (r.l.map r.t.enc)):=by rw[XV p1,TD.er,Zbj p2]
   refine⟨_,_,_,[],k1,Zgr hd rfl rfl,rfl,[lo+n<=r.n],⟨p5,ytt⟩,λyJ=> ?_⟩;rw[yy];unfold Zf9;rw[show(TD.rv id v s lo n).er (lk H)=Dv.rv id v s lo n from rfl]
   dsimp only;rw[Yf hd,TEnt.er,esub];dsimp only;rw[yW (by simp[p4]),WV (Zah hd rfl rfl),TEnt.er,esub,TD.er,TP.pe,ycj,List.map_drop,p4.1.1]
  ·cases h
 ·cases h
theorem Zya{x:yn}{dst:Tmp}{xd:TD}(ho:o.op=.assign x\/o.op=.move x)(hd:o.dst=some dst)(hx:arT P ts o.type x=some xd)(h:Zwi dst all H K xd=some out):
 ∃a d H' hs c,K a d H' hs c=some out/\Good P o ts all H a d H' hs c:=by
 have hv:=Zv (L:=lk H) hx;obtain⟨a,d,H',hs,k1,k2,k3,C,k4,k5⟩:=Zx9 h;refine⟨_,_,_,_,_,k1,k2,k3,or3 (⟨rfl,λyJ=> ?_,λyJ=> ?_,C,k4,λyJ=> ?_⟩)⟩
 ·rcases ho with ho|ho <;> (unfold evN;rw[ho];rfl)
 ·rcases ho with ho|ho <;> (unfold evR;rw[ho])
 ·rcases ho with ho|ho
  ·unfold evE;rw[ho];dsimp only;rw[yae];dsimp only;rw[yW hd,hv];exact k5 yJ
  ·unfold evE;rw[ho];dsimp only;rw[yae];dsimp only;rw[yW hd,hv];exact k5 yJ
def TD.isRw:TD->Bool
 |.rw _=>true
 |_=>false
def TD.isRp:TD->Bool
 |.rp _ _=>true
 |_=>false
theorem ZBC{id:Nat}{T:Ty}{v:yL Unit}{st st':Bool}{e e':yb}{l l':yL T.den}(hd:H[id]? =some (.rowT T v st e l))(hl:l'.length=l.length):lk (H.set id (.rowT T v st' e' l'))=lk H:=by
 funext j;unfold lk;by_cases hj:id=j
 ·subst hj;rw[getElem?_set_eq' hd,hd];show some _=some _;rw[hl]
 grind
def Zwj(P:yg)(t:yb)(i:Int)(all:yL TD)(H:yL TEnt)(K:Kn O):TD->yO O
 |.rw id=>match P.underlying t,H[id]? with
  |some (.slice e),some (.rowT T v st e' l)=>if okB P e T.size=true then if inB i l.length=true then K all (.rp id [.ix i.toNat T.size]) H [] 0 else none else none
  |_,_=>none
 |_=>none
theorem Zwk{t:yb}{x ix:yn}{xd:TD}{q:IntKind×Int}{ip:TP}(ho:o.op=.indexAddr t x ix)(hx:arT P ts t x=some xd)(hi:arT P ts 0 ix=some (.p ip))(hq:ZrZ ip=some q)(h:Zwj P t q.2 all H K xd=some out):
 ∃a d H' hs c,K a d H' hs c=some out/\Good P o ts all H a d H' hs c:=by
 have hv:=Zv (L:=lk H) hx;have hw:=Zv (L:=lk H) hi;rw[TD.er,(ZnV hq).1] at hw;unfold Zwj at h;split at h
 ·rename_i id;split at h
  ·rename_i e T v st e' l hu hd;obtain⟨h3,h⟩:=Zc h;obtain⟨h4,h⟩:=Zc h;refine⟨_,_,_,_,_,h,rfl,rfl,.inl ⟨rfl,rfl,[0<=q.2,q.2 < (l.length:Int)],⟨(QX h4).1,(QX h4).2,ytt⟩,λyJ=> ?_⟩⟩;simp only[yy];unfold evN;rw[ho];dsimp only;rw[hu,hv,hw,(Zc0 hd).1,(Zc0 hd).2];dsimp only;rw[yW (by simpa[okB] using h3)];simp[Vu,Stp.o,Stp.i]
  ·cases h
 ·cases h
def ZFc(P:yg)(t:yb)(all:yL TD)(H:yL TEnt)(K:Kn O):TD->yO O
 |.rw id=>match P.underlying t,H[id]? with
  |some (.slice _),some (.rowT T v st e' l)=>K all (.p (.v (.int .i64) (l.length:Int))) H [] 0
  |_,_=>none
 |_=>none
theorem ZAh{t:yb}{x:yn}{c:Call}{xd:TD}(ho:o.op=.call c)(hc:c.callee=.builtin .len)(ha:c.args.toList=[x])(ht:c.argTypes.toList=[t])(hx:arT P ts t x=some xd)(h:ZFc P t all H K xd=some out):
 ∃a d H' hs c,K a d H' hs c=some out/\Good P o ts all H a d H' hs c:=by
 have hv:=Zv (L:=lk H) hx;unfold ZFc at h;split at h
 ·rename_i id;split at h
  ·rename_i e T v st e' l hu hd;refine⟨_,_,_,_,_,h,rfl,rfl,.inl ⟨rfl,rfl,[],zY,λyJ=> ?_⟩⟩;simp only[yy];unfold evN;rw[ho];dsimp only;rw[hc];dsimp only;rw[ha,ht];dsimp only;rw[hu,hv,(Zc0 hd).1];rfl
  ·cases h
 ·cases h
def ZAi(P:yg)(t:yb)(all:yL TD)(H:yL TEnt)(K:Kn O):TD->yO O
 |.rp id yM=>match H[id]? with
  |some (.rowT T v st e l)=>gpT (lk H) yM (.p (.v (.arr l.length T) l)) λsub hs _=>if okT P t (sub.er (lk H))=true then K all sub H hs 1 else none
  |_=>none
 |_=>none
theorem Zyb{t:yb}{x:yn}{xd:TD}(ho:o.op=.load t x)(hx:arT P ts 0 x=some xd)(h:ZAi P t all H K xd=some out):∃a d H' hs c,K a d H' hs c=some out/\Good P o ts all H a d H' hs c:=by
 have hv:=Zv (L:=lk H) hx;unfold ZAi at h;split at h
 ·rename_i id yM;split at h
  ·rename_i T v st e l hd;obtain⟨sub,hs,put,C,k1,k2,k3,_⟩:=Wy _ _ _ _ h;obtain⟨k4,k5⟩:=Zc k1;refine⟨_,_,_,_,_,k5,rfl,rfl,.inr (.inl ⟨rfl,rfl,λyJ=> ?_,C++[Zb2 yM=Vu yM],Zk.2 ⟨k2,(WF _).symm,ytt⟩,λyJ=> ?_⟩)⟩
   ·unfold evN;rw[ho];dsimp only;rw[hv];rfl
   ·unfold evR;rw[ho];dsimp only;rw[hv,(Zc0 hd).2];dsimp only;rw[Yf hd];dsimp only[TEnt.er];have k6:YE (.p (.arr l.length T.size (l.map T.enc))) (yM.map Stp.i) (hs++yJ)=some (C,Zb2 yM,sub.er (lk H),yJ):=k3 yJ;grind
  ·cases h
 ·cases h
def Zwl(P:yg)(t:yb)(all:yL TD)(H:yL TEnt)(K:Kn O)(v:TD):TD->yO O
 |.rp id (.ix i s::r)=>match H[id]? with
  |some (.rowT T u true e l)=>if s=T.size then(l[i]?).bind λy=>gpT (lk H) r (.p (.v T y)) λsub hs put=>(put (v.meltP (lk H))).bind λd1=>d1.inner.bind λz=>(TP.to ZnT z T).bind λy'=>
   if ZhC P t ((v.meltP (lk H)).er (lk H)) (sub.er (lk H))=true then K all .junk (H.set id (.rowT T u true e (l.set i y'))) (.el (T.enc y)::hs) 2 else none else none
  |_=>none
 |_=>none
theorem Zwm{t:yb}{x y:yn}{xd yd:TD}(ho:o.op=.store t x y)(hx:arT P ts 0 x=some xd)(hy:arT P ts t y=some yd)(h:Zwl P t all H K yd xd=some out):
 ∃a d H' hs c,K a d H' hs c=some out/\Good P o ts all H a d H' hs c:=by
 have hv:=Zv (L:=lk H) hx;have hw:=Zv (L:=lk H) hy;unfold Zwl at h;split at h
 ·rename_i id i s r;split at h
  ·rename_i T u e l hd;split at h
   ·rename_i hs0;obtain⟨y0,h2,h⟩:=yf.1 h;obtain⟨sub,hs,put,C,k1,k2,k3,k4⟩:=Wy r (.p (.v T y0)) _ out h;obtain⟨d1,p1,k1⟩:=yf.1 k1;obtain⟨z,p2,k1⟩:=yf.1 k1;obtain⟨y',p3,k1⟩:=yf.1 k1;obtain⟨h4,k1⟩:=Zc k1;have h4':=h4;unfold ZhC at h4';have hL:lk (H.set id (.rowT T u true e (l.set i y')))=lk H:=ZBC hd (by rw[yan])
    have hg:∀yJ,YE (.p (.arr l.length T.size (l.map T.enc))) (i::r.map Stp.i) (.el (T.enc y0)::(hs++yJ))=some (((l.map T.enc)[i]? =some (T.enc y0))::C,i*T.size+Zb2 r,sub.er (lk H),yJ):=by
     intro yJ;unfold YE;dsimp only;have:=k3 yJ;rw[TD.er,TP.pe] at this;grind
    have hp:∀yJ,VA ((yd.meltP (lk H)).er (lk H)) (.p (.arr l.length T.size (l.map T.enc))) (i::r.map Stp.i) (.el (T.enc y0)::(hs++yJ))=some (.p (.arr l.length T.size ((l.set i y').map T.enc))):=by
     intro yJ;have:=k4 _ d1 p1 yJ;rw[TD.er,TP.pe] at this;unfold VA;dsimp only;rw[this,XV p2,TD.er];dsimp only;rw[Zjs z T y' p3, <-ybm]
    refine⟨_,_,_,_,_,k1,by rw[hL],rfl,or3 (⟨rfl,λyJ=> ?_,λyJ=> ?_,(((l.map T.enc)[i]? =some (T.enc y0))::C)++[i*T.size+Zb2 r=Vu (.ix i s::r)],
     Zk.2 ⟨⟨ZnY h2,k2⟩,by rw[WF,Zb2,Stp.o,hs0],ytt⟩,λyJ=> ?_⟩)⟩
    ·unfold evN;rw[ho]
    ·unfold evR;rw[ho]
    ·unfold evE;rw[ho];dsimp only;rw[hv,hw,(Zc0 hd).2];dsimp only;rw[Yf hd];dsimp only[TEnt.er];rw[yah,show(Stp.ix i s).i=i from rfl,yae,hg yJ]
     dsimp only;have hst:Ze3 (i::r.map Stp.i) (.p (.arr l.length T.size (l.map T.enc))) (yd.er (lk H))=some ((yd.meltP (lk H)).er (lk H)):=Zpg (yM:=.ix i s::r) (d:=.p (.v (.arr l.length T) l)) (v:=yd) (new:=yd.meltP (lk H)) (L:=lk H) rfl;rw[hst];dsimp only;rw[hp yJ];dsimp only;rw[yW (by simp only[yi] at h4' ⊢;exact⟨⟨h4',by simp⟩,by simp[rowN]⟩),WV hL];simp only[TEnt.er,yan];rfl
   ·cases h
  ·cases h
 ·cases h
def Zwn(dst:Tmp)(all:yL TD)(H:yL TEnt)(K:Kn O):TD->yO O
 |.rw id=>match H[id]? with
  |some (.rowT T v st e l)=>K all (.p (.sl none T l)) (H.set id (.rowT T v false e l)) [.still dst] 2
  |_=>none
 |_=>none
theorem Zwo{x:yn}{dst:Tmp}{xd:TD}(ho:o.op=.assign x\/o.op=.move x)(hd:o.dst=some dst)(hx:arT P ts o.type x=some xd)(h:Zwn dst all H K xd=some out):
 ∃a d H' hs c,K a d H' hs c=some out/\Good P o ts all H a d H' hs c:=by
 have hv:=Zv (L:=lk H) hx;unfold Zwn at h;split at h
 ·rename_i id;split at h
  ·rename_i T v st e l hr;have hL:lk (H.set id (.rowT T v false e l))=lk H:=ZBC hr rfl
   have k5:∀yJ,Zf9 ((TD.rw id).er (lk H)) (erH H) yJ=some ([0+l.length<=l.length],.p (.sl none T.size (l.map T.enc)),erH (H.set id (.rowT T v false e l)),yJ):=by
    intro yJ;unfold Zf9;rw[(Zc0 hr).1];dsimp only;rw[Yf hr,TEnt.er];dsimp only;rw[yW (by simp),WV hL,TEnt.er,List.drop_zero, <-yaa (f:=T.enc),yag]
   refine⟨_,_,_,_,_,h,by rw[hL],rfl,or3 (⟨rfl,λyJ=> ?_,λyJ=> ?_,[0+l.length<=l.length],⟨by omega,ytt⟩,λyJ=> ?_⟩)⟩
   ·rcases ho with ho|ho <;> (unfold evN;rw[ho];rfl)
   ·rcases ho with ho|ho <;> (unfold evR;rw[ho])
   ·rcases ho with ho|ho
    ·unfold evE;rw[ho];dsimp only;rw[yae];dsimp only;rw[yW hd,hv];exact k5 yJ
    ·unfold evE;rw[ho];dsimp only;rw[yae];dsimp only;rw[yW hd,hv];exact k5 yJ
  ·cases h
 ·cases h
theorem Zsb{L M:Lk}{n:Nat}(h:∀id t,id≠n->Ym L id t none=Ym M id t none)(x:TEnt)(hf:x.free n=true):x.er L=x.er M:=by
 cases x with
 |var d st=>rw[TEnt.er,TEnt.er,Zcg h d hf]
 |row v s st e d=>rw[TEnt.er,TEnt.er,Zcg h d hf]
 |rowM t np v st e pre d post=>rw[TEnt.er,TEnt.er,Zcg h d hf]
 |_=>rfl
theorem Zn8{T:Ty}{v:yL Unit}{st:Bool}{e:yb}{l:yL T.den}(h:H.all (TEnt.free H.length)=true):erH (H++[.rowT T v st e l])=erH H++[.row v.length T.size st e (.p (.arr l.length T.size (l.map T.enc)))]:=by
 unfold erH;rw[yau];congr 1;refine ycs λx hx=> ?_;have hf:=ybs.1 h x hx;exact(Zsb (λid t hn=>Zch id t hn) x hf).symm
theorem Zq5{T:Ty}{v:yL Unit}{st:Bool}{e:yb}{l:yL T.den}:(TD.rw H.length).er (lk (H++[.rowT T v st e l]))=.rv H.length v.length T.size 0 l.length:=
 (Zc0 (H:=H++[.rowT T v st e l]) (yde ..)).1
def Zsc(P:yg)(row:Bool)(t u:yb)(all:yL TD)(H:yL TEnt)(K:Kn O)(y:TD):TD->yO O
 |.rw id=>match P.underlying t,H[id]? with
  |some (.slice e),some (.rowT T v st e' l)=>(P.info? e).bind λi=>Zx8 P T u H (λys hs=>
   if(zOk i&&decide (i.size=T.size)&&decide (P.cellsOf e=T.size)&&decide (e'=e)&&decide (T.size≠0))=true then if apB l.length ys.length i.bytes=true then
    K (TD.stales (lk H) id all) (.rw id) ((H.map (TEnt.stale (lk H) id)).set id (.rowT T (()::v) st e (l++ys))) (.raw::hs) 2 else none else none) y
  |_,_=>none
 |.p (.sl (some false) _ [])=>match P.underlying t with
  |some (.slice e)=>(P.info? e).bind λi=>(Zkr P tyD e).bind λT=>(ZtI (lk H) P T u y).bind λys=>
   if(zOk i&&i.size !=0&&decide (i.size=T.size)&&decide (P.cellsOf e=T.size)&&TD.frees H.length all&&H.all (TEnt.free H.length))=true then if lenB ys.length i.bytes=true then
    K all (.rw H.length) (H++[.rowT T [] true e ys]) [.arr] 2 else none else none
  |_=>none
 |_=>none
theorem ZtK{row:Bool}{t u:yb}{x y:yn}{c:Call}{xd yd:TD}(ho:o.op=.call c)(hc:c.callee=.builtin .append)(ha:c.args.toList=[x,y])(ht:c.argTypes.toList=[t,u])
 (hv:argD P (TD.ers (lk H) ts) t x=xd.er (lk H)) (hy:arT P ts u y=some yd) (h:Zsc P row t u all H K yd xd=some out):∃a d H' hs c,K a d H' hs c=some out/\Good P o ts all H a d H' hs c:=by
 have hw:=Zv (L:=lk H) hy;unfold Zsc at h;split at h
 ·rename_i id;split at h
  ·rename_i e T v st e' l hu hd;obtain⟨i,h1,h⟩:=yf.1 h;obtain⟨ys,hs,C,k1,k2,k3⟩:=Zne h;obtain⟨k4,k6⟩:=Zc k1;obtain⟨k5,kk⟩:=Zc k6;clear k1 k6;simp only[yi,yP] at k4;obtain⟨⟨⟨⟨g1,g2⟩,g3⟩,g4⟩,g5⟩:=k4;subst g4;simp only[apB,yi,yP] at k5;have hlt:id < H.length:=(yo.1 hd).1
   refine⟨_,_,_,_,_,kk,ers_stale (λid' t hn=>QO (lk H) id' t hn) all,ZdG all,or3 (⟨rfl,λyJ=> ?_,λyJ=> ?_,
    C++[l.length<=l.length,(l.length+(ys.map T.enc).length)*i.bytes<=bytesBound,l.length+(ys.map T.enc).length<=maxLen,st=true\/l.length=l.length],Zk.2 ⟨k2,yl _,by simpa using k5.1,by simpa using k5.2,.inr rfl,ytt⟩,λyJ=> ?_⟩)⟩
   ·unfold evN;grind
   ·unfold evR;grind
   ·unfold evE;rw[ho];dsimp only;rw[hc];dsimp only;rw[ha,ht];dsimp only;rw[hu,hv,hw,(Zc0 hd).1];rw[yae];dsimp only;rw[h1,k3 yJ,Yf hd];dsimp only[TEnt.er]
    have hnew:((H.map (TEnt.stale (lk H) id)).set id (.rowT T (()::v) st e' (l++ys)))[id]? =some (.rowT T (()::v) st e' (l++ys)):=by
     grind
    have hH:erH ((H.map (TEnt.stale (lk H) id)).set id (.rowT T (()::v) st e' (l++ys)))=(erH H).set id (.row (v.length+1) T.size st e' (.p (.arr (l.length+ys.length) T.size (l.map T.enc++ys.map T.enc)))):=by
     unfold erH;rw[ybm,ybe]
     have:(TEnt.rowT T (()::v) st e' (l++ys)).er (lk ((H.map (TEnt.stale (lk H) id)).set id (.rowT T (()::v) st e' (l++ys))))=.row (v.length+1) T.size st e' (.p (.arr (l.length+ys.length) T.size (l.map T.enc++ys.map T.enc))):=by
      simp only[TEnt.er,yao,yj,yau]
     rw[this];congr 1;refine ycs λx hx=> ?_;exact Ziy (λid t hn=>QO (lk H) id t hn) x
    rw[yW (by simp[g1,g2,g5]),hH,(Zc0 hnew).1];simp only[yaa,yao,yj];rw[show(l.map T.enc).take l.length=l.map T.enc by rw[<-yaa (f:=T.enc),yag]]
  ·cases h
 ·rename_i T0;split at h
  ·rename_i e hu;obtain⟨i,h1,h⟩:=yf.1 h;obtain⟨T,h2,h⟩:=yf.1 h;obtain⟨ys,h3,h⟩:=yf.1 h;obtain⟨k4,h⟩:=Zc h;obtain⟨k5,h⟩:=Zc h;simp only[yi,yP] at k4;obtain⟨⟨⟨⟨⟨g1,g2⟩,g3⟩,g4⟩,g5⟩,g6⟩:=k4;obtain⟨g7,g8⟩:=Zbc k5;refine⟨_,_,_,_,_,h,Ziz g5,rfl,or3 (⟨rfl,λyJ=> ?_,λyJ=> ?_,[(ys.map T.enc).length*i.bytes<=bytesBound,(ys.map T.enc).length<=maxLen],⟨by rw[yaa];exact g7,by rw[yaa];exact g8,ytt⟩,λyJ=> ?_⟩)⟩
   ·unfold evN;grind
   ·unfold evR;grind
   ·unfold evE;rw[ho];dsimp only;rw[hc];dsimp only;rw[ha,ht];dsimp only;rw[hu,hv,hw,show(TD.p (TP.sl (some false) T0 [])).er (lk H)=Dv.p (.sl (some false) T0.size []) from rfl]
    dsimp only;rw[h1,g4,ZhA h3,yae,yy];dsimp only;rw[yW (by simp only[yi];exact⟨g1,g2⟩),Zn8 g6,Z1,Zq5,g3];grind
  ·cases h
 ·cases h
def ZFd(P:yg)(ts:yL TD)(t:yb)(len:Nat)(parts:yL (Nat×yn))(all:yL TD)(H:yL TEnt)(K:Kn O):yO O:=
 ZDb (lk H) P ts t len parts λT l e=>if(decide (l.length=len)&&TD.frees H.length all&&H.all (TEnt.free H.length))=true then K all (.rw H.length) (H++[.rowT T [] true e l]) [.arr] 2 else none
theorem ZAj{t:yb}{len:Nat}{parts:Array (Nat×yn)}(ho:o.op=.buildSlice t len parts)(h:ZFd P ts t len parts.toList all H K=some out):
 ∃a d H' hs c,K a d H' hs c=some out/\Good P o ts all H a d H' hs c:=by
 unfold ZFd at h;obtain⟨e,T,l,i,xs,h1,hu,hi,hl,hz,hs,hx⟩:=Zl5 h;obtain⟨h2,h1⟩:=Zc h1;simp only[yi,yP] at h2;obtain⟨⟨h2,g5⟩,g6⟩:=h2;refine⟨_,_,_,_,_,h1,Ziz g5,rfl,or3 (⟨rfl,λyJ=> ?_,λyJ=> ?_,[],zY,λyJ=> ?_⟩)⟩
 ·unfold evN;rw[ho];rfl
 ·unfold evR;rw[ho]
 ·unfold evE;rw[ho];dsimp only;rw[yae,yy];dsimp only;rw[hu];dsimp only;rw[hi,hl];dsimp only;rw[yW (by simpa using hz),hx,Zn8 g6,Zq5,Z1,hs,h2];rfl
def ZAk(P:yg)(ts:yL TD)(t:yb)(len:Nat)(parts:yL (Nat×yn))(id:Nat)(all:yL TD)(H:yL TEnt)(K:Kn O):yO O:=
 ZDb (lk H) P ts t len parts λT l e=>match H[id]? with
  |some (.rowT T' v _ e' _)=>if(decide (l.length=len)&&decide (e'=e)&&decide (T'.size=T.size))=true then K (TD.stales (lk H) id all) (.rw id) ((H.map (TEnt.stale (lk H) id)).set id (.rowT T (()::v) true e l)) [.fresh id] 2 else none
  |_=>none
theorem Zyc{t:yb}{len id:Nat}{parts:Array (Nat×yn)}(ho:o.op=.buildSlice t len parts)(h:ZAk P ts t len parts.toList id all H K=some out):
 ∃a d H' hs c,K a d H' hs c=some out/\Good P o ts all H a d H' hs c:=by
 unfold ZAk at h;obtain⟨e,T,l,i,xs,h1,hu,hi,hl,hz,hs,hx⟩:=Zl5 h;split at h1
 case h_2=>cases h1
 rename_i T0 v st e' l0 hd;obtain⟨h2,h1⟩:=Zc h1;simp only[yi,yP] at h2;obtain⟨⟨h2,rfl⟩,h3⟩:=h2;have hlt:id < H.length:=(yo.1 hd).1
 have hnew:((H.map (TEnt.stale (lk H) id)).set id (.rowT T (()::v) true e' l))[id]? =some (.rowT T (()::v) true e' l):=by
  grind
 have hH:erH ((H.map (TEnt.stale (lk H) id)).set id (.rowT T (()::v) true e' l))=(erH H).set id (.row (v.length+1) T.size true e' (.p (.arr l.length T.size (l.map T.enc)))):=by
  unfold erH;rw[ybm,ybe]
  have:(TEnt.rowT T (()::v) true e' l).er (lk ((H.map (TEnt.stale (lk H) id)).set id (.rowT T (()::v) true e' l)))=.row (v.length+1) T.size true e' (.p (.arr l.length T.size (l.map T.enc))):=by
   simp only[TEnt.er,yao]
  rw[this];congr 1;refine ycs λx hx=> ?_;exact Ziy (λid t hn=>QO (lk H) id t hn) x
 refine⟨_,_,_,_,_,h1,ers_stale (λid' t hn=>QO (lk H) id' t hn) all,ZdG all,or3 (⟨rfl,λyJ=> ?_,λyJ=> ?_,[],zY,λyJ=> ?_⟩)⟩
 ·unfold evN;rw[ho];rfl
 ·unfold evR;rw[ho]
 ·unfold evE;rw[ho];dsimp only;rw[yae,yy];dsimp only;rw[hu,Yf hd];dsimp only[TEnt.er];rw[hi,hl];dsimp only;rw[yW (by rw[yi,yi,yT,yT];exact⟨⟨hz,rfl⟩,h3.trans hs.symm⟩),hx,hH,(Zc0 hnew).1,hs, <-h2];grind
def ZAl(P:yg)(t:yb)(n n':Int)(all:yL TD)(H:yL TEnt)(K:Kn O):yO O:=
 match P.underlying t with
 |some (.slice e)=>(P.info? e).bind λi=>(Zkr P tyD e).bind λT=>
  if(zOk i&&i.size !=0&&decide (i.size=T.size)&&TD.frees H.length all&&H.all (TEnt.free H.length))=true then if(decide (n=0)&&Zn6 n' i.bytes)=true then K all (.rw H.length) (H++[.rowT T [] true e []]) [.arr] 2 else none else none
 |_=>none
theorem Zyd{t:yb}{l c:yn}{n n':Num}(ho:o.op=.makeSlice t l c)(hl:(arT P ts 0 l).bind TD.num=some n)(hc:(arT P ts 0 c).bind TD.num=some n')(hk:n.k=.i64)(hk':n'.k=.i64)
 (h:ZAl P t n.n n'.n all H K=some out):∃a d H' hs c,K a d H' hs c=some out/\Good P o ts all H a d H' hs c:=by
 obtain⟨ld,l1,l2⟩:=yf.1 hl;obtain⟨cd,c1,c2⟩:=yf.1 hc;have hv:=Zv (L:=lk H) l1;have hw:=Zv (L:=lk H) c1;rw[ZfG l2,hk] at hv;rw[ZfG c2,hk'] at hw;unfold ZAl at h;have nN:∀hs,evN P o (TD.ers (lk H) ts) hs=none:=λhs=>by unfold evN;rw[ho]
 have nR:∀hs,evR P o (TD.ers (lk H) ts) (erH H) hs=none:=λhs=>by unfold evR;rw[ho]
 split at h
 ·rename_i e hu;obtain⟨i,h1,h⟩:=yf.1 h;obtain⟨T,h2,h⟩:=yf.1 h;obtain⟨h3,h⟩:=Zc h;obtain⟨h4,h⟩:=Zc h;simp only[yi,yP] at h3;obtain⟨⟨⟨g0,h3⟩,g5⟩,g6⟩:=h3;simp only[Zn6,yi,yP] at h4;obtain⟨g1,g2⟩:=Zbc h4.2.2;refine⟨_,_,_,_,_,h,Ziz g5,rfl,or3 (⟨rfl,λyJ=>nN _,λyJ=>nR _,[n.n=0,0<=n'.n,n'.n.toNat*i.bytes<=bytesBound,n'.n.toNat<=maxLen],⟨h4.1,h4.2.1,g1,g2,ytt⟩,λyJ=> ?_⟩)⟩;unfold evE;rw[ho];dsimp only;rw[hu,hv,hw];dsimp only;rw[h1,yae,yy];dsimp only;rw[yW (by simpa using g0),Zn8 g6,Zq5,Z1,h3];rfl
 ·cases h
def Zwp(P:yg)(t:yb)(dst:Tmp)(all:yL TD)(H:yL TEnt)(K:Kn O):TD->yO O
 |.p (.sl (some false) T [])=>match P.underlying t with
  |some (.slice e)=>(P.info? e).bind λi=>if(zOk i&&i.size !=0&&decide (i.size=T.size)&&TD.frees H.length all&&H.all (TEnt.free H.length))=true then K all (.rw H.length) (H++[.rowT T [] true e []]) [.freshR dst] 2 else none
  |_=>none
 |_=>none
theorem Zwq{x:yn}{dst:Tmp}{xd:TD}(ho:o.op=.assign x)(hd:o.dst=some dst)(hx:arT P ts o.type x=some xd)(h:Zwp P o.type dst all H K xd=some out):
 ∃a d H' hs c,K a d H' hs c=some out/\Good P o ts all H a d H' hs c:=by
 have hv:=Zv (L:=lk H) hx;unfold Zwp at h;split at h
 ·rename_i T;split at h
  ·rename_i e hu;obtain⟨i,h1,h⟩:=yf.1 h;obtain⟨h2,h⟩:=Zc h;simp only[yi,yP] at h2;obtain⟨⟨⟨g0,g3⟩,g5⟩,g6⟩:=h2;refine⟨_,_,_,_,_,h,Ziz g5,rfl,or3 (⟨rfl,λyJ=> ?_,λyJ=> ?_,[],zY,λyJ=> ?_⟩)⟩
   ·unfold evN;rw[ho];rfl
   ·unfold evR;rw[ho]
   ·unfold evE;rw[ho];dsimp only;rw[yae,yy];dsimp only;rw[yW hd,hu,hv,show(TD.p (TP.sl (some false) T [])).er (lk H)=Dv.p (.sl (some false) T.size []) from rfl]
    dsimp only;rw[h1];dsimp only;rw[yW (by simpa using g0),Zn8 g6,Zq5,Z1,g3];rfl
  ·cases h
 ·cases h
def Zsd(P:yg)(t:yb)(lo hi:yO Int)(all:yL TD)(H:yL TEnt)(K:Kn O):TD->yO O
 |.rw id=>match P.underlying t,H[id]?,lo,hi with
  |some (.slice e),some (.rowT T v true e' l),none,some h=>if(okB P e T.size&&decide (T.size≠0))=true then if(decide (0<=h)&&decide (h.toNat<=l.length))=true then
    K (TD.stales (lk H) id all) (.rw id) ((H.map (TEnt.stale (lk H) id)).set id (.rowT T v true e' (l.take h.toNat))) [.arr] 2 else none else none
  |_,_,_,_=>none
 |_=>none
theorem ZtL{t:yb}{x:yn}{lo hi:yO yn}{l h':yO Int}{xd:TD}(ho:o.op=.slice t x lo hi none)(hx:arT P ts t x=some xd)(hl:Zg8 P ts lo=some l)(hh:Zg8 P ts hi=some h')(h:Zsd P t l h' all H K xd=some out):
 ∃a d H' hs c,K a d H' hs c=some out/\Good P o ts all H a d H' hs c:=by
 have hv:=Zv (L:=lk H) hx;have hl2:=Zcf (L:=lk H) hl;have hh2:=Zcf (L:=lk H) hh;unfold Zsd at h;split at h
 ·rename_i id;split at h
  ·rename_i e T v e' xs h2 hu hd;obtain⟨h3,h⟩:=Zc h;obtain⟨h4,h⟩:=Zc h;simp only[yi,yP] at h3 h4;obtain⟨h3a,h3b⟩:=ZHr h3.1;have hlt:id < H.length:=(yo.1 hd).1
   have hnew:((H.map (TEnt.stale (lk H) id)).set id (.rowT T v true e' (xs.take h2.toNat)))[id]? =some (.rowT T v true e' (xs.take h2.toNat)):=by
    grind
   have zB:(xs.take h2.toNat).length=h2.toNat:=by rw[List.length_take];omega
   have hH:erH ((H.map (TEnt.stale (lk H) id)).set id (.rowT T v true e' (xs.take h2.toNat)))=(erH H).set id (.row v.length T.size true e' (.p (.arr h2.toNat T.size ((xs.map T.enc).take h2.toNat)))):=by
    unfold erH;rw[ybm,ybe]
    have:(TEnt.rowT T v true e' (xs.take h2.toNat)).er (lk ((H.map (TEnt.stale (lk H) id)).set id (.rowT T v true e' (xs.take h2.toNat))))=.row v.length T.size true e' (.p (.arr h2.toNat T.size ((xs.map T.enc).take h2.toNat))):=by
     simp only[TEnt.er,zB,ycj]
    rw[this];congr 1;refine ycs λx hx=> ?_;exact Ziy (λid t hn=>QO (lk H) id t hn) x
   refine⟨_,_,_,_,_,h,ers_stale (λid' t hn=>QO (lk H) id' t hn) all,ZdG all,or3 (⟨rfl,λyJ=> ?_,λyJ=> ?_,[0<=h2,h2.toNat<=xs.length],⟨h4.1,h4.2,ytt⟩,λyJ=> ?_⟩)⟩
   ·unfold evN;rw[ho];dsimp only;rw[hu,hv,(Zc0 hd).1,hl2,hh2];rfl
   ·unfold evR;grind
   ·unfold evE;rw[ho];dsimp only;rw[hu,hv,(Zc0 hd).1,hl2,hh2];dsimp only;rw[yae,yy];dsimp only;rw[Yf hd,TEnt.er];dsimp only;rw[yW (by simp[h3a,h3b,h3.2]),hH,(Zc0 hnew).1,zB]
  ·cases h
 ·cases h
def TEnt.rowQ:TEnt->yO (Nat×Nat×Nat)
 |.rowN t _ v _ _ pre post=>some (v.length,t.size,pre.length+post.length)
 |.rowM t _ v _ _ pre _ post=>some (v.length,t.size,pre.length+(post.length+1))
 |_=>none
theorem Zwr{L:Lk}{id:Nat}{v:yL Unit}{s N:Nat}(h:Ym L id (.sl (.st [])) none=([v,yac s (),yac N ()]:yL (yL Unit))):
 (TD.rw id).er L=.rv id v.length s 0 N/\∀yM,(TD.rp id yM).er L=.rref id v.length (Vu yM) (yM.map Stp.i):=by
 refine⟨?_,λyM=> ?_⟩
 ·rw[TD.er];unfold ZcX;rw[h];show Dv.rv id v.length (yac s ()).length 0 (yac N ()).length=_;rw[ycx,ycx]
 ·rw[TD.er];unfold ZcX;rw[h];rfl
theorem ZfH{id:Nat}{x:TEnt}{q:Nat×Nat×Nat}(hd:H[id]? =some x)(h:x.rowQ=some q):(TD.rw id).er (lk H)=.rv id q.1 q.2.1 0 q.2.2/\∀yM,(TD.rp id yM).er (lk H)=.rref id q.1 (Vu yM) (yM.map Stp.i):=by
 cases x <;> first|cases h|skip
 all_goals
  refine Zwr ?_;unfold Ym lk;dsimp only;rw[hd];rfl
def Zws(P:yg)(t:yb)(i:Int)(all:yL TD)(H:yL TEnt)(K:Kn O):TD->yO O
 |.rw id=>match P.underlying t,(H[id]?).bind TEnt.rowQ with
  |some (.slice e),some q=>if okB P e q.2.1=true then if inB i q.2.2=true then K all (.rp id [.ix i.toNat q.2.1]) H [] 0 else none else none
  |_,_=>none
 |_=>none
theorem Zwt{t:yb}{x ix:yn}{xd:TD}{q:IntKind×Int}{ip:TP}(ho:o.op=.indexAddr t x ix)(hx:arT P ts t x=some xd)(hi:arT P ts 0 ix=some (.p ip))(hq:ZrZ ip=some q)(h:Zws P t q.2 all H K xd=some out):
 ∃a d H' hs c,K a d H' hs c=some out/\Good P o ts all H a d H' hs c:=by
 have hv:=Zv (L:=lk H) hx;have hw:=Zv (L:=lk H) hi;rw[TD.er,(ZnV hq).1] at hw;unfold Zws at h;split at h
 ·rename_i id;split at h
  ·rename_i e w hu hd;obtain⟨x0,hd,hq0⟩:=yf.1 hd;obtain⟨h3,h⟩:=Zc h;obtain⟨h4,h⟩:=Zc h;refine⟨_,_,_,_,_,h,rfl,rfl,.inl ⟨rfl,rfl,[0<=q.2,q.2 < (w.2.2:Int)],⟨(QX h4).1,(QX h4).2,ytt⟩,λyJ=> ?_⟩⟩;simp only[yy];unfold evN;rw[ho];dsimp only;rw[hu,hv,hw,(ZfH hd hq0).1,(ZfH hd hq0).2];dsimp only;rw[yW (by simpa[okB] using h3)];simp[Vu,Stp.o,Stp.i]
  ·cases h
 ·cases h
def ZFe(P:yg)(t:yb)(all:yL TD)(H:yL TEnt)(K:Kn O):TD->yO O
 |.rw id=>match P.underlying t,(H[id]?).bind TEnt.rowQ with
  |some (.slice _),some q=>K all (.p (.v (.int .i64) (q.2.2:Int))) H [] 0
  |_,_=>none
 |_=>none
theorem ZAm{t:yb}{x:yn}{c:Call}{xd:TD}(ho:o.op=.call c)(hc:c.callee=.builtin .len)(ha:c.args.toList=[x])(ht:c.argTypes.toList=[t])(hx:arT P ts t x=some xd)(h:ZFe P t all H K xd=some out):
 ∃a d H' hs c,K a d H' hs c=some out/\Good P o ts all H a d H' hs c:=by
 have hv:=Zv (L:=lk H) hx;unfold ZFe at h;split at h
 ·rename_i id;split at h
  ·rename_i e w hu hd;obtain⟨x0,hd,hq0⟩:=yf.1 hd;refine⟨_,_,_,_,_,h,rfl,rfl,.inl ⟨rfl,rfl,[],zY,λyJ=> ?_⟩⟩;simp only[yy];unfold evN;rw[ho];dsimp only;rw[hc];dsimp only;rw[ha,ht];dsimp only;rw[hu,hv,(ZfH hd hq0).1];rfl
  ·cases h
 ·cases h
theorem getElem?_set_v{xs:yL TP}{i:Nat}{z:TP}(h:i < xs.length):(xs.set i z)[i]? =some z:=by rw[ycw h]
def Zye:yL Nat->TP->(T:Ty)->yO T.den
 |[],x,T=>match T with
  |.sl u=>if x.nilT u=true then some [] else none
  |_=>none
 |i::r,x,T=>match x,T with
  |.agg xs,.st fs=>(xs[i]?).bind λz=>(fs[i]?).bind λU=>(Zye r z U).bind λy=>TP.tos Zjr (xs.set i (.v U y)) fs
  |_,_=>none
theorem Zyf:∀(xs:yL TP)(fs:yL Ty)(y:Ty.dens fs)(i:Nat)(U:Ty)(z:U.den),TP.tos Zjr xs fs=some y->xs[i]? =some (.v U z)->(Ty.flds fs y)[i]? =some (.v U z)
 |[],fs,y,i,U,z,h,k=>by simp at k
 |x::r,fs,y,i,U,z,h,k=>by
  have h':ZrW (TP.to Zjr x) r.isEmpty (TP.tos Zjr r) fs=some y:=h
  match fs,y,h' with
  |[],_,h'=>cases h'
  |[t],y,h'=>
   have h2:(if r.isEmpty then TP.to Zjr x t else none)=some y:=h'
   split at h2
   ·rename_i hr
    cases r with
    |nil=>
     cases i with
     |zero=>
      cases k;obtain⟨e,rfl⟩:=QN (show Ty.cast U t z=some y from h2)
      subst e
      rfl
     |succ i=>simp at k
    |cons _ _=>cases hr
   ·cases h2
  |t::u::q,y,h'=>
   obtain⟨h1,h2⟩:=ZdF (α:=t.den) (β:=Ty.dens (u::q)) h'
   cases i with
   |zero=>
    cases k;obtain⟨e,e2⟩:=QN (show Ty.cast U t z=some y.1 from h1)
    subst e;show some (TP.v U y.1)=_
    rw[e2]
   |succ i=>
    rw[List.getElem?_cons_succ] at k;exact Zyf r (u::q) y.2 i U z h2 k
theorem Zyg:∀(np:yL Nat)(x:TP)(T:Ty)(y:T.den),Zye np x T=some y->x.pe=(WE np (.v T y)).pe
 |[],x,T,y,h=>by
  cases T with
  |sl u=>
   simp only[Zye] at h;split at h
   ·rename_i hn;cases h;exact Zwc hn
   ·cases h
  |_=>cases h
 |i::r,x,T,y,h=>by
  simp only[Zye] at h;split at h
  ·rename_i xs fs;obtain⟨z,h1,h⟩:=yf.1 h;obtain⟨U,h2,h⟩:=yf.1 h;obtain⟨w,h3,h⟩:=yf.1 h;have hlt:i < xs.length:=(yo.1 h1).1;have e1:=Zyg r z U w h3;have e2:=Zyf _ fs y i U w h (getElem?_set_v hlt);have e3:=tos_exact _ _ _ h;have e5:(TP.v (.st fs) y).parts=some (Ty.flds fs y):=rfl
   have key:WE (i::r) (.v (.st fs) y)=.agg ((Ty.flds fs y).set i (WE r (.v U w))):=by
    rw[WE,e5];dsimp only;rw[e2]
   have e6:∀(l:yL TP)(q:TP),TP.pes (l.set i q)=(TP.pes l).set i q.pe:=λl q=>by rw[ZaS,ybm, <-ZaS]
   have e7:TP.pes (Ty.flds fs y)=(TP.pes xs).set i (TP.v U w).pe:=((Zq2 fs y).trans e3.symm).trans (e6 _ _)
   have e8:TP.pes ((Ty.flds fs y).set i (WE r (.v U w)))=TP.pes xs:=by
    rw[e6,e7,List.set_set, <-e1];refine ybk λj=> ?_;rw[ybq];split
    ·rename_i hj;subst hj;rw[yW (by rw[ZaS,yaa];exact hlt),ZaS,yal,h1];rfl
    ·rfl
   rw[key];exact congrArg Pl.agg e8.symm
  ·cases h
def Zwu(np:yL Nat)(T:Ty):yL TP->yO (yL T.den)
 |[]=>some []
 |x::r=>match Zye np x T,Zwu np T r with
  |some y,some ys=>some (y::ys)
  |_,_=>none
theorem ZuN{np:yL Nat}{T:Ty}:∀{xs:yL TP}{ys:yL T.den},Zwu np T xs=some ys->TP.pes xs=ys.map λy=>(WE np (.v T y)).pe
 |[],ys,h=>by cases h;rfl
 |x::r,ys,h=>by
  simp only[Zwu] at h;split at h
  ·rename_i y ys' h1 h2;cases h;rw[TP.pes,yah,Zyg np x T y h1,ZuN h2]
  ·cases h
def ZBD(L:Lk)(P:yg)(ts:yL TD)(e:yb):yL (Nat×yn)->yO (yL TP)
 |[]=>some []
 |q::r=>match (arT P ts e q.2).bind (TD.flat L),ZBD L P ts e r with
  |some x,some l=>if x.pe.size=P.cellsOf e then some (x::l) else none
  |_,_=>none
theorem Zyh{L:Lk}{e:yb}:∀{parts:yL (Nat×yn)}{l:yL TP},ZBD L P ts e parts=some l->
 Dv.flats (parts.map λq=>argD P (TD.ers L ts) e q.2)=some (TP.pes l)/\(TP.pes l).all (λx=>x.size==P.cellsOf e)=true
 |[],l,h=>by cases h;exact⟨rfl,rfl⟩
 |q::r,l,h=>by
  simp only[ZBD] at h;split at h
  ·rename_i x l' hx h2;obtain⟨d,h1,h3⟩:=yf.1 hx;split at h
   ·rename_i hs;cases h;obtain⟨e1,e2⟩:=Zyh h2;refine⟨?_, ?_⟩
    ·simp only[yah,Dv.flats];rw[Zv h1,Zr1 h3,e1];rfl
    ·simp only[TP.pes,List.all_cons,yi,yT];exact⟨hs,e2⟩
   ·cases h
  ·cases h
def ZJo(P:yg)(ts:yL TD)(t:yb)(len:Nat)(parts:yL (Nat×yn))(all:yL TD)(H:yL TEnt)(K:Kn O):yO O:=
 match P.underlying t with
 |some (.slice e)=>(P.info? e).bind λi=>(ZBD (lk H) P ts e parts).bind λl=>
  if(parts.map (·.1)==yp len)&&(zOk i&&i.size !=0&&decide (len*i.size<=16777216)) then K all (.p (.sll (some true) i.size l)) H [.bare] 0 else none
 |_=>none
theorem ZDg{t:yb}{len:Nat}{parts:Array (Nat×yn)}(ho:o.op=.buildSlice t len parts)(h:ZJo P ts t len parts.toList all H K=some out):
 ∃a d H' hs c,K a d H' hs c=some out/\Good P o ts all H a d H' hs c:=by
 unfold ZJo at h;split at h
 ·rename_i e hu;obtain⟨i,h1,h⟩:=yf.1 h;obtain⟨l,h2,h⟩:=yf.1 h;obtain⟨h3,h⟩:=Zc h;simp only[yi] at h3;obtain⟨e1,e2⟩:=Zyh h2
  have hl:WL P (TD.ers (lk H) ts) e (P.cellsOf e) len parts.toList=some (TP.pes l):=by
   unfold WL;rw[yW h3.1,e1];dsimp only;rw[yW e2]
  refine⟨_,_,_,_,_,h,rfl,rfl,.inl ⟨rfl,rfl,[],zY,λyJ=> ?_⟩⟩;unfold evN;rw[ho];dsimp only;rw[yae,yy];dsimp only;rw[hu];dsimp only;rw[h1,hl];dsimp only;rw[yW (by simpa only[yi] using h3.2)];rfl
 ·cases h
theorem ZBE{id:Nat}{e e':TEnt}(hd:H[id]? =some e)(h:lkE (some e')=lkE (some e)):lk (H.set id e')=lk H:=by
 funext j;unfold lk;by_cases hj:id=j
 ·subst hj;rw[getElem?_set_eq' hd,hd,h]
 ·rw[getElem?_set_ne' hj]
def Zse(P:yg)(t u:yb)(all:yL TD)(H:yL TEnt)(K:Kn O)(y:TD):TD->yO O
 |.rw id=>match P.underlying t,P.underlying u,H[id]?,y with
  |some (.slice e),some (.slice _),some (.rowN T np v st e' pre post),.p (.sll _ s xs)=>(P.info? e).bind λi=>(Zwu np T xs).bind λys=>
   if(zOk i&&decide (i.size=T.size)&&decide (P.cellsOf e=T.size)&&decide (e'=e)&&decide (T.size≠0)&&decide (s=T.size))=true then if apB (pre.length+post.length) ys.length i.bytes=true then
    K (TD.stales (lk H) id all) (.rw id) ((H.map (TEnt.stale (lk H) id)).set id (.rowN T np (()::v) st e pre (post++ys))) [.raw] 2 else none else none
  |_,_,_,_=>none
 |_=>none
theorem ZtM{t u:yb}{x y:yn}{c:Call}{xd yd:TD}(ho:o.op=.call c)(hc:c.callee=.builtin .append)(ha:c.args.toList=[x,y])(ht:c.argTypes.toList=[t,u])
 (hv:argD P (TD.ers (lk H) ts) t x=xd.er (lk H)) (hy:arT P ts u y=some yd) (h:Zse P t u all H K yd xd=some out):∃a d H' hs c,K a d H' hs c=some out/\Good P o ts all H a d H' hs c:=by
 have hw:=Zv (L:=lk H) hy;unfold Zse at h;split at h
 ·rename_i id;split at h
  ·rename_i e e2 T np v st e' pre post nn s xs hu hu2 hd;obtain⟨i,h1,h⟩:=yf.1 h;obtain⟨ys,h2,h⟩:=yf.1 h;obtain⟨k4,k6⟩:=Zc h;obtain⟨k5,kk⟩:=Zc k6;simp only[yi,yP] at k4;obtain⟨⟨⟨⟨⟨g1,g2⟩,g3⟩,g4⟩,g5⟩,g6⟩:=k4;subst g4;subst g6;simp only[apB,yi,yP] at k5;have hlt:id < H.length:=(yo.1 hd).1;have hys:=ZuN h2;have hyl:(TP.pes xs).length=ys.length:=by rw[hys,yaa]
   have hq:=ZfH (q:=(v.length,T.size,pre.length+post.length)) hd rfl
   refine⟨_,_,_,_,_,kk,ers_stale (λid' t hn=>QO (lk H) id' t hn) all,ZdG all,or3 (⟨rfl,λyJ=> ?_,λyJ=> ?_,
    [pre.length+post.length<=pre.length+post.length,(pre.length+post.length+(TP.pes xs).length)*i.bytes<=bytesBound,pre.length+post.length+(TP.pes xs).length<=maxLen,st=true\/pre.length+post.length=pre.length+post.length],
    ⟨yl _,by rw[hyl];exact k5.1,by rw[hyl];exact k5.2,.inr rfl,ytt⟩,λyJ=> ?_⟩)⟩
   ·unfold evN;rw[ho];dsimp only;rw[hc];dsimp only;rw[ha,ht,yae]
   ·unfold evR;rw[ho];dsimp only;rw[hc]
   ·have hsrc:ZoX P T.size u (erH H) yJ (argD P (TD.ers (lk H) ts) u y)=some ([],TP.pes xs,yJ):=by
     rw[hw,TD.er,TP.pe];unfold ZoX srcOf;dsimp only;rw[hu2];dsimp only;rw[yW (.inl rfl)];rfl
    unfold evE;rw[ho];dsimp only;rw[hc];dsimp only;rw[ha,ht];dsimp only;rw[hu,hv,hq.1];rw[yae,yy];dsimp only;rw[h1,hsrc,Yf hd];dsimp only[TEnt.er]
    have hnew:((H.map (TEnt.stale (lk H) id)).set id (.rowN T np (()::v) st e' pre (post++ys)))[id]? =some (.rowN T np (()::v) st e' pre (post++ys)):=by
     rw[ycw (by rw[yaa];exact hlt)]
    have hN:pre.length+(post++ys).length=pre.length+post.length+ys.length:=by rw[yj];omega
    have hH:erH ((H.map (TEnt.stale (lk H) id)).set id (.rowN T np (()::v) st e' pre (post++ys)))=(erH H).set id (.row (v.length+1) T.size st e' (.p (.arr (pre.length+post.length+ys.length) T.size ((pre.map T.enc++post.map λx=>(WE np (.v T x)).pe)++TP.pes xs)))):=by
     unfold erH;rw[ybm,ybe]
     have:(TEnt.rowN T np (()::v) st e' pre (post++ys)).er (lk ((H.map (TEnt.stale (lk H) id)).set id (.rowN T np (()::v) st e' pre (post++ys))))=.row (v.length+1) T.size st e' (.p (.arr (pre.length+post.length+ys.length) T.size ((pre.map T.enc++post.map λx=>(WE np (.v T x)).pe)++TP.pes xs))):=by
      rw[TEnt.er,hN,hys,yau,yx];rfl
     rw[this];congr 1;refine ycs λx hx=> ?_;exact Ziy (λid t hn=>QO (lk H) id t hn) x
    have hq2:=ZfH (q:=(v.length+1,T.size,pre.length+(post++ys).length)) hnew rfl;rw[yW (by simp[g1,g2,g5]),hH,hq2.1,hyl,hN]
    have ht:(pre.map T.enc++post.map λx=>(WE np (.v T x)).pe).take (pre.length+post.length)=pre.map T.enc++post.map λx=>(WE np (.v T x)).pe:=by
     rw[List.take_of_length_le (by rw[yj,yaa,yaa];exact yl _)]
    rw[ht];rfl
  ·cases h
 ·cases h
theorem ZBF{α:Type}(a b:yL α)(x:α):(a++x::b)[a.length]? =some x:=by rw[yat (yl _),Nat.sub_self];rfl
theorem ZBG{α:Type}(a b:yL α)(x y:α):(a++x::b).set a.length y=a++y::b:=by
 rw[List.set_append,yX (by omega),Nat.sub_self];rfl
def ZAn(P:yg)(t:yb)(all:yL TD)(H:yL TEnt)(K:Kn O):TD->yO O
 |.rp id (.ix i s::r)=>match H[id]? with
  |some (.rowM T np v st e pre mid post)=>if decide (s=T.size)=true then if decide (i=pre.length)=true then gpT (lk H) r mid λsub hs _=>if okT P t (sub.er (lk H))=true then K all sub H hs 1 else none else none else none
  |_=>none
 |_=>none
theorem Zyi{t:yb}{x:yn}{xd:TD}(ho:o.op=.load t x)(hx:arT P ts 0 x=some xd)(h:ZAn P t all H K xd=some out):∃a d H' hs c,K a d H' hs c=some out/\Good P o ts all H a d H' hs c:=by
 have hv:=Zv (L:=lk H) hx;unfold ZAn at h;split at h
 ·rename_i id i s r;split at h
  ·rename_i T np v st e pre mid post hd;obtain⟨h0,hh⟩:=Zc h;obtain⟨h00,h9⟩:=Zc hh;clear hh h;have h0:=yF h0;have h00:=yF h00;subst h0;subst h00;obtain⟨sub,hs,put,C,k1,k2,k3,_⟩:=Wy _ _ _ _ h9;obtain⟨k4,k5⟩:=Zc k1;have hq:=ZfH (q:=(v.length,T.size,pre.length+(post.length+1))) hd rfl;refine⟨_,_,_,_,_,k5,rfl,rfl,.inr (.inl ⟨rfl,rfl,λyJ=> ?_,C++[pre.length*T.size+Zb2 r=Vu (.ix pre.length T.size::r)],Zk.2 ⟨k2,by rw[WF,Zb2,Stp.o],ytt⟩,λyJ=> ?_⟩)⟩
   ·unfold evN;rw[ho];dsimp only;rw[hv];rfl
   ·unfold evR;rw[ho];dsimp only;rw[hv,hq.2];dsimp only;rw[Yf hd];dsimp only[TEnt.er]
    have k6:YE (.arr (pre.length+(post.length+1)) T.size ((pre.map λx=>.p (T.enc x))++mid.er (lk H)::post.map λx=>.p (WE np (.v T x)).pe)) (pre.length::r.map Stp.i) (hs++yJ)=some (C,pre.length*T.size+Zb2 r,sub.er (lk H),yJ):=by
     unfold YE;have:=ZBF (pre.map λx=>Dv.p (T.enc x)) (post.map λx=>.p (WE np (.v T x)).pe) (mid.er (lk H));rw[yaa] at this;rw[this];dsimp only;rw[k3 yJ];rfl
    rw[yah,show(Stp.ix pre.length T.size).i=pre.length from rfl,k6]
    dsimp only;rw[yW (by rw[yi];exact⟨k4,by simp⟩)]
  ·cases h
 ·cases h
def Zwv(P:yg)(t:yb)(all:yL TD)(H:yL TEnt)(K:Kn O)(v:TD):TD->yO O
 |.rp id (.ix i s::r)=>match H[id]? with
  |some (.rowM T np u true e pre mid post)=>if decide (s=T.size)=true then if decide (i=pre.length)=true then gpT (lk H) r mid λsub hs put=>(put v).bind λd1=>
   if ZhC P t (v.er (lk H)) (sub.er (lk H))=true then K all .junk (H.set id (.rowM T np u true e pre d1 post)) hs 2 else none else none else none
  |_=>none
 |_=>none
theorem Zww{t:yb}{x y:yn}{xd yd:TD}(ho:o.op=.store t x y)(hx:arT P ts 0 x=some xd)(hy:arT P ts t y=some yd)(h:Zwv P t all H K yd xd=some out):
 ∃a d H' hs c,K a d H' hs c=some out/\Good P o ts all H a d H' hs c:=by
 have hv:=Zv (L:=lk H) hx;have hw:=Zv (L:=lk H) hy;unfold Zwv at h;split at h
 ·rename_i id i s r;split at h
  ·rename_i T np u e pre mid post hd;obtain⟨h0,hh⟩:=Zc h;obtain⟨h00,h9⟩:=Zc hh;clear hh h;have h0:=yF h0;have h00:=yF h00;subst h0;subst h00;obtain⟨sub,hs,put,C,k1,k2,k3,k4⟩:=Wy r mid _ out h9;obtain⟨d1,p1,k1⟩:=yf.1 k1;obtain⟨h4,k1⟩:=Zc k1;have h4':=h4;unfold ZhC at h4';have hq:=ZfH (q:=(u.length,T.size,pre.length+(post.length+1))) hd rfl;have hL:lk (H.set id (.rowM T np u true e pre d1 post))=lk H:=ZBE hd rfl;have hm:=ZBF (pre.map λx=>Dv.p (T.enc x)) (post.map λx=>.p (WE np (.v T x)).pe) (mid.er (lk H));have hm2:=ZBG (pre.map λx=>Dv.p (T.enc x)) (post.map λx=>.p (WE np (.v T x)).pe) (mid.er (lk H)) (d1.er (lk H));rw[yaa] at hm hm2
   have hg:∀yJ,YE (.arr (pre.length+(post.length+1)) T.size ((pre.map λx=>.p (T.enc x))++mid.er (lk H)::post.map λx=>.p (WE np (.v T x)).pe)) (pre.length::r.map Stp.i) (hs++yJ)=some (C,pre.length*T.size+Zb2 r,sub.er (lk H),yJ):=by
    intro yJ;unfold YE;rw[hm];dsimp only;rw[k3 yJ];rfl
   have hp:∀yJ,VA (yd.er (lk H)) (.arr (pre.length+(post.length+1)) T.size ((pre.map λx=>.p (T.enc x))++mid.er (lk H)::post.map λx=>.p (WE np (.v T x)).pe)) (pre.length::r.map Stp.i) (hs++yJ)=some (.arr (pre.length+(post.length+1)) T.size ((pre.map λx=>.p (T.enc x))++d1.er (lk H)::post.map λx=>.p (WE np (.v T x)).pe)):=by
    intro yJ;have:=k4 _ d1 p1 yJ;unfold VA;rw[hm];dsimp only;rw[this,yaf,hm2]
   refine⟨_,_,_,_,_,k1,by rw[hL],rfl,or3 (⟨rfl,λyJ=> ?_,λyJ=> ?_,C++[pre.length*T.size+Zb2 r=Vu (.ix pre.length T.size::r)],
    Zk.2 ⟨k2,by rw[WF,Zb2,Stp.o],ytt⟩,λyJ=> ?_⟩)⟩
   ·unfold evN;rw[ho]
   ·unfold evR;rw[ho]
   ·unfold evE;rw[ho];dsimp only;rw[hv,hw,hq.2];dsimp only;rw[Yf hd];dsimp only[TEnt.er];rw[yah,show(Stp.ix pre.length T.size).i=pre.length from rfl,hg yJ]
    dsimp only;rw[show Ze3 (pre.length::r.map Stp.i) (.arr (pre.length+(post.length+1)) T.size ((pre.map λx=>.p (T.enc x))++mid.er (lk H)::post.map λx=>.p (WE np (.v T x)).pe)) (yd.er (lk H))=some (yd.er (lk H)) from rfl]
    dsimp only;rw[hp yJ];dsimp only;rw[yW (by simp only[yi] at h4' ⊢;exact⟨⟨h4',by simp⟩,by simp[rowN]⟩),WV hL];rfl
  ·cases h
 ·cases h
def ZFf(H:yL TEnt):TD->Bool
 |.rw id=>((H[id]?).bind TEnt.rowQ).isSome
 |.rp id _=>((H[id]?).bind TEnt.rowQ).isSome
 |_=>false
def rnT(P:yg)(hi:HI)(o:ym)(ts:yL TD)(H:yL TEnt):Bool:=
 match o.op with
 |.load t x=>match arT P ts 0 x with
  |some d=>ZFf H d
  |none=>false
 |.store t x y=>match arT P ts 0 x with
  |some d=>ZFf H d
  |none=>false
 |.indexAddr t x ix=>match arT P ts t x with
  |some d=>ZFf H d
  |none=>false
 |.buildSlice t len parts=>match o.dst with
  |some d=>hi.lits.contains d
  |none=>false
 |.call c=>match c.callee with
  |.builtin .len=>match c.args.toList,c.argTypes.toList with
   |[x],[t]=>match arT P ts t x with
    |some d=>ZFf H d
    |none=>false
   |_,_=>false
  |.builtin .append=>match c.args.toList,c.argTypes.toList with
   |[x,y],[t,u]=>match arT P ts t x with
    |some d=>ZFf H d
    |none=>false
   |_,_=>false
  |_=>false
 |_=>false
def ZJp(P:yg)(hi:HI)(o:ym)(ts all:yL TD)(H:yL TEnt)(K:Kn O):yO O:=
 match o.op with
 |.load t x=>(arT P ts 0 x).bind λd=>ZAn P t all H K d
 |.store t x y=>(arT P ts 0 x).bind λa=>(arT P ts t y).bind λv=>Zwv P t all H K v a
 |.indexAddr t x ix=>(arT P ts t x).bind λa=>(arT P ts 0 ix).bind λb=>b.inner.bind λip=>(ZrZ ip).bind λq=>Zws P t q.2 all H K a
 |.buildSlice t len parts=>ZJo P ts t len parts.toList all H K
 |.call c=>match c.callee with
  |.builtin .len=>match c.args.toList,c.argTypes.toList with
   |[x],[t]=>(arT P ts t x).bind λd=>ZFe P t all H K d
   |_,_=>none
  |.builtin .append=>match c.args.toList,c.argTypes.toList with
   |[x,y],[t,u]=>(arT P ts t x).bind λa=>(arT P ts u y).bind λb=>Zse P t u all H K b a
   |_,_=>none
  |_=>none
 |_=>none
theorem ZDh{hi:HI}(h:ZJp P hi o ts all H K=some out):∃a d H' hs c,K a d H' hs c=some out/\Good P o ts all H a d H' hs c:=by
 unfold ZJp at h;split at h
 ·rename_i t x ho;obtain⟨d,h1,h⟩:=yf.1 h;exact Zyi ho h1 h
 ·rename_i t x y ho;obtain⟨a,h1,h⟩:=yf.1 h;obtain⟨v,h2,h⟩:=yf.1 h;exact Zww ho h1 h2 h
 ·rename_i t x ix ho;obtain⟨a,h1,h⟩:=yf.1 h;obtain⟨b,h2,h⟩:=yf.1 h;obtain⟨ip,h3,h⟩:=yf.1 h;obtain⟨q,h4,h⟩:=yf.1 h;rw[XV h3] at h2;exact Zwt ho h1 h2 h4 h
 ·rename_i t len parts ho;exact ZDg ho h
 ·rename_i c ho;split at h
  ·rename_i hc;split at h
   ·rename_i x t ha ht;obtain⟨d,h1,h⟩:=yf.1 h;exact ZAm ho hc ha ht h1 h
   ·cases h
  ·rename_i hc;split at h
   ·rename_i x y t u ha ht;obtain⟨a,h1,h⟩:=yf.1 h;obtain⟨b,h2,h⟩:=yf.1 h;exact ZtM ho hc ha ht (Zv h1) h2 h
   ·cases h
  ·cases h
 ·cases h
end
end Go.Ev
end
section
namespace Go.Ev
abbrev TV:=Σ t:Ty,t.den
inductive Sh where
 |v (t:Ty)
 |elem (t:Ty)
 |nil (t:Ty)
 |sl (nn:Bool) (t:Ty)
 |own (j:Nat) (t:Ty)
 |ref (j:Nat) (yM:List Stp)
 |mp (j:Nat)
 |rw(j:Nat)
 |rp (j s:Nat) (yM:List Stp)
 |view (j:Nat) (yM:List Stp) (s lo n:Nat)
 |rv (j ver s lo n:Nat)
 |fn (g:yw) (l:List Sh)
 |agg (l:List Sh)
 |arr (n s:Nat) (l:List Sh)
 |tup (l:List Sh)
 |iface (t:yb) (x:Sh)
 |if2 (t u:yb) (x:Sh)
 |ptr0|fn0|if0|map0
 |junk
instance:Inhabited Sh:=⟨.junk⟩
def Stp.beq:Stp->Stp->Bool
 |.fld i o,.fld j p=>decide (i=j)&&decide (o=p)
 |.ix i o,.ix j p=>decide (i=j)&&decide (o=p)
 |_,_=>false
def Zl8:yL Stp->yL Stp->Bool
 |[],[]=>true
 |q::r,p::s=>q.beq p&&Zl8 r s
 |_,_=>false
theorem Zjx:∀{l m:yL Stp},Zl8 l m=true->l=m
 |[],[],_=>rfl
 |[],_::_,h=>by cases h
 |_::_,[],h=>by cases h
 |q::r,p::s,h=>by
  simp only[Zl8,yi] at h;rw[Zjx h.2];congr 1;cases q <;> cases p <;> simp[Stp.beq] at h <;> simp[h.1]
def TD.toT(L:Lk)(t:Ty):TD->yO t.den
 |.p x=>TP.to ZnT x t
 |.own id _ u c=>match t with
  |.sl w=>Ty.castL u w (Ym L id u c)
  |_=>none
 |_=>none
theorem ZJq{L:Lk}{t:Ty}{d:TD}{y:t.den}(h:d.toT L t=some y):Wk (d.er L) (.p (t.enc y)):=by
 cases d with
 |p x=>exact Wk.p (ZEJ (show TP.to ZnT x t=some y from h))
 |own id nn u c=>
  cases t with
  |sl w=>
   obtain⟨e,h2⟩:=ZR (show Ty.castL u w (Ym L id u c)=some y from h)
   subst e;subst h2
   exact Wk.own_sl (PlsWk.refl _)
  |_=>cases h
 |_=>cases h
def ZKH(t:Ty):TD->yO t.den
 |.elem x=>TP.to ZnT x t
 |_=>none
theorem Wk.elem{x y:Pl}(h:PlWk x y):Wk (.elem x) (.elem y):=⟨rfl,rfl,λσ vs r=>by
 simp only[yG] at r ⊢;obtain⟨b,o,us,e,r1,r2⟩:=r;exact⟨b,o,us,e,h.rep _ _ _ r1,r2⟩⟩
theorem WkL.fn{f:yw}{ds es:yL Dv}(h:WkL ds es):Wk (.fn f ds) (.fn f es):=⟨rfl,rfl,λσ vs r=>by
 simp only[yG] at r ⊢;obtain⟨fs,cs,e,e0,r⟩:=r;exact⟨fs,cs,e,e0,h.vs r⟩⟩
theorem WkL.sizes{ds es:yL Dv}(h:WkL ds es)(s:Nat):(∀x,x∈ds->x.size=s)->∀x,x∈es->x.size=s:=by
 induction h with
 |nil=>intro _ x hx;cases hx
 |cons h k ih=>
  intro hh x hx;rcases List.mem_cons.1 hx with rfl|hx
  ·rw[<-h.size];exact hh _ (ybd ..)
  ·exact ih (λy hy=>hh y (List.mem_cons_of_mem _ hy)) x hx
theorem WkL.arr{n s:Nat}{ds es:yL Dv}(h:WkL ds es):Wk (.arr n s ds) (.arr n s es):=⟨rfl,rfl,λσ vs r=>by
 simp only[yG] at r ⊢;obtain⟨r1,r2,r3⟩:=r;have:=(WkL.agg h).rep σ vs (by simp only[yG];exact r3);simp only[yG] at this;exact⟨by rw[<-h.len];exact r1,h.sizes s r2,this⟩⟩
theorem Wk.iface{t:yb}{x y:Dv}(h:Wk x y):Wk (.iface t x) (.iface t y):=⟨rfl,rfl,λσ vs r=>by
 simp only[yG] at r ⊢;obtain⟨v,e,r1,r2⟩:=r;refine⟨v,e,λha=> ?_,λha=>h.rep _ _ (r2 (by rw[h.agg];exact ha))⟩;obtain⟨cs,e1,e2⟩:=r1 (by rw[h.agg];exact ha);exact⟨cs,e1,h.rep _ _ e2⟩⟩
mutual
def Sh.mt(L:Lk):Sh->TD->yO (TD×yL TV)
 |.v t,d=>(d.toT L t).map λy=>(.p (.v t y),[⟨t,y⟩])
 |.elem t,d=>(ZKH t d).map λy=>(.elem (.v t y),[⟨t,y⟩])
 |.nil t,d=>match d with
  |.p x=>if x.nilT t=true then some (.p (.sl (some false) t []),[]) else none
  |_=>none
 |.sl nn t,d=>match d with
  |.p (.sl (some b) u xs)=>if b=nn then(Ty.castL u t xs).map λy=>(.p (.sl (some nn) t y),[⟨.sl t,y⟩]) else none
  |_=>none
 |.own j t,d=>match d with
  |.own id _ u none=>if id=j/\u=t then some (.own j none t none,[]) else none
  |_=>none
 |.ref j p,d=>match d with
  |.ref id q=>if id=j/\Zl8 p q=true then some (.ref j p,[]) else none
  |_=>none
 |.mp j,d=>match d with
  |.mp id=>if id=j then some (.mp j,[]) else none
  |_=>none
 |.rw j,d=>match d with
  |.rw id=>if id=j then some (.rw j,[]) else none
  |_=>none
 |.rp j s p,d=>match d with
  |.rp id (.ix i s'::q)=>if id=j/\s'=s/\Zl8 p q=true then some (.rp j (.ix i s::p),[⟨.int .i64,(i:Int)⟩]) else none
  |_=>none
 |.view j p s lo n,d=>match d with
  |.view id q s' lo' n'=>if id=j/\Zl8 p q=true/\s=s'/\lo=lo'/\n=n' then some (.view j p s lo n,[]) else none
  |_=>none
 |.rv j ver s lo n,d=>match d with
  |.rv id v' s' lo' n'=>if id=j/\ver=v'/\s=s'/\lo=lo'/\n=n' then some (.rv j ver s lo n,[]) else none
  |_=>none
 |.fn g l,d=>match d with
  |.fn f ds=>if f=g then(Sh.mts L l ds).map λq=>(.fn g q.1,q.2) else none
  |_=>none
 |.agg l,d=>match d with
  |.agg ds=>(Sh.mts L l ds).map λq=>(.agg q.1,q.2)
  |.p x=>match x.parts with
   |some xs=>(Sh.mts L l (xs.map TD.p)).map λq=>(.agg q.1,q.2)
   |none=>none
  |_=>none
 |.arr n s l,d=>match d with
  |.arr m s' ds=>if m=n/\s'=s then(Sh.mts L l ds).map λq=>(.arr n s q.1,q.2) else none
  |_=>none
 |.tup l,d=>match d with
  |.tup ds=>(Sh.mts L l ds).map λq=>(.tup q.1,q.2)
  |_=>none
 |.iface t x,d=>match d with
  |.iface u y=>if u=t then(Sh.mt L x y).map λq=>(.iface t q.1,q.2) else none
  |_=>none
 |.if2 t u x,d=>match d with
  |.iface w y=>if yar w t=true then(Sh.mt L x y).map λq=>(.iface t q.1,⟨.bool,true⟩::q.2) else if yar w u=true then(Sh.mt L x y).map λq=>(.iface u q.1,⟨.bool,false⟩::q.2) else none
  |_=>none
 |.ptr0,d=>match d with
  |.p .ptr0=>some (.p .ptr0,[])
  |_=>none
 |.fn0,d=>match d with
  |.p .fn0=>some (.p .fn0,[])
  |_=>none
 |.if0,d=>match d with
  |.p .if0=>some (.p .if0,[])
  |_=>none
 |.map0,d=>match d with
  |.p .map0=>some (.p .map0,[])
  |_=>none
 |.junk,d=>if(d.er L).size=1/\(d.er L).isAgg=false then some (.junk,[]) else none
def Sh.mts(L:Lk):yL Sh->yL TD->yO (yL TD×yL TV)
 |[],ds=>match ds with
  |[]=>some ([],[])
  |_=>none
 |s::r,ds=>match ds with
  |d::q=>match Sh.mt L s d,Sh.mts L r q with
   |some a,some b=>some (a.1::b.1,a.2++b.2)
   |_,_=>none
  |[]=>none
end
mutual
def Sh.fill:Sh->yL TV->yO (TD×yL TV)
 |.v t,vs=>match vs with
  |x::r=>(Ty.cast x.1 t x.2).map λy=>(.p (.v t y),r)
  |[]=>none
 |.elem t,vs=>match vs with
  |x::r=>(Ty.cast x.1 t x.2).map λy=>(.elem (.v t y),r)
  |[]=>none
 |.nil t,vs=>some (.p (.sl (some false) t []),vs)
 |.sl nn t,vs=>match vs with
  |x::r=>(Ty.cast x.1 (.sl t) x.2).map λ(y:yL t.den)=>(.p (.sl (some nn) t y),r)
  |[]=>none
 |.own j t,vs=>some (.own j none t none,vs)
 |.ref j p,vs=>some (.ref j p,vs)
 |.mp j,vs=>some (.mp j,vs)
 |.rw j,vs=>some (.rw j,vs)
 |.rp j s p,vs=>match vs with
  |x::r=>(Ty.cast x.1 (.int .i64) x.2).map λ(i:Int)=>(.rp j (.ix i.toNat s::p),r)
  |[]=>none
 |.view j p s lo n,vs=>some (.view j p s lo n,vs)
 |.rv j ver s lo n,vs=>some (.rv j ver s lo n,vs)
 |.fn g l,vs=>(Sh.fills l vs).map λq=>(.fn g q.1,q.2)
 |.agg l,vs=>(Sh.fills l vs).map λq=>(.agg q.1,q.2)
 |.arr n s l,vs=>(Sh.fills l vs).map λq=>(.arr n s q.1,q.2)
 |.tup l,vs=>(Sh.fills l vs).map λq=>(.tup q.1,q.2)
 |.iface t x,vs=>(Sh.fill x vs).map λq=>(.iface t q.1,q.2)
 |.if2 t u x,vs=>match vs with
  |z::r=>(Ty.cast z.1 .bool z.2).bind λ(b:Bool)=>(Sh.fill x r).map λq=>(.iface (bif b then t else u) q.1,q.2)
  |[]=>none
 |.ptr0,vs=>some (.p .ptr0,vs)
 |.fn0,vs=>some (.p .fn0,vs)
 |.if0,vs=>some (.p .if0,vs)
 |.map0,vs=>some (.p .map0,vs)
 |.junk,vs=>some (.junk,vs)
def Sh.fills:yL Sh->yL TV->yO (yL TD×yL TV)
 |[],vs=>some ([],vs)
 |s::r,vs=>(Sh.fill s vs).bind λa=>(Sh.fills r a.2).map λb=>(a.1::b.1,b.2)
end
theorem YS(t:Ty)(x:t.den):Ty.cast t t x=some x:=by
 unfold Ty.cast;split
 all_goals grind
mutual
theorem Zjy{L:Lk}:∀(s:Sh)(d:TD)(q:TD×yL TV),s.mt L d=some q->∀yJ,s.fill (q.2++yJ)=some (q.1,yJ)
 |.v t,d,q,h,yJ=>by
  simp only[Sh.mt] at h;obtain⟨y,_,rfl⟩:=Zg h
  simp[Sh.fill,YS]
 |.elem t,d,q,h,yJ=>by
  simp only[Sh.mt] at h;obtain⟨y,_,rfl⟩:=Zg h
  simp[Sh.fill,YS]
 |.nil t,d,q,h,yJ=>by
  simp only[Sh.mt] at h;split at h
  ·split at h <;> cases h;rfl
  ·cases h
 |.sl nn t,d,q,h,yJ=>by
  simp only[Sh.mt] at h;split at h
  ·split at h
   ·obtain⟨w,h1,rfl⟩:=Zg h;exact congrArg (Option.map λ(y:yL t.den)=>(TD.p (.sl (some nn) t y),yJ)) (YS (.sl t) w)
   ·cases h
  ·cases h
 |.own j t,d,q,h,yJ=>by
  simp only[Sh.mt] at h;split at h
  ·split at h <;> cases h;rfl
  ·cases h
 |.ref j p,d,q,h,yJ=>by
  simp only[Sh.mt] at h;split at h
  ·split at h <;> cases h;rfl
  ·cases h
 |.mp j,d,q,h,yJ=>by
  simp only[Sh.mt] at h;split at h
  ·split at h <;> cases h;rfl
  ·cases h
 |.rw j,d,q,h,yJ=>by
  simp only[Sh.mt] at h;split at h
  ·split at h <;> cases h;rfl
  ·cases h
 |.rp j s p,d,q,h,yJ=>by
  simp only[Sh.mt] at h;split at h
  ·rename_i id i s' q';split at h
   ·cases h;exact congrArg (Option.map λ(i:Int)=>(TD.rp j (.ix i.toNat s::p),yJ)) (YS (.int .i64) (i:Int))
   ·cases h
  ·cases h
 |.view j p s lo n,d,q,h,yJ=>by
  simp only[Sh.mt] at h;split at h
  ·split at h <;> cases h;rfl
  ·cases h
 |.rv j ver s lo n,d,q,h,yJ=>by
  simp only[Sh.mt] at h;split at h
  ·split at h <;> cases h;rfl
  ·cases h
 |.fn g l,d,q,h,yJ=>by
  simp only[Sh.mt] at h;split at h
  ·split at h
   ·obtain⟨w,h1,rfl⟩:=Zg h;simp only[Sh.fill,mts_fills l _ w h1 yJ,yaf]
   ·cases h
  ·cases h
 |.agg l,d,q,h,yJ=>by
  simp only[Sh.mt] at h;split at h
  ·obtain⟨w,h1,rfl⟩:=Zg h;simp only[Sh.fill,mts_fills l _ w h1 yJ,yaf]
  ·split at h
   ·obtain⟨w,h1,rfl⟩:=Zg h;simp only[Sh.fill,mts_fills l _ w h1 yJ,yaf]
   ·cases h
  ·cases h
 |.arr n s l,d,q,h,yJ=>by
  simp only[Sh.mt] at h;split at h
  ·split at h
   ·obtain⟨w,h1,rfl⟩:=Zg h;simp only[Sh.fill,mts_fills l _ w h1 yJ,yaf]
   ·cases h
  ·cases h
 |.tup l,d,q,h,yJ=>by
  simp only[Sh.mt] at h;split at h
  ·obtain⟨w,h1,rfl⟩:=Zg h;simp only[Sh.fill,mts_fills l _ w h1 yJ,yaf]
  ·cases h
 |.iface t x,d,q,h,yJ=>by
  simp only[Sh.mt] at h;split at h
  ·split at h
   ·obtain⟨w,h1,rfl⟩:=Zg h;simp only[Sh.fill,Zjy x _ w h1 yJ,yaf]
   ·cases h
  ·cases h
 |.if2 t u x,d,q,h,yJ=>by
  simp only[Sh.mt] at h;split at h
  ·split at h
   ·obtain⟨w,h1,rfl⟩:=Zg h;simp only[Sh.fill,yae,YS,ya,Zjy x _ w h1 yJ,yaf];rfl
   ·split at h
    ·obtain⟨w,h1,rfl⟩:=Zg h;simp only[Sh.fill,yae,YS,ya,Zjy x _ w h1 yJ,yaf];rfl
    ·cases h
  ·cases h
 |.ptr0,d,q,h,yJ=>by
  simp only[Sh.mt] at h
  split at h <;> cases h;rfl
 |.fn0,d,q,h,yJ=>by
  simp only[Sh.mt] at h
  split at h <;> cases h;rfl
 |.if0,d,q,h,yJ=>by
  simp only[Sh.mt] at h
  split at h <;> cases h;rfl
 |.map0,d,q,h,yJ=>by
  simp only[Sh.mt] at h
  split at h <;> cases h;rfl
 |.junk,d,q,h,yJ=>by
  simp only[Sh.mt] at h;split at h <;> cases h;rfl
theorem mts_fills{L:Lk}:∀(l:yL Sh)(ds:yL TD)(q:yL TD×yL TV),Sh.mts L l ds=some q->∀yJ,Sh.fills l (q.2++yJ)=some (q.1,yJ)
 |[],ds,q,h,yJ=>by
  simp only[Sh.mts] at h
  split at h <;> cases h;rfl
 |s::r,ds,q,h,yJ=>by
  simp only[Sh.mts] at h;split at h
  ·split at h
   ·rename_i a b h1 h2;cases h;simp only[Sh.fills,yx,Zjy s _ a h1,ya,mts_fills r _ b h2,yaf]
   ·cases h
  ·cases h
end
theorem ZFg(ys:yL Pl):Wk (.p (.agg ys)) (.agg (ys.map .p)):=by
 have key:∀ys:yL Pl,Dv.sizes (ys.map .p)=Pl.sizes ys:=by
  intro ys
  induction ys with
  |nil=>rfl
  |cons y r ih=>rw[yah,Dv.sizes,Pl.sizes,ih];rfl
 refine⟨?_,rfl,λσ vs r=> ?_⟩
 ·first|exact key ys|exact(key ys).symm
 ·simp only[yG,repC] at r ⊢;exact Zho.2 r
mutual
theorem Zp3{L M:Lk}(hL:∀id t,Ym L id t none=Ym M id t none):∀(s:Sh)(d:TD)(q:TD×yL TV),s.mt L d=some q->Wk (d.er L) (q.1.er M)
 |.v t,d,q,h=>by
  simp only[Sh.mt] at h;obtain⟨y,h1,rfl⟩:=Zg h
  exact ZJq h1
 |.elem t,d,q,h=>by
  simp only[Sh.mt] at h;obtain⟨y,h1,rfl⟩:=Zg h;cases d <;> first|cases h1|skip
  exact Wk.elem (ZEJ h1)
 |.nil t,d,q,h=>by
  simp only[Sh.mt] at h;split at h
  ·split at h
   ·rename_i hn;cases h;refine Wk.of_eq ?_;rw[TD.er,Zwc hn];rfl
   ·cases h
  ·cases h
 |.sl nn t,d,q,h=>by
  simp only[Sh.mt] at h;split at h
  ·split at h
   ·rename_i e;subst e;obtain⟨w,h1,rfl⟩:=Zg h;obtain⟨e,h2⟩:=ZR h1;subst e;subst h2;exact Wk.refl _
   ·cases h
  ·cases h
 |.own j t,d,q,h=>by
  simp only[Sh.mt] at h;split at h
  ·split at h
   ·rename_i e;obtain⟨rfl,rfl⟩:=e;cases h;rw[TD.er,TD.er,hL];exact Wk.own rfl
   ·cases h
  ·cases h
 |.ref j p,d,q,h=>by
  simp only[Sh.mt] at h;split at h
  ·split at h
   ·rename_i e;obtain⟨rfl,e⟩:=e;cases h;rw[Zjx e];exact Wk.refl _
   ·cases h
  ·cases h
 |.mp j,d,q,h=>by
  simp only[Sh.mt] at h;split at h
  ·split at h
   ·rename_i e;subst e;cases h;exact Wk.refl _
   ·cases h
  ·cases h
 |.rw j,d,q,h=>by
  simp only[Sh.mt] at h;split at h
  ·split at h
   ·rename_i e;subst e;cases h;refine Wk.of_eq ?_;rw[TD.er,TD.er];simp only[ZcX,hL]
   ·cases h
  ·cases h
 |.rp j s p,d,q,h=>by
  simp only[Sh.mt] at h;split at h
  ·split at h
   ·rename_i e;obtain⟨rfl,rfl,e⟩:=e;cases h;rw[Zjx e];refine Wk.of_eq ?_;rw[TD.er,TD.er];simp only[ZcX,hL]
   ·cases h
  ·cases h
 |.view j p s lo n,d,q,h=>by
  simp only[Sh.mt] at h;split at h
  ·split at h
   ·rename_i e;obtain⟨rfl,e,rfl,rfl,rfl⟩:=e;cases h;rw[Zjx e];exact Wk.refl _
   ·cases h
  ·cases h
 |.rv j ver s lo n,d,q,h=>by
  simp only[Sh.mt] at h;split at h
  ·split at h
   ·rename_i e;obtain⟨rfl,rfl,rfl,rfl,rfl⟩:=e;cases h;exact Wk.refl _
   ·cases h
  ·cases h
 |.fn g l,d,q,h=>by
  simp only[Sh.mt] at h;split at h
  ·split at h
   ·rename_i e;subst e;obtain⟨w,h1,rfl⟩:=Zg h;exact WkL.fn (mts_wk hL l _ w h1)
   ·cases h
  ·cases h
 |.agg l,d,q,h=>by
  simp only[Sh.mt] at h;split at h
  ·obtain⟨w,h1,rfl⟩:=Zg h;exact WkL.agg (mts_wk hL l _ w h1)
  ·split at h
   ·rename_i xs hp;obtain⟨w,h1,rfl⟩:=Zg h;have e:=ZrV hp;have k:=WkL.agg (mts_wk hL l _ w h1);rw[ZE5] at k;rw[TD.er,e];have k0:=ZFg (TP.pes xs);exact⟨k0.size.trans k.size,k0.agg.trans k.agg,λσ vs r=>k.rep σ vs (k0.rep σ vs r)⟩
   ·cases h
  ·cases h
 |.arr n s l,d,q,h=>by
  simp only[Sh.mt] at h;split at h
  ·split at h
   ·rename_i e;obtain⟨rfl,rfl⟩:=e;obtain⟨w,h1,rfl⟩:=Zg h;exact WkL.arr (mts_wk hL l _ w h1)
   ·cases h
  ·cases h
 |.tup l,d,q,h=>by
  simp only[Sh.mt] at h;split at h
  ·obtain⟨w,h1,rfl⟩:=Zg h;exact WkL.tup (mts_wk hL l _ w h1)
  ·cases h
 |.iface t x,d,q,h=>by
  simp only[Sh.mt] at h;split at h
  ·split at h
   ·rename_i e;subst e;obtain⟨w,h1,rfl⟩:=Zg h;exact Wk.iface (Zp3 hL x _ w h1)
   ·cases h
  ·cases h
 |.if2 t u x,d,q,h=>by
  simp only[Sh.mt] at h;split at h
  ·split at h
   ·rename_i e;have e:=Nat.eq_of_beq_eq_true e;subst e;obtain⟨w,h1,rfl⟩:=Zg h;exact Wk.iface (Zp3 hL x _ w h1)
   ·split at h
    ·rename_i e;have e:=Nat.eq_of_beq_eq_true e;subst e;obtain⟨w,h1,rfl⟩:=Zg h;exact Wk.iface (Zp3 hL x _ w h1)
    ·cases h
  ·cases h
 |.ptr0,d,q,h=>by
  simp only[Sh.mt] at h
  split at h <;> cases h;exact Wk.refl _
 |.fn0,d,q,h=>by
  simp only[Sh.mt] at h
  split at h <;> cases h;exact Wk.refl _
 |.if0,d,q,h=>by
  simp only[Sh.mt] at h
  split at h <;> cases h;exact Wk.refl _
 |.map0,d,q,h=>by
  simp only[Sh.mt] at h
  split at h <;> cases h;exact Wk.refl _
 |.junk,d,q,h=>by
  simp only[Sh.mt] at h;split at h
  ·rename_i e;cases h;exact Wk.junk e.2 e.1
  ·cases h
theorem mts_wk{L M:Lk}(hL:∀id t,Ym L id t none=Ym M id t none):∀(l:yL Sh)(ds:yL TD)(q:yL TD×yL TV),Sh.mts L l ds=some q->WkL (TD.ers L ds) (TD.ers M q.1)
 |[],ds,q,h=>by
  simp only[Sh.mts] at h
  split at h <;> cases h;exact .nil
 |s::r,ds,q,h=>by
  simp only[Sh.mts] at h;split at h
  ·split at h
   ·rename_i a b h1 h2;cases h;exact .cons (Zp3 hL s _ a h1) (mts_wk hL r _ b h2)
   ·cases h
  ·cases h
end
inductive ESh where
 |var (s:Sh) (st:Bool)
 |log (t:Ty) (e:yb)
 |map (tid:yb) (k v:Ty)
 |row (t:Ty) (st:Bool) (e:yb)
 |rowN (t:Ty) (np:List Nat) (st:Bool) (e:yb)
 |rowM (t:Ty) (np:List Nat) (st:Bool) (e:yb) (s:Sh)
 |rowD (ver s:Nat) (st:Bool) (e:yb) (n:Nat) (l:List Sh)
 |gone
def Zks(k v:Ty):Ty:=.sl (.st [k,v])
def ZJr(L:Lk)(t:Ty)(d:TD):yO t.den:=(d.flat L).bind λx=>TP.to ZnT x t
theorem ZBH{L:Lk}{t:Ty}{d:TD}{y:t.den}(h:ZJr L t d=some y):Wk (d.er L) (.p (t.enc y)):=by
 obtain⟨x,h1,h2⟩:=yf.1 h;have hf:(d.er L).flat=some x.pe:=by rw[Zq3,h1];rfl
 have hw:Wk (d.er L) (.p x.pe):=⟨(Zo3 _ _ hf).symm,(Zxp hf).symm,λσ vs r=>by simp only[yG];exact ZlV _ _ _ hf r⟩;have hz:=ZEJ h2;exact⟨hw.size.trans hz.size,hw.agg.trans hz.agg,λσ vs r=>(Wk.p hz).rep σ vs (hw.rep σ vs r)⟩
def ESh.mt(L:Lk):ESh->TEnt->yO (TEnt×yL TV)
 |.var s st,.var d st'=>if st=st'\/st=false then(s.mt L d).map λq=>(.var q.1 st,q.2) else none
 |.log t e,.log u e' xs=>if e=e' then(Ty.castL u t xs).map λys=>(.log t e ys,[⟨.sl t,ys⟩]) else none
 |.map tid k v,.map tid' k' v' l=>if tid=tid' then(Ty.cast (Zks k' v') (Zks k v) l).map λ(m:yL (k.den×v.den))=>(.map tid k v m,[⟨Zks k v,m⟩]) else none
 |.row t st e,.rowT u v st' e' xs=>if(st=st'\/st=false)/\e=e' then(Ty.castL u t xs).map λys=>(.rowT t v st e ys,[⟨.sl (.st []),v⟩,⟨.sl t,ys⟩]) else none
 |.rowN t np st e,.rowN u np' v st' e' pre post=>if(st=st'\/st=false)/\e=e'/\np=np' then(Ty.castL u t pre).bind λys=>(Ty.castL u t post).map λzs=>
   (.rowN t np v st e ys zs,[⟨.sl (.st []),v⟩,⟨.sl t,ys⟩,⟨.sl t,zs⟩]) else none
 |.rowN t np st e,.rowM u np' v st' e' pre mid post=>if st=st'/\e=e'/\np=np' then(Ty.castL u t pre).bind λys=>(Ty.castL u t post).bind λzs=>(ZJr L t mid).map λy=>
   (.rowN t np v st e (ys++[y]) zs,[⟨.sl (.st []),v⟩,⟨.sl t,ys++[y]⟩,⟨.sl t,zs⟩]) else none
 |.rowM t np st e s,.rowM u np' v st' e' pre mid post=>if st=st'/\e=e'/\np=np' then(Ty.castL u t pre).bind λys=>(Ty.castL u t post).bind λzs=>(s.mt L mid).map λq=>
   (.rowM t np v st e ys q.1 zs,[⟨.sl (.st []),v⟩,⟨.sl t,ys⟩,⟨.sl t,zs⟩]++q.2) else none
 |.rowD ver s st e n l,.row v' s' st' e' (.arr n' s2 ds)=>if ver=v'/\s=s'/\st=st'/\e=e'/\n=n'/\s=s2 then(Sh.mts L l ds).map λq=>(.row ver s st e (.arr n s q.1),q.2) else none
 |.gone,.gone=>some (.gone,[])
 |_,_=>none
def ESh.fill:ESh->yL TV->yO (TEnt×yL TV)
 |.var s st,vs=>(s.fill vs).map λq=>(.var q.1 st,q.2)
 |.log t e,vs=>match vs with
  |x::r=>(Ty.cast x.1 (.sl t) x.2).map λ(y:yL t.den)=>(.log t e y,r)
  |[]=>none
 |.map tid k v,vs=>match vs with
  |x::r=>(Ty.cast x.1 (Zks k v) x.2).map λ(y:yL (k.den×v.den))=>(.map tid k v y,r)
  |[]=>none
 |.row t st e,vs=>match vs with
  |x::y::r=>(Ty.cast x.1 (.sl (.st [])) x.2).bind λ(v:yL Unit)=>(Ty.cast y.1 (.sl t) y.2).map λ(l:yL t.den)=>(.rowT t v st e l,r)
  |_=>none
 |.rowN t np st e,vs=>match vs with
  |x::y::z::r=>(Ty.cast x.1 (.sl (.st [])) x.2).bind λ(v:yL Unit)=>(Ty.cast y.1 (.sl t) y.2).bind λ(l:yL t.den)=>(Ty.cast z.1 (.sl t) z.2).bind λ(m:yL t.den)=>some (.rowN t np v st e l m,r)
  |_=>none
 |.rowM t np st e s,vs=>match vs with
  |x::y::z::r=>(Ty.cast x.1 (.sl (.st [])) x.2).bind λ(v:yL Unit)=>(Ty.cast y.1 (.sl t) y.2).bind λ(l:yL t.den)=>(Ty.cast z.1 (.sl t) z.2).bind λ(m:yL t.den)=>
   (s.fill r).map λq=>(.rowM t np v st e l q.1 m,q.2)
  |_=>none
 |.rowD ver s st e n l,vs=>(Sh.fills l vs).map λq=>(.row ver s st e (.arr n s q.1),q.2)
 |.gone,vs=>some (.gone,vs)
def ESh.mts(L:Lk):yL ESh->yL TEnt->yO (yL TEnt×yL TV)
 |[],[]=>some ([],[])
 |s::r,d::q=>match ESh.mt L s d,ESh.mts L r q with
  |some a,some b=>some (a.1::b.1,a.2++b.2)
  |_,_=>none
 |_,_=>none
def ESh.fills:yL ESh->yL TV->yO (yL TEnt×yL TV)
 |[],vs=>some ([],vs)
 |s::r,vs=>(ESh.fill s vs).bind λa=>(ESh.fills r a.2).map λb=>(a.1::b.1,b.2)
theorem ZFh{O:Type}{t:Ty}(v:yL Unit)(a b:yL t.den)(k:yL Unit->yL t.den->yL t.den->yO O):
 ((Ty.cast (.sl (.st [])) (.sl (.st [])) v).bind λ(v:yL Unit)=>(Ty.cast (.sl t) (.sl t) a).bind λ(l:yL t.den)=>(Ty.cast (.sl t) (.sl t) b).bind λ(m:yL t.den)=>k v l m)=k v a b:=by
 have e1:=YS (.sl (.st [])) v;have e2:=YS (.sl t) a;have e3:=YS (.sl t) b;grind
theorem ZFi{L:Lk}{s:ESh}{d:TEnt}{q:TEnt×yL TV}(h:s.mt L d=some q)(yJ:yL TV):s.fill (q.2++yJ)=some (q.1,yJ):=by
 unfold ESh.mt at h;split at h
 ·split at h
  ·obtain⟨w,h1,rfl⟩:=Zg h;simp only[ESh.fill,Zjy _ _ w h1 yJ,yaf]
  ·cases h
 ·split at h
  ·obtain⟨w,h1,rfl⟩:=Zg h;rename_i t e _ _ _ _;exact congrArg (Option.map λ(y:yL t.den)=>(TEnt.log t e y,yJ)) (YS (.sl t) w)
  ·cases h
 ·split at h
  ·obtain⟨w,h1,rfl⟩:=Zg h;rename_i tid k v _ _ _ _ _;exact congrArg (Option.map λ(y:yL (k.den×v.den))=>(TEnt.map tid k v y,yJ)) (YS (Zks k v) w)
  ·cases h
 ·split at h
  ·obtain⟨w,h1,rfl⟩:=Zg h;rename_i t st e _ v _ _ _ _;have e1:=YS (.sl (.st [])) v;have e2:=YS (.sl t) w;show((Ty.cast (.sl (.st [])) (.sl (.st [])) v).bind λ(v:yL Unit)=>(Ty.cast (.sl t) (.sl t) w).map λ(l:yL t.den)=>(TEnt.rowT t v st e l,yJ))=_;rw[e1,e2];rfl
  ·cases h
 ·rename_i t np st e u np' v st' e' pre post;split at h
  ·obtain⟨a,h1,h⟩:=yf.1 h;obtain⟨b,h2,rfl⟩:=Zg h;exact ZFh v a b (λv l m=>some (TEnt.rowN t np v st e l m,yJ))
  ·cases h
 ·rename_i t np st e u np' v st' e' pre mid post;split at h
  ·obtain⟨a,h1,h⟩:=yf.1 h;obtain⟨b,h2,h⟩:=yf.1 h;obtain⟨c,h3,rfl⟩:=Zg h;exact ZFh v (a++[c]) b (λv l m=>some (TEnt.rowN t np v st e l m,yJ))
  ·cases h
 ·rename_i t np st e s u np' v st' e' pre mid post;split at h
  ·obtain⟨a,h1,h⟩:=yf.1 h;obtain⟨b,h2,h⟩:=yf.1 h;obtain⟨c,h3,rfl⟩:=Zg h;have:=ZFh v a b (λv l m=>(s.fill (c.2++yJ)).map λq=>(TEnt.rowM t np v st e l q.1 m,q.2));refine this.trans ?_;rw[Zjy _ _ c h3 yJ];rfl
  ·cases h
 ·split at h
  ·obtain⟨w,h1,rfl⟩:=Zg h;simp only[ESh.fill,mts_fills _ _ w h1 yJ,yaf]
  ·cases h
 ·cases h;rfl
 ·cases h
theorem Zgt{L:Lk}:∀{l:yL ESh}{H:yL TEnt}{q:yL TEnt×yL TV},ESh.mts L l H=some q->∀yJ,ESh.fills l (q.2++yJ)=some (q.1,yJ)
 |[],[],q,h,yJ=>by cases h;rfl
 |[],_::_,q,h,yJ=>by cases h
 |_::_,[],q,h,yJ=>by cases h
 |s::r,d::H,q,h,yJ=>by
  simp only[ESh.mts] at h;split at h
  ·rename_i a b h1 h2;cases h;simp only[ESh.fills,yx,ZFi h1,ya,Zgt h2,yaf]
  ·cases h
theorem ZJs{L:Lk}{s:ESh}{d:TEnt}{q:TEnt×yL TV}(h:s.mt L d=some q):lkE (some q.1)=lkE (some d):=by
 unfold ESh.mt at h;split at h
 ·split at h
  ·obtain⟨w,h1,rfl⟩:=Zg h;rfl
  ·cases h
 ·split at h
  ·obtain⟨w,h1,rfl⟩:=Zg h;obtain⟨e,h2⟩:=ZR h1;grind
  ·cases h
 ·split at h
  ·obtain⟨w,h1,rfl⟩:=Zg h;rfl
  ·cases h
 ·split at h
  ·obtain⟨w,h1,rfl⟩:=Zg h;obtain⟨e,h2⟩:=ZR h1;subst e;subst h2;rfl
  ·cases h
 ·split at h
  ·obtain⟨a,h1,h⟩:=yf.1 h;obtain⟨b,h2,rfl⟩:=Zg h;obtain⟨e,h3⟩:=ZR h1;subst e;obtain⟨_,h4⟩:=ZR h2;subst h3;subst h4;rfl
  ·cases h
 ·split at h
  ·obtain⟨a,h1,h⟩:=yf.1 h;obtain⟨b,h2,h⟩:=yf.1 h;obtain⟨c,h3,rfl⟩:=Zg h;obtain⟨e,h4⟩:=ZR h1;subst e;obtain⟨_,h5⟩:=ZR h2;subst h4;subst h5;simp only[lkE,yj,yao,yck];grind
  ·cases h
 ·split at h
  ·obtain⟨a,h1,h⟩:=yf.1 h;obtain⟨b,h2,h⟩:=yf.1 h;obtain⟨c,h3,rfl⟩:=Zg h;obtain⟨e,h4⟩:=ZR h1;subst e;obtain⟨_,h5⟩:=ZR h2;subst h4;subst h5;rfl
  ·cases h
 ·split at h
  ·obtain⟨w,h1,rfl⟩:=Zg h;rfl
  ·cases h
 all_goals grind
theorem Zk1{L:Lk}:∀{l:yL ESh}{H:yL TEnt}{q:yL TEnt×yL TV},ESh.mts L l H=some q->q.1.length=H.length/\lk q.1=lk H
 |[],[],q,h=>by cases h;exact⟨rfl,rfl⟩
 |[],_::_,q,h=>by cases h
 |_::_,[],q,h=>by cases h
 |s::r,d::H,q,h=>by
  simp only[ESh.mts] at h;split at h
  ·rename_i a b h1 h2;cases h;obtain⟨e1,e2⟩:=Zk1 h2;refine⟨by simp[e1],funext λi=> ?_⟩
   cases i with
   |zero=>exact ZJs h1
   |succ i=>exact congrFun e2 i
  ·cases h
theorem ZBI:∀(l:yL Dv){m m':yL Dv},WkL m m'->WkL (l++m) (l++m')
 |[],_,_,h=>h
 |x::l,_,_,h=>.cons (Wk.refl x) (ZBI l h)
theorem ZBJ{l m:yL Dv}{d d':Dv}(h:Wk d d'):WkL (l++d::m) (l++d'::m):=ZBI l (.cons h (WkL.refl m))
theorem ZFj{n s:Nat}(xs:yL Pl):Wk (.arr n s (xs.map .p)) (.p (.arr n s xs)):=⟨rfl,rfl,λσ vs r=>by
 simp only[yG,repC] at r ⊢;obtain⟨h1,h2,h3⟩:=r;exact⟨by simpa using h1,λx hx=>h2 (.p x) (List.mem_map_of_mem hx),Zho.1 h3⟩⟩
theorem ZJt{n s:Nat}{d:Dv}{x:Pl}(l m:yL Pl)(h:Wk d (.p x)):Wk (.arr n s (l.map .p++d::m.map .p)) (.p (.arr n s (l++x::m))):=by
 have h1:Wk (.arr n s (l.map .p++d::m.map .p)) (.arr n s (l.map .p++.p x::m.map .p)):=WkL.arr (ZBJ h);have h2:=ZFj (n:=n) (s:=s) (l++x::m);rw[yau,yah] at h2;exact⟨rfl,rfl,λσ vs r=>h2.rep σ vs (h1.rep σ vs r)⟩
theorem ZBK{L M:Lk}{t:Ty}{np:yL Nat}{v:yL Unit}{st:Bool}{e:yb}{a b:yL t.den}{mid:TD}{c:t.den}(hw:Wk (mid.er L) (.p (t.enc c))):
 WkE ((TEnt.rowM t np v st e a mid b).er L) ((TEnt.rowN t np v st e (a++[c]) b).er M):=by
 have h:=ZJt (a.map t.enc) (b.map λx=>(WE np (.v t x)).pe) (n:=a.length+(b.length+1)) (s:=t.size) hw;rw[ybe,ybe] at h;have e1:(a++[c]).length+b.length=a.length+(b.length+1):=by rw[yj,yao,yck];omega
 have e2:(a++[c]).map t.enc++(b.map λx=>(WE np (.v t x)).pe)=a.map t.enc++t.enc c::b.map λx=>(WE np (.v t x)).pe:=by rw[yau,yx];rfl
 rw[TEnt.er,TEnt.er,e1,e2];exact .row ⟨h,rfl⟩
theorem ZJu{L M:Lk}(hL:∀id t,Ym L id t none=Ym M id t none){s:ESh}{d:TEnt}{q:TEnt×yL TV}(h:s.mt L d=some q):WkE (d.er L) (q.1.er M):=by
 unfold ESh.mt at h;split at h
 ·split at h
  ·rename_i e;obtain⟨w,h1,rfl⟩:=Zg h;rcases e with e|e
   ·subst e;exact .var (Zp3 hL _ _ w h1)
   ·subst e;exact .varz (Zp3 hL _ _ w h1)
  ·cases h
 ·split at h
  ·rename_i e;subst e;obtain⟨w,h1,rfl⟩:=Zg h;obtain⟨e,h2⟩:=ZR h1;subst e;subst h2;exact .refl _
  ·cases h
 ·split at h
  ·rename_i e;subst e;obtain⟨w,h1,rfl⟩:=Zg h;obtain⟨e,h2⟩:=QN h1;unfold Zks at e;simp only[Ty.sl.injEq,Ty.st.injEq,List.cons.injEq,and_true] at e;obtain⟨e1,e2⟩:=e;subst e1;subst e2;subst h2;exact .refl _
  ·cases h
 ·split at h
  ·rename_i e;obtain⟨e0,e1⟩:=e;subst e1;obtain⟨w,h1,rfl⟩:=Zg h;obtain⟨e,h2⟩:=ZR h1;subst e;subst h2;rcases e0 with e0|e0
   ·subst e0;exact .refl _
   ·subst e0;exact .lock
  ·cases h
 ·split at h
  ·rename_i e;obtain⟨e0,e1,e2⟩:=e;subst e1;subst e2;obtain⟨a,h1,h⟩:=yf.1 h;obtain⟨b,h2,rfl⟩:=Zg h;obtain⟨e,h3⟩:=ZR h1;subst e;obtain⟨_,h4⟩:=ZR h2;subst h3;subst h4;rcases e0 with e0|e0
   ·subst e0;exact .refl _
   ·subst e0;exact .lock
  ·cases h
 ·rename_i _ _ _ _ _ _ _ _ _ pre mid post;split at h
  ·rename_i e;obtain⟨e0,e1,e2⟩:=e;subst e0;subst e1;subst e2;obtain⟨a,h1,h⟩:=yf.1 h;obtain⟨b,h2,h⟩:=yf.1 h;obtain⟨c,h3,rfl⟩:=Zg h;obtain⟨e,h4⟩:=ZR h1;subst e;obtain⟨_,h5⟩:=ZR h2;subst h4;subst h5;exact ZBK (ZBH h3)
  ·cases h
 ·split at h
  ·rename_i e;obtain⟨e0,e1,e2⟩:=e;subst e0;subst e1;subst e2;obtain⟨a,h1,h⟩:=yf.1 h;obtain⟨b,h2,h⟩:=yf.1 h;obtain⟨c,h3,rfl⟩:=Zg h;obtain⟨e,h4⟩:=ZR h1;subst e;obtain⟨_,h5⟩:=ZR h2;subst h4;subst h5;rw[TEnt.er,TEnt.er];exact .row ⟨WkL.arr (ZBJ (Zp3 hL _ _ c h3)),rfl⟩
  ·cases h
 ·split at h
  ·rename_i e;obtain⟨rfl,rfl,rfl,rfl,rfl,rfl⟩:=e;obtain⟨w,h1,rfl⟩:=Zg h;rw[TEnt.er,TEnt.er,TD.er,TD.er];exact .row ⟨WkL.arr (mts_wk hL _ _ w h1),rfl⟩
  ·cases h
 ·cases h;exact .refl _
 ·cases h
theorem Zn9{L M:Lk}(hL:∀id t,Ym L id t none=Ym M id t none):∀{l:yL ESh}{H:yL TEnt}{q:yL TEnt×yL TV},ESh.mts L l H=some q->WkH (H.map (TEnt.er L)) (q.1.map (TEnt.er M))
 |[],[],q,h=>by cases h;exact .nil
 |[],_::_,q,h=>by cases h
 |_::_,[],q,h=>by cases h
 |s::r,d::H,q,h=>by
  simp only[ESh.mts] at h;split at h
  ·rename_i a b h1 h2;cases h;exact .cons (ZJu hL h1) (Zn9 hL h2)
  ·cases h
def ofD:(ts:yL Ty)->Ty.dens ts->yL TV
 |[],_=>[]
 |[t],x=>[⟨t,x⟩]
 |t::u::r,x=>⟨t,x.1⟩::ofD (u::r) x.2
def toD:(ts:yL Ty)->yL TV->yO (Ty.dens ts)
 |[],[]=>some ()
 |[t],[x]=>Ty.cast x.1 t x.2
 |t::u::r,x::l=>ZmD (Ty.cast x.1 t x.2) (toD (u::r) l)
 |_,_=>none
theorem ZhD:∀(ts:yL Ty)(l:yL TV)(x:Ty.dens ts),toD ts l=some x->ofD ts x=l
 |[],[],x,h=>rfl
 |[],_::_,x,h=>by cases h
 |[t],[],x,h=>by cases h
 |[t],[y],x,h=>by
  obtain⟨e,h2⟩:=QN (show Ty.cast y.1 t y.2=some x from h)
  obtain⟨u,y⟩:=y;dsimp only at e h2;subst e;subst h2
  rfl
 |[t],_::_::_,x,h=>by cases h
 |t::u::r,[],x,h=>by cases h
 |t::u::r,y::l,x,h=>by
  obtain⟨h1,h2⟩:=ZdF (α:=t.den) (β:=Ty.dens (u::r)) (show ZmD (Ty.cast y.1 t y.2) (toD (u::r) l)=some x from h)
  obtain⟨e,h3⟩:=QN h1;obtain⟨u',y⟩:=y;dsimp only at e h3;subst e;have:=ZhD (u::r) l x.2 h2;show(⟨u',x.1⟩:TV)::ofD (u::r) x.2=_;rw[this,h3]
abbrev Slots:=yL (Nat×Sh)
def shs(sl:Slots)(n:Nat):yL Sh:=(yp n).map λi=>(sl.lookup i).getD .junk
def VY(n:Nat)(sl:Slots)(es:yL ESh)(vs:yL TV):yO (yL TD×yL TEnt):=
 (Sh.fills (shs sl n) vs).bind λq=>(ESh.fills es q.2).bind λw=>if w.2.isEmpty then some (q.1,w.1) else none
theorem Zph:∀{l:yL Sh}{vs:yL TV}{q:yL TD×yL TV},Sh.fills l vs=some q->q.1.length=l.length
 |[],vs,q,h=>by simp only[Sh.fills] at h;cases h;rfl
 |s::r,vs,q,h=>by
  simp only[Sh.fills] at h;obtain⟨a,h1,h⟩:=yf.1 h;obtain⟨b,h2,rfl⟩:=Zg h;simp[Zph h2]
theorem Zl9{n:Nat}{sl:Slots}{es:yL ESh}{vs:yL TV}{q:yL TD×yL TEnt}(h:VY n sl es vs=some q):q.1.length=n:=by
 unfold VY at h;obtain⟨a,h1,h⟩:=yf.1 h;obtain⟨b,h2,h⟩:=yf.1 h;split at h
 ·cases h;rw[Zph h1];simp[shs]
 ·cases h
structure XSh where
 ex:Ex
 sl:Slots
 es:List ESh
 ty:List Ty
def XSh.sum:yL XSh->Type
 |[]=>Empty
 |[e]=>Ty.dens e.ty
 |e::f::r=>Ty.dens e.ty⊕XSh.sum (f::r)
abbrev Kc(O:Type):=Ex->yL TD->yL TEnt->yO O
def xT{O:Type}(n:Nat):(l:yL XSh)->XSh.sum l->Kc O->yO O
 |[],_,_=>none
 |[e],o,K=>(VY n e.sl e.es (ofD e.ty o)).bind λs=>K e.ex s.1 s.2
 |e::f::r,o,K=>match (o:Ty.dens e.ty⊕XSh.sum (f::r)) with
  |.inl o=>(VY n e.sl e.es (ofD e.ty o)).bind λs=>K e.ex s.1 s.2
  |.inr o=>xT n (f::r) o K
def ZAo:(l:yL XSh)->XSh.sum l->XSh->yL TV->Prop
 |[],_,_,_=>False
 |[e],o,x,vs=>x=e/\vs=ofD e.ty o
 |e::f::r,o,x,vs=>match (o:Ty.dens e.ty⊕XSh.sum (f::r)) with
  |.inl o=>x=e/\vs=ofD e.ty o
  |.inr o=>ZAo (f::r) o x vs
theorem Zq6{O:Type}{n:Nat}{K:Kc O}{out:O}:∀{l:yL XSh}{o:XSh.sum l},xT n l o K=some out->∃e vs s,ZAo l o e vs/\VY n e.sl e.es vs=some s/\K e.ex s.1 s.2=some out
 |[],_,h=>by cases h
 |[e],o,h=>by
  obtain⟨s,h1,h2⟩:=yf.1 (show(VY n e.sl e.es (ofD e.ty o)).bind (λs=>K e.ex s.1 s.2)=some out from h)
  exact⟨e,_,s,⟨rfl,rfl⟩,h1,h2⟩
 |e::f::r,.inl o,h=>by
  obtain⟨s,h1,h2⟩:=yf.1 (show(VY n e.sl e.es (ofD e.ty o)).bind (λs=>K e.ex s.1 s.2)=some out from h)
  exact⟨e,_,s,⟨rfl,rfl⟩,h1,h2⟩
 |e::f::r,.inr o,h=>by
  obtain⟨e',vs,s,h1,h2,h3⟩:=Zq6 (l:=f::r) (o:=o) h;exact⟨e',vs,s,h1,h2,h3⟩
theorem ZFk{A B:yL Ent}(hl:A.length=B.length)(h:∀(i:Nat)(a b:Ent),A[i]? =some a->B[i]? =some b->WkE a b):WkH A B:=by
 induction A generalizing B with
 |nil=>cases B with
  |nil=>exact .nil
  |cons _ _=>simp at hl
 |cons a A ih=>cases B with
  |nil=>simp at hl
  |cons b B=>exact .cons (h 0 a b rfl rfl) (ih (by simpa using hl) λi a b h1 h2=>h (i+1) a b h1 h2)
def Ty.mkFs(f:(T:Ty)->TD->yO T.den):(fs:yL Ty)->yL TD->yO (Ty.dens fs)
 |[],[]=>some ()
 |[t],[d]=>f t d
 |t::u::r,d::ds=>ZmD (f t d) (Ty.mkFs f (u::r) ds)
 |_,_=>none
def mkL{T:Ty}(f:TD->yO T.den):yL TD->yO (yL T.den)
 |[]=>some []
 |d::r=>(ZmD (f d) (mkL f r)).map λq=>q.1::q.2
def ZKI(H:yL TEnt)(id:Nat)(u:Ty):yO (yL u.den):=
 match H[id]? with
 |some (.rowT u' v false e l)=>Ty.castL u' u l
 |_=>none
def ZFl(H:yL TEnt):Nat->(T:Ty)->TD->yO T.den
 |0,_,_=>none
 |n+1,T,d=>match d with
  |.p x=>TP.to ZnT x T
  |.own id nn t c=>ZEH true t (Ym (lk H) id t c) T
  |.agg ds=>ZEI (λfs=>Ty.mkFs (ZFl H n) fs ds) T
  |.rw id=>match T with
   |.sl u=>ZKI H id u
   |_=>none
  |.rv id v s lo k=>match T with
   |.sl u=>match H[id]? with
    |some (.row w s' false e d)=>if(w==v&&s'==s&&s==u.size)=true then match d with
      |.p x=>x.arow.bind λr=>(Ty.castL r.t u r.l).bind λl=>if decide (lo+k<=r.n)=true then some ((l.drop lo).take k) else none
      |.arr N s2 ds=>if(s2==s&&decide (lo+k<=N))=true then(mkL (ZFl H n u) ds).map λ(l:yL u.den)=>(l.drop lo).take k else none
      |_=>none
     else none
    |_=>none
   |_=>none
  |_=>none
mutual
def TD.rn(f:Nat->yO Nat):TD->yO TD
 |.p x=>some (.p x)
 |.elem x=>some (.elem x)
 |.ref id yM=>(f id).map λi=>.ref i yM
 |.own id nn t c=>(f id).map λi=>.own i nn t c
 |.view id yM s lo n=>(f id).map λi=>.view i yM s lo n
 |.agg xs=>(TD.rns f xs).map .agg
 |.arr n s xs=>(TD.rns f xs).map (.arr n s)
 |.fn g cap=>(TD.rns f cap).map (.fn g)
 |.iface t x=>(TD.rn f x).map (.iface t)
 |.tup xs=>(TD.rns f xs).map .tup
 |.mp id=>(f id).map .mp
 |.rv id v s lo n=>(f id).map λi=>.rv i v s lo n
 |.rref id v yM=>(f id).map λi=>.rref i v yM
 |.rw id=>(f id).map .rw
 |.rp id yM=>(f id).map λi=>.rp i yM
 |.junk=>some .junk
def TD.rns(f:Nat->yO Nat):yL TD->yO (yL TD)
 |[]=>some []
 |x::r=>match TD.rn f x,TD.rns f r with
  |some y,some ys=>some (y::ys)
  |_,_=>none
end
def TEnt.rn(f:Nat->yO Nat):TEnt->yO TEnt
 |.var d st=>(d.rn f).map λd'=>.var d' st
 |.row v s st e d=>(d.rn f).map λd'=>.row v s st e d'
 |.rowM t np v st e pre d post=>(d.rn f).map λd'=>.rowM t np v st e pre d' post
 |e=>some e
def TEnt.rns(f:Nat->yO Nat):yL TEnt->yO (yL TEnt)
 |[]=>some []
 |x::r=>match TEnt.rn f x,TEnt.rns f r with
  |some y,some ys=>some (y::ys)
  |_,_=>none
def Rc(f:Nat->yO Nat)(L M:Lk):Prop:=∀id j t,f id=some j->Ym L id t none=Ym M j t none
theorem ZHH{f:Nat->yO Nat}{L M:Lk}(h:Rc f L M){id j:Nat}(e:f id=some j)(t:Ty)(c:yO (yL t.den)):Ym L id t c=Ym M j t c:=by
 cases c with
 |none=>exact h id j t e
 |some _=>rfl
mutual
theorem Zk2{f:Nat->yO Nat}{L M:Lk}(h:Rc f L M):∀(d d':TD),d.rn f=some d'->Dv.rn f (d.er L)=some (d'.er M)
 |.p x,d',e=>by cases e;rfl
 |.elem x,d',e=>by cases e;rfl
 |.ref id yM,d',e=>by
  obtain⟨i,h1,rfl⟩:=Zg e
  simp only[TD.er,Dv.rn,h1,yaf]
 |.own id nn t c,d',e=>by
  obtain⟨i,h1,rfl⟩:=Zg e
  simp only[TD.er,Dv.rn,h1,yaf,ZHH h h1]
 |.view id yM s lo n,d',e=>by
  obtain⟨i,h1,rfl⟩:=Zg e
  simp only[TD.er,Dv.rn,h1,yaf]
 |.agg xs,d',e=>by
  obtain⟨i,h1,rfl⟩:=Zg e
  simp only[TD.er,Dv.rn,rns_er h xs i h1,yaf]
 |.arr n s xs,d',e=>by
  obtain⟨i,h1,rfl⟩:=Zg e
  simp only[TD.er,Dv.rn,rns_er h xs i h1,yaf]
 |.fn g xs,d',e=>by
  obtain⟨i,h1,rfl⟩:=Zg e
  simp only[TD.er,Dv.rn,rns_er h xs i h1,yaf]
 |.iface t x,d',e=>by
  obtain⟨i,h1,rfl⟩:=Zg e
  simp only[TD.er,Dv.rn,Zk2 h x i h1,yaf]
 |.tup xs,d',e=>by
  obtain⟨i,h1,rfl⟩:=Zg e
  simp only[TD.er,Dv.rn,rns_er h xs i h1,yaf]
 |.mp id,d',e=>by
  obtain⟨i,h1,rfl⟩:=Zg e
  simp only[TD.er,Dv.rn,h1,yaf]
 |.rv id v s lo n,d',e=>by
  obtain⟨i,h1,rfl⟩:=Zg e
  simp only[TD.er,Dv.rn,h1,yaf]
 |.rref id v yM,d',e=>by
  obtain⟨i,h1,rfl⟩:=Zg e
  simp only[TD.er,Dv.rn,h1,yaf]
 |.rw id,d',e=>by
  obtain⟨i,h1,rfl⟩:=Zg e
  simp only[TD.er,Dv.rn,h1,yaf,ZcX,h _ _ _ h1]
 |.rp id yM,d',e=>by
  obtain⟨i,h1,rfl⟩:=Zg e
  simp only[TD.er,Dv.rn,h1,yaf,ZcX,h _ _ _ h1]
 |.junk,d',e=>by cases e;rfl
theorem rns_er{f:Nat->yO Nat}{L M:Lk}(h:Rc f L M):∀(ds es:yL TD),TD.rns f ds=some es->Dv.rns f (TD.ers L ds)=some (TD.ers M es)
 |[],es,e=>by cases e;rfl
 |x::r,es,e=>by
  simp only[TD.rns] at e;split at e
  ·rename_i y ys h1 h2;cases e;simp only[TD.ers,Dv.rns,Zk2 h x y h1,rns_er h r ys h2]
  ·cases e
end
theorem ZAp{α:Type}(f:Nat->yO Nat)(g:α->Pl):∀(l:yL α)(m:yL Dv),Dv.rns f ((l.map λx=>.p (g x))++m)=(Dv.rns f m).map λq=>(l.map λx=>.p (g x))++q
 |[],m=>by cases h:Dv.rns f m <;> simp[h]
 |x::l,m=>by
  rw[yah,yae,Dv.rns,Dv.rn,ZAp f g l m];cases Dv.rns f m <;> rfl
theorem ZHI{α β:Type}{f:Nat->yO Nat}{g:α->Pl}{g':β->Pl}{l:yL α}{d d':Dv}{m:yL β}(h:Dv.rn f d=some d'):
 Dv.rns f ((l.map λx=>.p (g x))++d::m.map λx=>.p (g' x))=some ((l.map λx=>.p (g x))++d'::m.map λx=>.p (g' x)):=by
 have e:=ZAp f g' m [];rw[yas] at e;rw[ZAp,Dv.rns,h,e];simp[Dv.rns]
theorem ZAq{f:Nat->yO Nat}{L M:Lk}(h:Rc f L M){e e':TEnt}(k:e.rn f=some e'):Ent.rn f (e.er L)=some (e'.er M):=by
 cases e with
 |var d st=>
  obtain⟨i,h1,rfl⟩:=Zg k
  simp only[TEnt.er,Ent.rn,Zk2 h d i h1,yaf]
 |row v s st e d=>
  obtain⟨i,h1,rfl⟩:=Zg k
  simp only[TEnt.er,Ent.rn,Zk2 h d i h1,yaf]
 |rowM t np v st e pre d post=>
  obtain⟨i,h1,rfl⟩:=Zg k
  simp only[TEnt.er,Ent.rn,Dv.rn,ZHI (Zk2 h d i h1),yaf]
 |_=>cases k;rfl
theorem ZBL{f:Nat->yO Nat}{L M:Lk}(h:Rc f L M):∀(ds es:yL TEnt),TEnt.rns f ds=some es->Ent.rns f (ds.map (TEnt.er L))=some (es.map (TEnt.er M))
 |[],es,e=>by cases e;rfl
 |x::r,es,e=>by
  simp only[TEnt.rns] at e;split at e
  ·rename_i y ys h1 h2;cases e;simp only[yah,Ent.rns,ZAq h h1,ZBL h r ys h2]
  ·cases e
theorem ZFm{f:Nat->yO Nat}{e e':TEnt}(k:e.rn f=some e'):lkE (some e')=lkE (some e):=by
 cases e with
 |var d st=>obtain⟨i,h1,rfl⟩:=Zg k;rfl
 |row v s st e d=>obtain⟨i,h1,rfl⟩:=Zg k;rfl
 |rowM t np v st e pre d post=>obtain⟨i,h1,rfl⟩:=Zg k;rfl
 |_=>cases k;rfl
theorem Zyj{f:Nat->yO Nat}:∀{ds es:yL TEnt},TEnt.rns f ds=some es->es.length=ds.length/\∀(j:Nat),lkE (es[j]?)=lkE (ds[j]?)
 |[],es,e=>by cases e;exact⟨rfl,λ_=>rfl⟩
 |x::r,es,e=>by
  simp only[TEnt.rns] at e;split at e
  ·rename_i y ys h1 h2;cases e;obtain⟨g1,g2⟩:=Zyj h2;refine⟨by simp[g1],λj=> ?_⟩
   cases j with
   |zero=>exact ZFm h1
   |succ j=>exact g2 j
  ·cases e
def WM(H:yL TEnt)(all:yL Nat):yL Nat->yO (yL TEnt)
 |[]=>some []
 |id::r=>match (H[id]?).bind (TEnt.rn (toIds all)),WM H all r with
  |some e,some es=>some (e::es)
  |_,_=>none
theorem Zjz{H:yL TEnt}{all:yL Nat}:∀{ids:yL Nat}{Hin:yL TEnt},WM H all ids=some Hin->Hin.length=ids.length/\∀(j id:Nat),ids[j]? =some id->id < H.length/\lkE (Hin[j]?)=lkE (H[id]?)
 |[],Hin,h=>by cases h;exact⟨rfl,λj id e=>by simp at e⟩
 |i::r,Hin,h=>by
  simp only[WM] at h;split at h
  ·rename_i e es h1 h2;cases h;obtain⟨g1,g2⟩:=Zjz h2;obtain⟨e0,h3,h4⟩:=yf.1 h1;refine⟨by simp[g1],λj id hj=> ?_⟩
   cases j with
   |zero=>
    cases hj
    exact⟨(yo.1 h3).1,by rw[h3];exact ZFm h4⟩
   |succ j=>exact g2 j id hj
  ·cases h
theorem W4{H:yL TEnt}{all:yL Nat}{M:Lk}(h:Rc (toIds all) (lk H) M):∀{ids:yL Nat}{Hin:yL TEnt},WM H all ids=some Hin->subEnts (erH H) all ids=some (Hin.map (TEnt.er M))
 |[],Hin,e=>by cases e;rfl
 |i::r,Hin,e=>by
  simp only[WM] at e;split at e
  ·rename_i e0 es h1 h2;cases e;obtain⟨e1,h3,h4⟩:=yf.1 h1;simp only[subEnts,Yf h3,ya,ZAq h h4,W4 h h2,yah]
  ·cases e
mutual
def TD.lay(L:Lk)(S:yL Nat):TD->TD
 |.own id nn t c=>if S.contains id then .own id nn t (some (Ym L id t c)) else .own id nn t c
 |.agg xs=>.agg (TD.lays L S xs)
 |.arr m s xs=>.arr m s (TD.lays L S xs)
 |.fn f xs=>.fn f (TD.lays L S xs)
 |.iface t x=>.iface t (TD.lay L S x)
 |.tup xs=>.tup (TD.lays L S xs)
 |.p x=>.p x
 |.elem x=>.elem x
 |.ref id yM=>.ref id yM
 |.view id yM s lo n=>.view id yM s lo n
 |.mp id=>.mp id
 |.rv id v s lo n=>.rv id v s lo n
 |.rref id v yM=>.rref id v yM
 |.rw id=>if S.contains id then .rv id (ZcX L id 0) (ZcX L id 1) 0 (ZcX L id 2) else .rw id
 |.rp id yM=>if S.contains id then .rref id (ZcX L id 0) yM else .rp id yM
 |.junk=>.junk
def TD.lays(L:Lk)(S:yL Nat):yL TD->yL TD
 |[]=>[]
 |x::r=>TD.lay L S x::TD.lays L S r
end
mutual
def TD.under(n:Nat):TD->Bool
 |.own id _ _ c=>c.isSome || decide (id < n)
 |.rw id=>decide (id < n)
 |.rp id _=>decide (id < n)
 |.agg xs=>TD.unders n xs
 |.arr _ _ xs=>TD.unders n xs
 |.fn _ xs=>TD.unders n xs
 |.iface _ x=>TD.under n x
 |.tup xs=>TD.unders n xs
 |_=>true
def TD.unders(n:Nat):yL TD->Bool
 |[]=>true
 |x::r=>TD.under n x&&TD.unders n r
end
def TEnt.lay(L:Lk)(S:yL Nat):TEnt->TEnt
 |.var d st=>.var (d.lay L S) st
 |.row v s st e d=>.row v s st e (d.lay L S)
 |.rowM t np v st e pre d post=>.rowM t np v st e pre (d.lay L S) post
 |e=>e
def TEnt.under(n:Nat):TEnt->Bool
 |.var d _=>d.under n
 |.row _ _ _ _ d=>d.under n
 |.rowM _ _ _ _ _ _ d _=>d.under n
 |_=>true
def Lo(S:yL Nat)(n:Nat)(L M:Lk):Prop:=∀id t,S.contains id=false->id < n->Ym L id t none=Ym M id t none
mutual
theorem Zsf{L M:Lk}{S:yL Nat}{n:Nat}(h:Lo S n L M):∀(d:TD),d.under n=true->(d.lay L S).er M=d.er L
 |.p _,_=>rfl
 |.elem _,_=>rfl
 |.ref _ _,_=>rfl
 |.own id nn t c,hf=>by
  rw[TD.lay];split
  ·rfl
  ·rename_i hn
   cases c with
   |none=>
    have:id < n:=by simpa[TD.under] using hf
    rw[TD.er,TD.er,h id t (by simpa using hn) this]
   |some _=>rfl
 |.view _ _ _ _ _,_=>rfl
 |.agg xs,hf=>by rw[TD.lay,TD.er,TD.er,ers_lay h xs hf]
 |.arr _ _ xs,hf=>by rw[TD.lay,TD.er,TD.er,ers_lay h xs hf]
 |.fn _ xs,hf=>by rw[TD.lay,TD.er,TD.er,ers_lay h xs hf]
 |.iface _ x,hf=>by rw[TD.lay,TD.er,TD.er,Zsf h x hf]
 |.tup xs,hf=>by rw[TD.lay,TD.er,TD.er,ers_lay h xs hf]
 |.mp _,_=>rfl
 |.rv _ _ _ _ _,_=>rfl
 |.rref _ _ _,_=>rfl
 |.rw id,hf=>by
  rw[TD.lay];split
  ·rfl
  ·rename_i hn;have:id < n:=by simpa[TD.under] using hf
   simp only[TD.er,ZcX,h id _ (by simpa using hn) this]
 |.rp id _,hf=>by
  rw[TD.lay];split
  ·rfl
  ·rename_i hn;have:id < n:=by simpa[TD.under] using hf
   simp only[TD.er,ZcX,h id _ (by simpa using hn) this]
 |.junk,_=>rfl
theorem ers_lay{L M:Lk}{S:yL Nat}{n:Nat}(h:Lo S n L M):∀(ds:yL TD),TD.unders n ds=true->TD.ers M (TD.lays L S ds)=TD.ers L ds
 |[],_=>rfl
 |x::r,hf=>by
  simp only[TD.unders,yi] at hf;rw[TD.lays,TD.ers,TD.ers,Zsf h x hf.1,ers_lay h r hf.2]
end
theorem Zyk{L:Lk}{S:yL Nat}:∀(l:yL TD),(TD.lays L S l).length=l.length
 |[]=>rfl
 |_::r=>by rw[TD.lays,yao,yao,Zyk r]
theorem ZHJ{L M:Lk}{S:yL Nat}{n:Nat}(h:Lo S n L M){e:TEnt}(hf:e.under n=true):(e.lay L S).er M=e.er L:=by
 cases e with
 |var d st=>rw[TEnt.lay,TEnt.er,TEnt.er,Zsf h d hf]
 |row v s st e d=>rw[TEnt.lay,TEnt.er,TEnt.er,Zsf h d hf]
 |rowM t np v st e pre d post=>rw[TEnt.lay,TEnt.er,TEnt.er,Zsf h d hf]
 |_=>rfl
theorem ZHK{L:Lk}{S:yL Nat}(e:yO TEnt):lkE (e.map (TEnt.lay L S))=lkE e:=by
 cases e with
 |none=>rfl
 |some e=>cases e <;> rfl
theorem Zp4{α β:Type}(f:α->β):∀(ids:yL Nat)(A B:yL α),(putBack A ids B).map f=putBack (A.map f) ids (B.map f)
 |[],A,B=>by simp[putBack]
 |id::r,A,[]=>by simp[putBack]
 |id::r,A,b::B=>by simp only[putBack,yah];rw[Zp4 f r,ybm]
def TD.argI(L:Lk)(ids:yL Nat):TD->TD
 |.own id nn t c=>if ids.contains id then .own id nn t c else .p (.sl nn t (Ym L id t c))
 |.agg ds=>if TD.ownss ids ds then .agg ds else TD.melt L ds
 |d=>d
theorem Zwx{L:Lk}{ids:yL Nat}(d:TD):(d.argI L ids).er L=Dv.argI ids (d.er L):=by
 cases d with
 |own id nn t c=>
  rw[TD.argI,TD.er,Dv.argI]
  split <;> rfl
 |p _=>rfl
 |elem _=>rfl
 |ref _ _=>rfl
 |view _ _ _ _ _=>rfl
 |agg ds=>
  rw[TD.argI,TD.er,Dv.argI,ownss_er];split
  ·rw[TD.er]
  ·exact ZBw _
 |arr _ _ _=>rfl
 |fn _ _=>rfl
 |iface _ _=>rfl
 |tup _=>rfl
 |mp _=>rfl
 |rv _ _ _ _ _=>rfl
 |rref _ _ _=>rfl
 |rw _=>rfl
 |rp _ _=>rfl
 |junk=>rfl
def Zsg(P:yg)(ts:yL TD):yL yn->yL yb->yO (yL TD)
 |[],_=>some []
 |_,[]=>some []
 |x::r,t::q=>match arT P ts t x,Zsg P ts r q with
  |some a,some b=>some (a::b)
  |_,_=>none
theorem Zoa{P:yg}{ts:yL TD}{L:Lk}(ids:yL Nat):∀{l:yL yn}{ty:yL yb}{ds:yL TD},Zsg P ts l ty=some ds->
 ((l.zip ty).map λq=>(argD P (TD.ers L ts) q.2 q.1).argI ids)=TD.ers L (ds.map (TD.argI L ids))
 |[],ty,ds,h=>by cases h;rfl
 |x::r,[],ds,h=>by cases h;rfl
 |x::r,t::q,ds,h=>by
  simp only[Zsg] at h;split at h
  ·rename_i a b h1 h2;cases h;simp only[List.zip_cons_cons,yah,TD.ers,Zv (L:=L) h1,Zwx,Zoa ids h2]
  ·cases h
theorem ZBM{L:Lk}(ids:yL Nat)(ds:yL TD):(TD.ers L ds).map (Dv.argI ids)=TD.ers L (ds.map (TD.argI L ids)):=by
 rw[ZP,ZP,ybe,ybe];exact ycs λx _=>(Zwx x).symm
structure Fs(P:yg)where
 g:yw
 ps:List Sh
 es:List ESh
 ins:List Ty
 xs:List XSh
 M:Ty.dens ins->Option (XSh.sum xs)
def Fs.Ok{P:yg}(s:Fs P):Prop:=
 ∀x o,s.M x=some o->∃args R H,Sh.fills s.ps (ofD s.ins x)=some (args,R)/\ESh.fills s.es R=some (H,[])/\
  ∀e vs s',ZAo s.xs o e vs->VY 1 e.sl e.es vs=some s'->∃r,s'.1=[r]/\Con P s.g (TD.ers (lk H) args) (erH H) (r.er (lk s'.2)) (erH s'.2)
def AllOk{P:yg}:yL (Fs P)->Prop
 |[]=>True
 |s::r=>s.Ok/\AllOk r
mutual
def Sh.ids:Sh->TD->yL (Nat×Nat)
 |.own j _,d=>match d with
  |.own id _ _ none=>[(j,id)]
  |_=>[]
 |.ref j _,d=>match d with
  |.ref id _=>[(j,id)]
  |_=>[]
 |.mp j,d=>match d with
  |.mp id=>[(j,id)]
  |_=>[]
 |.rw j,d=>match d with
  |.rw id=>[(j,id)]
  |_=>[]
 |.rp j _ _,d=>match d with
  |.rp id _=>[(j,id)]
  |_=>[]
 |.view j _ _ _ _,d=>match d with
  |.view id _ _ _ _=>[(j,id)]
  |_=>[]
 |.rv j _ _ _ _,d=>match d with
  |.rv id _ _ _ _=>[(j,id)]
  |_=>[]
 |.fn _ l,d=>match d with
  |.fn _ ds=>Sh.idsL l ds
  |_=>[]
 |.agg l,d=>match d with
  |.agg ds=>Sh.idsL l ds
  |_=>[]
 |.arr _ _ l,d=>match d with
  |.arr _ _ ds=>Sh.idsL l ds
  |_=>[]
 |.tup l,d=>match d with
  |.tup ds=>Sh.idsL l ds
  |_=>[]
 |.iface _ x,d=>match d with
  |.iface _ y=>Sh.ids x y
  |_=>[]
 |_,_=>[]
def Sh.idsL:yL Sh->yL TD->yL (Nat×Nat)
 |[],_=>[]
 |s::r,ds=>match ds with
  |d::q=>Sh.ids s d++Sh.idsL r q
  |[]=>[]
end
def ZJv(H:yL TEnt):yL ESh->Nat->yL (Nat×Nat)->yL (Nat×Nat)
 |[],_,l=>l
 |e::r,j,l=>ZJv H r (j+1) (match e,(l.lookup j).bind λid=>H[id]? with
  |.var s _,some (.var d _)=>l++Sh.ids s d
  |.rowD _ _ _ _ _ sl,some (.row _ _ _ _ (.arr _ _ ds))=>l++Sh.idsL sl ds
  |_,_=>l)
def ZFn(H:yL TEnt):yO Nat:=(yp H.length).reverse.find? λi=>match H[i]? with
 |some .gone=>true
 |_=>false
def ZKJ(H:yL TEnt)(ps:yL Sh)(es:yL ESh)(ds:yL TD):yO (yL Nat):=
 match ps,es with
 |[],[.gone]=>(ZFn H).map λi=>[i]
 |_,_=>
  let l:=ZJv H es 0 (Sh.idsL ps ds)
  (yp es.length).mapM λj=>l.lookup j
def Zwy{P:yg}(s:Fs P)(H:yL TEnt)(args:yL TD)(ids:yL Nat):yO (Ty.dens s.ins):=
 if once ids then(TD.rns (toIds ids) (args.map (TD.argI (lk H) ids))).bind λa2=>(WM H ids ids).bind λHin=>
  (Sh.mts (lk Hin) s.ps a2).bind λq=>(ESh.mts (lk Hin) s.es Hin).bind λw=>toD s.ins (q.2++w.2)
 else none
theorem ZbL{H Hin:yL TEnt}{ids:yL Nat}(h:WM H ids ids=some Hin):Rc (toIds ids) (lk H) (lk Hin):=by
 intro id j t e;obtain⟨g1,g2⟩:=Zjz h;have hj:=idxOf?_some e;have:=(g2 j id hj).2;unfold Ym lk;grind
theorem ZHL{P:yg}{s:Fs P}{H:yL TEnt}{args:yL TD}{ids:yL Nat}{x:Ty.dens s.ins}(h:Zwy s H args ids=some x):
 once ids=true/\∃Hin a2 a3 H3 R,WM H ids ids=some Hin/\subEnts (erH H) ids ids=some (erH Hin)/\Dv.rns (toIds ids) (TD.ers (lk H) (args.map (TD.argI (lk H) ids)))=some (TD.ers (lk Hin) a2)/\
  Sh.fills s.ps (ofD s.ins x)=some (a3,R)/\ESh.fills s.es R=some (H3,[])/\WkL (TD.ers (lk Hin) a2) (TD.ers (lk H3) a3)/\WkH (erH Hin) (erH H3):=by
 unfold Zwy at h;split at h
 ·rename_i ho;obtain⟨a2,h1,h⟩:=yf.1 h;obtain⟨Hin,h2,h⟩:=yf.1 h;obtain⟨q,h3,h⟩:=yf.1 h;obtain⟨w,h4,h⟩:=yf.1 h;obtain⟨g1,g2⟩:=Zk1 h4;have e:=ZhD _ _ _ h;have hc:∀id t,Ym (lk Hin) id t none=Ym (lk w.1) id t none:=λid t=>by rw[g2]
  refine⟨ho,Hin,a2,q.1,w.1,w.2,h2,W4 (ZbL h2) h2,rns_er (ZbL h2) _ _ h1, ?_, ?_,mts_wk hc _ _ _ h3,Zn9 hc h4⟩
  ·rw[e];exact mts_fills _ _ _ h3 _
  ·have:=Zgt h4 [];grind
 ·cases h
section
variable{P:yg}{o:ym}{ts all:yL TD}{H:yL TEnt}{O:Type}{K:Kn O}{out:O}
def ZHM(all:yL TD)(H:yL TEnt)(K:Kn O)(ids:yL Nat)(r:TD)(Hn:yL TEnt):yO O:=
 if(ids.isEmpty&&Hn.isEmpty)=true then(r.rn λ_=>none).bind λr'=>K all r' H [.call (r.er (lk [])) [] []] 0 else
 (r.rn (fromIds ids H.length)).bind λr'=>(TEnt.rns (fromIds ids H.length) Hn).bind λHb=>
   if(decide (ids.length<=Hn.length)&&TD.unders H.length all&&H.all (TEnt.under H.length))=true then
    K (TD.lays (lk H) ids all) r' (putBack (H.map (TEnt.lay (lk H) ids)) ids Hb) [.call (r.er (lk Hn)) (erH Hn) ids] 2
   else none
def Zsh(s:Fs P)(all:yL TD)(H:yL TEnt)(K:Kn O)(args:yL TD)(ids:yL Nat)(x:Ty.dens s.ins):yO O:=
 (s.M x).bind λy=>xT 1 s.xs y λ_ rs Hn=>match rs with
   |[r]=>ZHM all H K ids r Hn
   |_=>none
def Zyl(g:yw)(all:yL TD)(H:yL TEnt)(K:Kn O)(args:yL TD)(other:yO O):yL (Fs P)->yO O
 |[]=>other
 |s::yJ=>if s.g=g then match (ZKJ H s.ps s.es args).bind λids=>(Zwy s H args ids).map λx=>(ids,x) with
   |some q=>Zsh s all H K args q.1 q.2
   |none=>Zyl g all H K args other yJ
  else Zyl g all H K args other yJ
structure Rs(P:yg)where
 g:yw
 ps:List Sh
 es:List ESh
 ins:List Ty
 r:Sh
 t:List Ty
 M:Ty.dens ins->Option (Ty.dens t)
def Rs.Ok{P:yg}(s:Rs P):Prop:=
 ∀x o,s.M x=some o->∃args R H,Sh.fills s.ps (ofD s.ins x)=some (args,R)/\ESh.fills s.es R=some (H,[])/\
  ∀q,Sh.fill s.r (ofD s.t o)=some q->Con P s.g (TD.ers (lk H) args) (erH H) (q.1.er (lk H)) (erH H)
def AllRo{P:yg}:yL (Rs P)->Prop
 |[]=>True
 |s::r=>s.Ok/\AllRo r
structure Sp(P:yg)where
 l:List (Fs P):=[]
 hd:(O:Type)->yw->List TD->List TEnt->(TD->List TEnt->Option O)->Option O:=λ_ _ _ _ _=>none
 mt:List (yb×String×yw):=[]
 ro:List (Rs P):=[]
def HdOk(P:yg)(hd:(O:Type)->yw->yL TD->yL TEnt->(TD->yL TEnt->yO O)->yO O):Prop:=
 ∀(O:Type)(g:yw)(args:yL TD)(H:yL TEnt)(K:TD->yL TEnt->yO O)(out:O),hd O g args H K=some out->
  ∃r H',K r H'=some out/\Con P g (TD.ers (lk H) args) (erH H) (r.er (lk H')) (erH H')
def MtOk(P:yg):yL (yb×String×yw)->Prop
 |[]=>True
 |q::r=>ZnC P q.1 q.2.1 q.2.2/\MtOk P r
def ZFo:yL (yb×String×yw)->yb->String->yO yw
 |[],_,_=>none
 |q::r,t,n=>if q.1=t then if q.2.1=n then some q.2.2 else ZFo r t n else ZFo r t n
theorem Zwz:∀{l:yL (yb×String×yw)}{t:yb}{n:String}{g:yw},MtOk P l->ZFo l t n=some g->ZnC P t n g
 |[],_,_,_,_,h=>by cases h
 |q::r,t,n,g,hk,h=>by
  unfold ZFo at h;split at h
  ·rename_i e1;split at h
   ·rename_i e2;cases h;rw[<-e1, <-e2];exact hk.1
   ·exact Zwz hk.2 h
  ·exact Zwz hk.2 h
structure SpOk(s:Sp P):Prop where
 l:AllOk s.l
 hd:HdOk P s.hd
 mt:MtOk P s.mt
 ro:AllRo s.ro
theorem ZBN:HdOk P (λ_ _ _ _ _=>none):=λ_ _ _ _ _ _ h=>by cases h
theorem okS{l:yL (Fs P)}(h:AllOk l):SpOk ({ l:=l}:Sp P):=⟨h,ZBN,zY,ytt⟩
theorem okM{l:yL (Fs P)}{mt:yL (yb×String×yw)}(h:AllOk l)(k:MtOk P mt):SpOk ({ l:=l,mt:=mt}:Sp P):=⟨h,ZBN,k,ytt⟩
mutual
def TD.look:TD->yL Nat
 |.ref id _=>[id]
 |.own id _ _ _=>[id]
 |.view id _ _ _ _=>[id]
 |.mp id=>[id]
 |.rv id _ _ _ _=>[id]
 |.rref id _ _=>[id]
 |.rw id=>[id]
 |.rp id _=>[id]
 |.agg xs=>TD.looks xs
 |.arr _ _ xs=>TD.looks xs
 |.fn _ xs=>TD.looks xs
 |.iface _ x=>TD.look x
 |.tup xs=>TD.looks xs
 |_=>[]
def TD.looks:yL TD->yL Nat
 |[]=>[]
 |x::r=>TD.look x++TD.looks r
end
def TEnt.look:TEnt->yL Nat
 |.var d _=>d.look
 |.row _ _ _ _ d=>d.look
 |.rowM _ _ _ _ _ _ d _=>d.look
 |_=>[]
def Zym(h:yL TEnt):Nat->yL Nat->yL Nat->yL Nat
 |0,_,got=>got
 |_+1,[],got=>got
 |k+1,id::r,got=>if got.contains id then Zym h k r got else Zym h k (((h[id]?).map TEnt.look).getD []++r) (id::got)
def inT(sp:Sp P)(g:yw)(all:yL TD)(H:yL TEnt)(K:Kn O)(args:yL TD):yO O:=
 let ids:=Zym H 100000 (TD.looks args) []
 if once ids then(TD.rns (toIds ids) (args.map (TD.argI (lk H) ids))).bind λa2=>(WM H ids ids).bind λHin=>
  sp.hd O g a2 Hin λr Hn=>ZHM all H K ids r Hn
 else none
def ZFp(sp:Sp P)(g:yw)(all:yL TD)(H:yL TEnt)(K:Kn O)(args:yL TD):yO O:=Zyl g all H K args (inT sp g all H K args) sp.l
structure CallOk(P:yg)(g:yw)(all args:List TD)(H:List TEnt)(a':List TD)(d:TD)(H':List TEnt)(hs:List Hint)(cls:Nat):Prop where
 same:TD.ers (lk H') a'=TD.ers (lk H) all
 len:a'.length=all.length
 op:∃(ids:List Nat)(Hin Hn Hb:List Ent)(az:List Dv)(r:Dv),once ids=true/\ids.length<=Hn.length/\subEnts (erH H) ids ids=some Hin/\
  Dv.rns (toIds ids) (TD.ers (lk H) (args.map (TD.argI (lk H) ids)))=some az/\Con P g az Hin r Hn/\r.rn (fromIds ids H.length)=some (d.er (lk H'))/\Ent.rns (fromIds ids H.length) Hn=some Hb/\
  erH H'=putBack (erH H) ids Hb/\hs=[.call r Hn ids]/\(cls=2/\¬(ids=[]/\Hn=[])\/(cls=3/\erH H'=erH H/\¬(ids=[]/\Hn=[]))\/cls=0/\ids=[]/\Hn=[]/\H'=H/\a'=all/\r=d.er (lk H')/\r.rn (λ_=>none)=some r)
theorem ZuO{g:yw}{args:yL TD}{ids:yL Nat}{Hin:yL TEnt}{az:yL Dv}{r4:TD}{Hn:yL TEnt}(honce:once ids=true)(p1:WM H ids ids=some Hin)(p2:subEnts (erH H) ids ids=some (erH Hin))
 (p3:Dv.rns (toIds ids) (TD.ers (lk H) (args.map (TD.argI (lk H) ids)))=some az) (hcon':Con P g az (erH Hin) (r4.er (lk Hn)) (erH Hn)) (h9:ZHM all H K ids r4 Hn=some out):
 ∃a d H' hs c,K a d H' hs c=some out/\CallOk P g all args H a d H' hs c:=by
 unfold ZHM at h9;split at h9
 ·rename_i hem;rw[yi] at hem;have i1:ids=[]:=by simpa using hem.1
  have i2:Hn=[]:=by simpa using hem.2
  subst i1;subst i2;obtain⟨r',hr',h9⟩:=yf.1 h9;have f1:=Zk2 (L:=lk []) (M:=lk H) (λid j t e=>by cases e) _ _ hr';have f2:=Zgj (f:=λ_=>none) _ _ f1;have f3:r4.er (lk [])=r'.er (lk H):=Option.some.inj (f2.symm.trans f1);have hin0:Hin=[]:=by cases p1;rfl
  subst hin0;refine⟨_,_,_,_,_,h9,rfl,rfl,[],[],[],[],az,r4.er (lk []),rfl,yl _,rfl,p3,hcon', ?_,rfl, ?_,rfl,.inr (.inr ⟨rfl,rfl,rfl,rfl,rfl,f3,f2⟩)⟩
  ·rw[<-f3];exact Zgj _ _ f1
  ·rw[ZpV]
 rename_i hne;obtain⟨r',hr',h9⟩:=yf.1 h9;obtain⟨Hb,hHb,h9⟩:=yf.1 h9;obtain⟨hk,h9⟩:=Zc h9;simp only[yi,yP] at hk;obtain⟨⟨k1,k2⟩,k3⟩:=hk;obtain⟨b1,b2⟩:=Zyj hHb;obtain⟨s1,s2⟩:=Zjz p1
 have hlt:∀i,i∈ids->i < H.length:=λi hi=>by
  obtain⟨j,hj⟩:=List.getElem?_of_mem hi;grind
 have hlo:Lo ids H.length (lk H) (lk (putBack (H.map (TEnt.lay (lk H) ids)) ids Hb)):=by
  intro id t hn hl;unfold Ym lk;dsimp only
  rw[Zbb _ _ _ id (by rw[b1];exact k1) (by rw[yaa];exact hl) (λhm=>by
   rw[List.contains_eq_any_beq] at hn;simp at hn;exact hn id hm rfl),yal,ZHK]
 have hrc:Rc (fromIds ids H.length) (lk Hn) (lk (putBack (H.map (TEnt.lay (lk H) ids)) ids Hb)):=by
  intro j i t e
  have key:lk (putBack (H.map (TEnt.lay (lk H) ids)) ids Hb) i=lk Hn j:=by
   show lkE ((putBack (H.map (TEnt.lay (lk H) ids)) ids Hb)[i]?)=lkE (Hn[j]?);rw[<-b2 j];unfold fromIds at e;split at e
   ·rw[Zjn _ _ _ j i honce (by rw[b1];exact k1) (λi hi=>by rw[yaa];exact hlt i hi) e]
   ·rename_i hj;cases e;have:=Zht (H.map (TEnt.lay (lk H) ids)) ids Hb j (by rw[b1];exact k1) (by omega);grind
  unfold Ym;rw[key]
 have e2:(putBack (H.map (TEnt.lay (lk H) ids)) ids Hb).map (TEnt.er (lk (putBack (H.map (TEnt.lay (lk H) ids)) ids Hb)))=putBack (erH H) ids (Hb.map (TEnt.er (lk (putBack (H.map (TEnt.lay (lk H) ids)) ids Hb)))):=by
  rw[Zp4,ybe];congr 1;refine ycs λe he=> ?_;exact ZHJ hlo (ybs.1 k3 e he)
 have f1:=Zk2 hrc _ _ hr';have f2:=ZBL hrc _ _ hHb;refine⟨_,_,_,_,_,h9,ers_lay hlo all k2,Zyk all,ids,erH Hin,erH Hn,_,az,r4.er (lk Hn),honce,by rw[Z1];exact k1,p2,p3,hcon',f1,f2,e2,rfl,.inl ⟨rfl,λhh=>hne ?_⟩⟩;have i2:Hn=[]:=by have:=hh.2;unfold erH at this;simpa using this
 rw[i2,hh.1];rfl
theorem ZtN{args:yL TD}{s:Fs P}{ids:yL Nat}{x:Ty.dens s.ins}(ok:s.Ok)(hp:Zwy s H args ids=some x)(h:Zsh s all H K args ids x=some out):
 ∃a d H' hs c,K a d H' hs c=some out/\CallOk P s.g all args H a d H' hs c:=by
 unfold Zsh at h;obtain⟨y,hM,h0⟩:=yf.1 h;obtain⟨e,vs,s',hsel,hfs,h9⟩:=Zq6 h0;clear h0 h;obtain⟨honce,Hin,a2,a3,H3,R,p1,p2,p3,p4,p5,p6,p7⟩:=ZHL hp;obtain⟨args,R1,H4,q1,q2,hcon⟩:=ok x y hM;obtain⟨r4,hr4,hcon⟩:=hcon e vs s' hsel hfs;rw[hr4] at h9;dsimp only at h9;rw[p4] at q1;cases q1;rw[p5] at q2;cases q2;generalize s'.2=Hn at h9 hcon;exact ZuO honce p1 p2 p3 (ZHi hcon p6 p7) h9
theorem Znf{Q:yL TD->TD->yL TEnt->yL Hint->Nat->Prop}{g:yw}{args:yL TD}{other:yO O}(hQ:∀{a d H' hs c},CallOk P g all args H a d H' hs c->Q a d H' hs c)(ho:other=some out->∃a d H' hs c,K a d H' hs c=some out/\Q a d H' hs c):∀{l:yL (Fs P)},AllOk l->Zyl g all H K args other l=some out->
 ∃a d H' hs c,K a d H' hs c=some out/\Q a d H' hs c
 |[],_,h=>ho h
 |s::r,ok,h=>by
  unfold Zyl at h;split at h
  ·rename_i hg;split at h
   ·rename_i q hq;obtain⟨ids,h1,hq⟩:=yf.1 hq;obtain⟨x,h2,rfl⟩:=Zg hq;obtain⟨a,d,H',hs,c,k1,k2⟩:=ZtN ok.1 h2 h;grind
   ·exact Znf hQ ho ok.2 h
  ·exact Znf hQ ho ok.2 h
theorem ZFq{sp:Sp P}{g:yw}{args:yL TD}(ok:SpOk sp)(h:inT sp g all H K args=some out):∃a d H' hs c,K a d H' hs c=some out/\CallOk P g all args H a d H' hs c:=by
 unfold inT at h;dsimp only at h;generalize Zym H 100000 (TD.looks args) []=ids at h;obtain⟨ho,h⟩:=Zc h;obtain⟨a2,h1,h⟩:=yf.1 h;obtain⟨Hin,h2,h⟩:=yf.1 h;obtain⟨r,Hn,h3,h4⟩:=ok.hd _ _ _ _ _ _ h;exact ZuO ho h2 (W4 (ZbL h2) h2) (rns_er (ZbL h2) _ _ h1) h4 h3
theorem Zyn{sp:Sp P}{g:yw}{args:yL TD}(ok:SpOk sp)(h:ZFp sp g all H K args=some out):∃a d H' hs c,K a d H' hs c=some out/\CallOk P g all args H a d H' hs c:=
 Znf (λh=>h) (λh=>ZFq ok h) ok.l h
theorem ZDi{c:Call}{f:yn}{g:yw}{cap az:yL TD}{a:yL TD}{d:TD}{H':yL TEnt}{hs:yL Hint}{cls:Nat}(ho:o.op=.call c)(hc:c.callee=.value f)(hf:arT P ts 0 f=some (.fn g cap))
 (hb:(ZdA P (Zjg g)&&c.args.size==c.argTypes.size)=true) (ha:Zsg P ts c.args.toList c.argTypes.toList=some az) (h:CallOk P (Zjg g) all (if g < big then az++cap else cap++az) H a d H' hs cls):Good P o ts all H a d H' hs cls:=by
 have hfv:=Zv (L:=lk H) hf;obtain⟨ids,Hin,Hn,Hb,az',r,honce,hle,p2,p3,hcon,f1,f2,e2,rfl,hcl⟩:=h.op
 have ea:W7 P ids (TD.ers (lk H) ts) c g (TD.ers (lk H) cap)=TD.ers (lk H) ((if g < big then az++cap else cap++az).map (TD.argI (lk H) ids)):=by
  unfold W7;split
  ·rw[Zoa ids ha,ZBM,yau,ZP,ZP,ZP,yau]
  ·rw[Zoa ids ha,ZBM,yau,ZP,ZP,ZP,yau]
 have ge:¬(ids=[]/\Hn=[])->GoodE P o ts H d H' [.call r Hn ids]:=λhne=>by
  refine⟨λyJ=> ?_,λyJ=> ?_,[Con P (Zjg g) az' Hin r Hn],⟨hcon,ytt⟩,λyJ=> ?_⟩
  ·unfold evN
   all_goals grind
  ·unfold evR;grind
  ·unfold evE;rw[ho];dsimp only;rw[hc];dsimp only;rw[hfv];dsimp only[TD.er];rw[yae,yy];dsimp only;rw[yW (by simp only[yi,yP] at hb ⊢;exact⟨⟨hb,honce⟩,hle⟩)];rw[ea,p3,p2,Z1,f1,f2];grind
 rcases hcl with⟨rfl,hne⟩|⟨rfl,hsm,hne⟩|⟨rfl,rfl,rfl,rfl,rfl,rfl,hrn⟩
 ·exact⟨h.same,h.len,or3 ⟨rfl,ge hne⟩⟩
 ·exact⟨h.same,h.len,.inr (.inr (.inr ⟨rfl,hsm,ge hne⟩))⟩
 ·refine⟨h.same,h.len,.inl ⟨rfl,rfl,[Con P (Zjg g) az' [] (d.er (lk H')) []],⟨?_,ytt⟩,λyJ=> ?_⟩⟩
  ·cases p2;exact hcon
  ·unfold evN;rw[ho];dsimp only;rw[hc];dsimp only;rw[hfv];dsimp only[TD.er];rw[yae,yy];dsimp only;rw[yW hb,ea, <-Zgi,p3,Zgi,hrn]
theorem ZDj{c:Call}{recv:yn}{name:String}{t:yb}{x:TD}{g:yw}{az:yL TD}{a:yL TD}{d:TD}{H':yL TEnt}{hs:yL Hint}{cls:Nat}(ho:o.op=.call c)(hc:c.callee=.invoke recv name)(hf:arT P ts 0 recv=some (.iface t x))
 (hm:ZnC P t name g) (hb:(ZdA P g&&c.args.size==c.argTypes.size)=true) (ha:Zsg P ts c.args.toList c.argTypes.toList=some az) (h:CallOk P g all (x::az) H a d H' hs cls):Good P o ts all H a d H' (.meth g::hs) 2:=by
 have hfv:=Zv (L:=lk H) hf;obtain⟨ids,Hin,Hn,Hb,az',r,honce,hle,p2,p3,hcon,f1,f2,e2,rfl,hcl⟩:=h.op
 have ea:(x.er (lk H)).argI ids::W7 P ids (TD.ers (lk H) ts) c 0 []=TD.ers (lk H) ((x::az).map (TD.argI (lk H) ids)):=by
  unfold W7;rw[yW (by decide),Zoa ids ha,List.map_nil,yas,yah,TD.ers,Zwx]
 refine⟨h.same,h.len,or3 (⟨rfl,λyJ=> ?_,λyJ=> ?_,[ZnC P t name g,Con P g az' Hin r Hn],⟨hm,hcon,ytt⟩,λyJ=> ?_⟩)⟩
 ·unfold evN;grind
 ·unfold evR;grind
 ·unfold evE;rw[ho];dsimp only;rw[hc];dsimp only;rw[hfv];dsimp only[TD.er];rw[yae,yae,yy];dsimp only;rw[yW (by simp only[yi,yP] at hb ⊢;exact⟨⟨hb,honce⟩,hle⟩)];rw[ea,p3,p2,Z1,f1,f2];grind
end
end Go.Ev
end
section
namespace Go.Ev
section
variable{P:yg}{o:ym}{ts all:yL TD}{H:yL TEnt}{O:Type}{K:Kn O}{out:O}
def TD.isView:TD->Bool
 |.view _ _ _ _ _=>true
 |_=>false
def TD.isNilSl:TD->Bool
 |.p (.sl (some false) _ [])=>true
 |_=>false
def TD.isRef:TD->Bool
 |.ref _ _=>true
 |_=>false
def TD.isRref:TD->Bool
 |.rref _ _ _=>true
 |_=>false
def TD.isRv:TD->Bool
 |.rv _ _ _ _ _=>true
 |_=>false
def ZHN(a:TD)(lo hi:yO Int):Bool:=
 match a with
 |.rv _ _ _ _ n=> !VZ n lo hi
 |_=>false
def TD.isOwn:TD->Bool
 |.own _ _ _ _=>true
 |_=>false
def TD.isMp:TD->Bool
 |.mp _=>true
 |_=>false
def Zpi(l:yL Tmp):yO Tmp->Bool
 |some t=>l.contains t
 |none=>false
def Zk3(P:yg)(o:ym)(ts all:yL TD)(H:yL TEnt)(K:Kn O):yO O:=opN (lk H) P o ts λd hs=>K all d H hs 0
theorem VV(h:Zk3 P o ts all H K=some out):∃a d H' hs c,K a d H' hs c=some out/\Good P o ts all H a d H' hs c:=by
 obtain⟨d,hs,h1,h2⟩:=ZE2 h;exact⟨_,_,_,_,_,h1,rfl,rfl,.inl ⟨rfl,rfl,h2⟩⟩
def ZBO(P:yg)(hi:HI)(o:ym)(x:yn)(asg:Bool)(ts all:yL TD)(H:yL TEnt)(K:Kn O):yO O:=
 match o.dst,arT P ts o.type x with
 |some t,some d=>if hi.still.contains t&&(d.isView || d.isRv) then Zwi t all H K d else if hi.still.contains t&&d.isRw then Zwn t all H K d else if asg&&(hi.rowt.contains t&&d.isNilSl) then Zwp P o.type t all H K d else if asg&&(hi.own.contains t&&d.isNilSl) then ZAa P o.type t all H K d else Zk3 P o ts all H K
 |_,_=>Zk3 P o ts all H K
def TD.numI(d:TD):yO Num:=
 match d.num with
 |some a=>if a.k=.i64 then some a else none
 |none=>none
def opT(P:yg)(hi:HI)(specs:Sp P)(o:ym)(ts all:yL TD)(H:yL TEnt)(K:Kn O):yO O:=
 if rnT P hi o ts H=true then ZJp P hi o ts all H K else
 match o.op with
 |.move x=>ZBO P hi o x false ts all H K
 |.assign x=>ZBO P hi o x true ts all H K
 |.slice t x lo h none=>if Zpi hi.frz o.dst then(arT P ts t x).bind λa=>(Zg8 P ts lo).bind λl=>(Zg8 P ts h).bind λr=>ZJn P t l r all H K a
  else(arT P ts t x).bind λa=>(Zg8 P ts lo).bind λl=>(Zg8 P ts h).bind λr=>if(Zpi hi.rowt o.dst&&a.isRw)=true then Zsd P t l r all H K a else if ZHN a l r=true then Zz8 P t l r all H K a else Zk3 P o ts all H K
 |.load t x=>(arT P ts 0 x).bind λd=>if d.isRef || d.isRref then ZE6 P t all H K d else if d.isRp then ZAi P t all H K d else Zk3 P o ts all H K
 |.lookup t x ix ok=>(arT P ts t x).bind λd=>Zv6 P t all H ok K (λkt=>arT P ts kt ix) d
 |.makeMap t none=>Zr9 P t all H K
 |.makeSlice t l c=>((arT P ts 0 l).bind TD.numI).bind λn=>((arT P ts 0 c).bind TD.numI).bind λn'=>if Zpi hi.rowt o.dst then ZAl P t n.n n'.n all H K else Znc P t (Zpi hi.own o.dst) (Zpi hi.row o.dst) n.n n'.n all H K
 |.mapUpdate t x k v=>(arT P ts t x).bind λd=>Zwa P t all H K (λkt=>arT P ts kt k) (λet=>arT P ts et v) d
 |.alloc t=>ZAb P hi o.dst t all H K
 |.box t x=>(arT P ts t x).bind (ZJm hi o.dst all H K)
 |.store t x y=>(arT P ts 0 x).bind λa=>(arT P ts t y).bind λv=>if a.isRp then Zwl P t all H K v a else ZAc P (ZKG hi x) t all H K v a
 |.buildSlice t len parts=>if Zpi hi.rowt o.dst then(match (o.dst.bind λd=>hi.rew.lookup d).bind λs=>all[s]? with
  |some (.rw id)=>ZAk P ts t len parts.toList id all H K
  |_=>ZFd P ts t len parts.toList all H K) else if Zpi hi.own o.dst then Zwe P ts t len parts.toList all H K else Zk3 P o ts all H K
 |.indexAddr t x ix=>(arT P ts t x).bind λa=>if a.isRw then(arT P ts 0 ix).bind λb=>b.inner.bind λip=>(ZrZ ip).bind λq=>Zwj P t q.2 all H K a else Zk3 P o ts all H K
 |.call c=>match c.callee with
  |.builtin .len=>match c.args.toList,c.argTypes.toList with
   |[x],[t]=>(arT P ts t x).bind λd=>if d.isMp then Zv8 P t all H K d else if d.isRw then ZFc P t all H K d else Zk3 P o ts all H K
   |_,_=>none
  |.builtin .append=>match c.args.toList,c.argTypes.toList with
   |[x,y],[t,u]=>(arT P ts t x).bind λa=>(arT P ts u y).bind λb=>if a.isRw || (a.isNilSl&&Zpi hi.rowt o.dst) then Zsc P true t u all H K b a else if a.isOwn || a.isRv || (a.isNilSl&&(Zpi hi.own o.dst || Zpi hi.row o.dst)) then Zwg P (Zpi hi.own o.dst) (Zpi hi.row o.dst) t u all H K b (if hi.eqs=true then ZAe H a else a) else Zk3 P o ts all H K
   |_,_=>none
  |.builtin .copy=>match c.args.toList,c.argTypes.toList with
   |[x,y],[t,u]=>(arT P ts t x).bind λa=>(arT P ts u y).bind λb=>ZFb P t u all H K b a
   |_,_=>none
  |.value f=>match arT P ts 0 f with
   |some (.fn g cap)=>if(ZdA P (Zjg g)&&c.args.size==c.argTypes.size)=true then(Zsg P ts c.args.toList c.argTypes.toList).bind λaz=>ZFp specs (Zjg g) all H K (if g < big then az++cap else cap++az) else Zk3 P o ts all H K
   |_=>none
  |.invoke recv name=>match arT P ts 0 recv with
   |some (.iface t x)=>(ZFo specs.mt t name).bind λg=>if(ZdA P g&&c.args.size==c.argTypes.size)=true then(Zsg P ts c.args.toList c.argTypes.toList).bind λaz=>ZFp specs g all H (λa d H' hs _=>K a d H' (.meth g::hs) 2) (x::az) else none
   |_=>none
  |_=>none
 |_=>Zk3 P o ts all H K
theorem ZbM{d:TD}{n:Num}(h:d.numI=some n):d.num=some n/\n.k=.i64:=by
 unfold TD.numI at h
 all_goals grind
theorem Zsi{hi:HI}{x:yn}{asg:Bool}(ho:if asg=true then o.op=.assign x else o.op=.move x)(h:ZBO P hi o x asg ts all H K=some out):∃a d H' hs c,K a d H' hs c=some out/\Good P o ts all H a d H' hs c:=by
 unfold ZBO at h;split at h
 ·rename_i t d hd hx;split at h
  ·refine Zya (x:=x) ?_ hd hx h
   all_goals grind
  split at h
  ·refine Zwo (x:=x) ?_ hd hx h
   all_goals grind
  split at h
  ·rename_i ha;rw[yi] at ha;rw[yW ha.1] at ho;exact Zwq ho hd hx h
  ·split at h
   ·rename_i ha;rw[yi] at ha;rw[yW ha.1] at ho;exact Zx4 ho hd hx h
   ·exact VV h
 ·exact VV h
theorem Zsj{hi:HI}{specs:Sp P}(ok:SpOk specs)(h:opT P hi specs o ts all H K=some out):∃a d H' hs c,K a d H' hs c=some out/\Good P o ts all H a d H' hs c:=by
 unfold opT at h;split at h
 ·exact ZDh h
 split at h
 ·rename_i x ho;exact Zsi (asg:=false) ho h
 ·rename_i x ho;exact Zsi (asg:=true) ho h
 ·rename_i t x lo hi' ho;split at h
  ·obtain⟨a,h1,h⟩:=yf.1 h;obtain⟨l,h2,h⟩:=yf.1 h;obtain⟨r,h3,h⟩:=yf.1 h;exact ZDf ho h1 h2 h3 h
  ·obtain⟨a,h1,h⟩:=yf.1 h;obtain⟨l,h2,h⟩:=yf.1 h;obtain⟨r,h3,h⟩:=yf.1 h;split at h
   ·exact ZtL ho h1 h2 h3 h
   split at h
   ·exact Zx1 ho h1 h2 h3 h
   ·exact VV h
 ·rename_i t x ho;obtain⟨d,h1,h⟩:=yf.1 h;split at h
  ·exact Zz7 ho h1 h
  split at h
  ·exact Zyb ho h1 h
  ·exact VV h
 ·rename_i t x ix okk ho;obtain⟨d,h1,h⟩:=yf.1 h;exact Zv7 ho h1 h
 ·rename_i t ho;exact ZtJ ho h
 ·rename_i t l c ho;obtain⟨n,h1,h⟩:=yf.1 h;obtain⟨n',h2,h⟩:=yf.1 h;obtain⟨d1,g1,g2⟩:=yf.1 h1;obtain⟨d2,g3,g4⟩:=yf.1 h2;split at h
  ·exact Zyd ho (by rw[g1];exact(ZbM g2).1) (by rw[g3];exact(ZbM g4).1) (ZbM g2).2 (ZbM g4).2 h
  exact ZqJ ho (by rw[g1];exact(ZbM g2).1) (by rw[g3];exact(ZbM g4).1) (ZbM g2).2 (ZbM g4).2 h
 ·rename_i t x k v ho;obtain⟨d,h1,h⟩:=yf.1 h;exact Zwb ho h1 h
 ·rename_i t ho;exact Zx6 ho h
 ·rename_i t x ho;obtain⟨d,h1,h⟩:=yf.1 h;exact ZDd ho h1 h
 ·rename_i t x y ho;obtain⟨a,h1,h⟩:=yf.1 h;obtain⟨v,h2,h⟩:=yf.1 h;split at h
  ·exact Zwm ho h1 h2 h
  ·exact Zx7 ho h1 h2 h
 ·rename_i t len parts ho;split at h
  ·split at h
   ·exact Zyc ho h
   ·exact ZAj ho h
  split at h
  ·exact Zwf ho h
  ·exact VV h
 ·rename_i t x ix ho;obtain⟨a,h1,h⟩:=yf.1 h;split at h
  ·obtain⟨b,h2,h⟩:=yf.1 h;obtain⟨ip,h3,h⟩:=yf.1 h;obtain⟨q,h4,h⟩:=yf.1 h;rw[XV h3] at h2;exact Zwk ho h1 h2 h4 h
  ·exact VV h
 ·rename_i c ho;split at h
  ·rename_i hc;split at h
   ·rename_i x t ha ht;obtain⟨d,h1,h⟩:=yf.1 h;split at h
    ·exact Zv9 ho hc ha ht h1 h
    split at h
    ·exact ZAh ho hc ha ht h1 h
    ·exact VV h
   ·cases h
  ·rename_i hc;split at h
   ·rename_i x y t u ha ht;obtain⟨a,h1,h⟩:=yf.1 h;obtain⟨b,h2,h⟩:=yf.1 h;split at h
    ·exact ZtK ho hc ha ht (Zv h1) h2 h
    split at h
    ·refine Zwh ho hc ha ht ?_ h2 h;split
     ·rw[ZDe];exact Zv h1
     ·exact Zv h1
    ·exact VV h
   ·cases h
  ·rename_i hc;split at h
   ·rename_i x y t u ha ht;obtain⟨a,h1,h⟩:=yf.1 h;obtain⟨b,h2,h⟩:=yf.1 h;exact ZAf ho hc ha ht h1 h2 h
   ·cases h
  ·rename_i f hc;split at h
   ·rename_i g cap hf;split at h
    ·rename_i hb;obtain⟨az,h1,h⟩:=yf.1 h;obtain⟨a,d,H',hs,cc,k1,k2⟩:=Zyn ok h;exact⟨a,d,H',hs,cc,k1,ZDi ho hc hf hb h1 k2⟩
    ·exact VV h
   ·cases h
  ·rename_i recv name hc;split at h
   ·rename_i t x hf;obtain⟨g,hg,h⟩:=yf.1 h;obtain⟨hb,h⟩:=Zc h;obtain⟨az,h1,h⟩:=yf.1 h;obtain⟨a,d,H',hs,cc,k1,k2⟩:=Zyn ok h;exact⟨a,d,H',_,_,k1,ZDj ho hc hf (Zwz ok.mt hg) hb h1 k2⟩
   ·cases h
  ·cases h
 ·exact VV h
def ZAr(ops:Array ym)(j:Nat):yO Tmp:=(ops[j]?).bind (·.dst)
def ZtO(b:Bool):TD:=.p (.v .bool b)
def ZFr:TD->Bool
 |.tup []=>true
 |_=>false
def gT(P:yg)(hi:HI)(specs:Sp P)(ops:Array ym)(o:ym)(ts all:yL TD)(H:yL TEnt)(K:Kn O):yO O:=
 match o.guard with
 |none=>opT P hi specs o ts all H K
 |some (j,want)=>(ZAr ops j).bind λt=>match (ts.getD t .junk).boolT with
  |some b=>
   if b=true then
    if true=want then opT P hi specs o (ts.set t (ZtO true)) (all.set t (ZtO true)) H λa d H' hs c=>K a d H' (.b true::hs) c
    else K (all.set t (ZtO true)) (.tup []) H [.b true] 0
   else
    if false=want then opT P hi specs o (ts.set t (ZtO false)) (all.set t (ZtO false)) H λa d H' hs c=>K a d H' (.b false::hs) c
    else K (all.set t (ZtO false)) (.tup []) H [.b false] 0
  |none=>if ZFr (ts.getD t .junk) then K all (.tup []) H [.raw] 0 else none
structure GoodG(P:yg)(ops:Array ym)(o:ym)(ts all:List TD)(H:List TEnt)(all':List TD)(d:TD)(H':List TEnt)(hs:List Hint)(cls:Nat):Prop where
 same:TD.ers (lk H') all'=TD.ers (lk H) all
 len:all'.length=all.length
 op:∃C,AllP C/\∀yJ,evG P ops o (TD.ers (lk H) ts) (erH H) (hs++yJ)=some (C,d.er (lk H'),erH H',yJ)
 sam:cls=3->erH H'=erH H
 cls:∀yJ,clsOf P o (TD.ers (lk H) ts) (erH H) (hs++yJ)<=cls
theorem ZwA{d:TD}{a:yL TD}{H':yL TEnt}{hs:yL Hint}{c:Nat}(h:Good P o ts all H a d H' hs c):∃C,AllP C/\(∀yJ,Zga P o (TD.ers (lk H) ts) (erH H) (hs++yJ)=some (C,d.er (lk H'),erH H',yJ))/\
 ∀yJ,(if(evN P o (TD.ers (lk H) ts) (hs++yJ)).isSome then 0 else if(evR P o (TD.ers (lk H) ts) (erH H) (hs++yJ)).isSome then 1 else 2)<=c:=by
 rcases h.op with⟨rfl,rfl,C,h1,h2⟩|⟨rfl,rfl,h0,C,h1,h2⟩|⟨rfl,h0,h00,C,h1,h2⟩|⟨rfl,_,h0,h00,C,h1,h2⟩
 ·exact⟨C,h1,λyJ=>by unfold Zga;rw[h2 yJ],λyJ=>by rw[h2 yJ];simp⟩
 ·exact⟨C,h1,λyJ=>by unfold Zga;rw[h0 yJ];dsimp only;rw[h2 yJ],λyJ=>by rw[h0 yJ,h2 yJ];simp⟩
 ·exact⟨C,h1,λyJ=>by unfold Zga;rw[h0 yJ];dsimp only;rw[h00 yJ];exact h2 yJ,λyJ=>by rw[h0 yJ,h00 yJ];simp⟩
 ·exact⟨C,h1,λyJ=>by unfold Zga;rw[h0 yJ];dsimp only;rw[h00 yJ];exact h2 yJ,λyJ=>by rw[h0 yJ,h00 yJ];simp⟩
theorem Zsk{d:TD}{a:yL TD}{H':yL TEnt}{hs:yL Hint}{c:Nat}(h:Good P o ts all H a d H' hs c)(hc:c=3):erH H'=erH H:=by
 subst hc;rcases h.op with⟨e,_⟩|⟨e,_⟩|⟨e,_⟩|⟨_,e,_⟩
 all_goals grind
theorem Zyo{l:yL TD}{t:Nat}{b:Bool}(h:(l.getD t .junk).boolT=some b):l.getD t .junk=ZtO b:=by
 unfold TD.boolT at h;split at h
 ·rename_i x hx;unfold TP.boolB at h;split at h
  ·cases h;exact hx
  ·cases h
 ·cases h
theorem set_same{l:yL TD}{t:Nat}{d:TD}(h:l.getD t .junk=d):(l.set t d)=l:=by
 apply ybk
 all_goals grind
theorem ZBP{hi:HI}{specs:Sp P}{ops:Array ym}(ok:SpOk specs)(hg:∀j want t,o.guard=some (j,want)->ZAr ops j=some t->ts.getD t .junk=all.getD t .junk)(h:gT P hi specs ops o ts all H K=some out):
 ∃a d H' hs c,K a d H' hs c=some out/\GoodG P ops o ts all H a d H' hs c:=by
 unfold gT at h;split at h
 ·rename_i hgd;obtain⟨a,d,H',hs,c,h1,h2⟩:=Zsj ok h;obtain⟨C,g1,g2,g3⟩:=ZwA h2;refine⟨a,d,H',hs,c,h1,h2.same,h2.len,⟨C++[],Zk.2 ⟨g1,ytt⟩,λyJ=> ?_⟩,Zsk h2,λyJ=> ?_⟩
  ·unfold evG;rw[hgd];dsimp only;rw[g2 yJ];rfl
  ·unfold clsOf;grind
 ·rename_i j want hgd;obtain⟨t,ht,h9⟩:=yf.1 h;clear h;have eall:=hg j want t hgd ht
  have eslot:((ops[j]?).bind (·.dst)).map (λt=>(TD.ers (lk H) ts).getD t .junk)=some ((ts.getD t .junk).er (lk H)):=by
   rw[show(ops[j]?).bind (·.dst)=some t from ht,yaf,ZnW]
  split at h9
  ·rename_i b hb;have e1:=Zyo hb;have e2:all.getD t .junk=ZtO b:=by rw[<-eall];exact e1
   have e3:(ts.getD t .junk).er (lk H)=.p (.bool b):=Zix hb;split at h9
   ·rename_i hbt;subst hbt;rw[set_same e1,set_same e2] at h9;split at h9
    ·rename_i hw;subst hw;obtain⟨a,d,H',hs,c,h1,h2⟩:=Zsj ok h9;obtain⟨C,g1,g2,g3⟩:=ZwA h2;refine⟨a,d,H',_,c,h1,h2.same,h2.len,⟨(true=true)::C++[],Zk.2 ⟨⟨rfl,g1⟩,ytt⟩,λyJ=> ?_⟩,Zsk h2,λyJ=> ?_⟩
     ·unfold evG;rw[hgd];dsimp only;rw[eslot,e3];simp only[yae,if_true,g2 yJ];rfl
     ·unfold clsOf;grind
    ·rename_i hw;refine⟨_,_,_,_,_,h9,rfl,rfl,⟨[true=true],⟨rfl,ytt⟩,λyJ=> ?_⟩,λ_=>rfl,λyJ=> ?_⟩
     ·unfold evG;rw[hgd];dsimp only;rw[eslot,e3];simp only[yae,yy,yX hw];rfl
     ·unfold clsOf;grind
   ·rename_i hbt;have hbt:b=false:=by simpa using hbt
    subst hbt;rw[set_same e1,set_same e2] at h9;split at h9
    ·rename_i hw;subst hw;obtain⟨a,d,H',hs,c,h1,h2⟩:=Zsj ok h9;obtain⟨C,g1,g2,g3⟩:=ZwA h2;refine⟨a,d,H',_,c,h1,h2.same,h2.len,⟨(false=false)::C++[],Zk.2 ⟨⟨rfl,g1⟩,ytt⟩,λyJ=> ?_⟩,Zsk h2,λyJ=> ?_⟩
     ·unfold evG;rw[hgd];dsimp only;rw[eslot,e3];simp only[yae,if_true,g2 yJ];rfl
     ·unfold clsOf;grind
    ·rename_i hw;refine⟨_,_,_,_,_,h9,rfl,rfl,⟨[false=false],⟨rfl,ytt⟩,λyJ=> ?_⟩,λ_=>rfl,λyJ=> ?_⟩
     ·unfold evG;rw[hgd];dsimp only;rw[eslot,e3];simp only[yae,yy,yX hw];rfl
     ·unfold clsOf;grind
  ·obtain⟨h1,h9⟩:=Zc h9
   have e3:(ts.getD t .junk).er (lk H)=.tup []:=by
    unfold ZFr at h1;split at h1
    ·rename_i hx;rw[hx];rfl
    ·cases h1
   refine⟨_,_,_,_,_,h9,rfl,rfl,⟨[],zY,λyJ=> ?_⟩,λ_=>rfl,λyJ=> ?_⟩
   ·unfold evG;rw[hgd];dsimp only;rw[eslot,e3];rfl
   ·unfold clsOf;grind
def ZuP(ts:yL TD)(dst:yO Tmp)(d:TD):yL TD:=
 match dst with
 |some i=>ts.set i d
 |none=>ts
theorem Zyp{L:Lk}(dst:yO Tmp)(d:TD):TD.ers L (ZuP ts dst d)=Zkp (TD.ers L ts) dst (d.er L):=by
 cases dst with
 |none=>rfl
 |some i=>simp only[ZuP,Zkp,ZP,ybm]
theorem ZuQ(dst:yO Tmp)(d:TD):(ZuP ts dst d).length=ts.length:=by
 cases dst <;> simp[ZuP]
def Zyq(P:yg)(hi:HI)(specs:Sp P)(ops:Array ym):yL ym->yL TD->yL TEnt->(yL TD->yL TEnt->yL Hint->yO O)->yO O
 |[],all,H,K=>K all H []
 |o::r,all,H,K=>gT P hi specs ops o all all H λa d H' hs _=>Zyq P hi specs ops r (ZuP a o.dst d) H' λa' h' hs'=>K a' h' (hs++hs')
theorem Zma{hi:HI}{specs:Sp P}{ops:Array ym}(ok:SpOk specs):∀(l:yL ym)(all:yL TD)(H:yL TEnt)(K:yL TD->yL TEnt->yL Hint->yO O),Zyq P hi specs ops l all H K=some out->
 ∃a h hs C,K a h hs=some out/\a.length=all.length/\AllP C/\∀yJ,evOps P ops l (TD.ers (lk H) all) (erH H) (hs++yJ)=some (C,TD.ers (lk h) a,erH h,yJ)
 |[],all,H,K,h=>⟨all,H,[],[],h,rfl,zY,λ_=>rfl⟩
 |o::r,all,H,K,h=>by
  unfold Zyq at h;obtain⟨a,d,H',hs,c,h1,h2⟩:=ZBP ok (λ_ _ _ _ _=>rfl) h;obtain⟨a',h',hs',C',k1,k0,k2,k3⟩:=Zma ok r _ _ _ h1;obtain⟨C,g1,g2⟩:=h2.op;refine⟨a',h',_,C++C',k1,by rw[k0,ZuQ,h2.len],Zk.2 ⟨g1,k2⟩,λyJ=> ?_⟩;unfold evOps;rw[yx,g2 (hs'++yJ)];dsimp only;rw[<-h2.same, <-Zyp,k3 yJ]
end
end Go.Ev
end
section
namespace Go.Ev
section
variable{P:yg}{o:ym}{ts all:yL TD}{H:yL TEnt}{O:Type}{out:O}
def Zci(keep:yL Nat):Nat->yL TD->yL TD
 |_,[]=>[]
 |i,d::r=>(if keep.contains i then d else .junk)::Zci keep (i+1) r
theorem Zgu{L:Lk}(keep:yL Nat):∀(l:yL TD)(k:Nat),TD.ers L (Zci keep k l)=maskFrom keep k (TD.ers L l)
 |[],_=>rfl
 |d::r,k=>by
  rw[Zci,TD.ers,TD.ers,maskFrom,Zgu keep r];split <;> rfl
theorem ZuR(keep:yL Nat):∀(l:yL TD)(k t:Nat),keep.contains (k+t)=true->(Zci keep k l).getD t .junk=l.getD t .junk
 |[],_,_,_=>rfl
 |d::r,k,0,h=>by
  have h':keep.contains k=true:=h
  simp only[Zci,h',if_true,List.getD_cons_zero]
 |d::r,k,t+1,h=>by
  simp only[Zci,List.getD_cons_succ];exact ZuR keep r (k+1) t (by rw[show k+1+t=k+(t+1) by omega];exact h)
mutual
def Pl.sameB:Pl->Pl->Bool
 |.int k n,.int l m=>decide (k=l)&&decide (n=m)
 |.bool a,.bool b=>a==b
 |.str a,.str b=>decide (a=b)
 |.ptr0,.ptr0=>true
 |.fn0,.fn0=>true
 |.if0,.if0=>true
 |.map0,.map0=>true
 |.fnv f,.fnv g=>yar f g
 |.agg xs,.agg ys=>Pl.samesB xs ys
 |.arr n s xs,.arr m u ys=>yar n m&&yar s u&&Pl.samesB xs ys
 |.sl a s xs,.sl b u ys=>a==b&&yar s u&&Pl.samesB xs ys
 |.iface t x,.iface u y=>yar t u&&Pl.sameB x y
 |_,_=>false
def Pl.samesB:yL Pl->yL Pl->Bool
 |[],[]=>true
 |x::r,y::q=>Pl.sameB x y&&Pl.samesB r q
 |_,_=>false
end
mutual
theorem Pl.sameB_eq:∀(a b:Pl),Pl.sameB a b=true->a=b
 |.int k n,b,h=>by cases b <;> simp_all[Pl.sameB]
 |.bool k,b,h=>by cases b <;> simp_all[Pl.sameB]
 |.str k,b,h=>by cases b <;> simp_all[Pl.sameB]
 |.ptr0,b,h=>by cases b <;> simp_all[Pl.sameB]
 |.fn0,b,h=>by cases b <;> simp_all[Pl.sameB]
 |.if0,b,h=>by cases b <;> simp_all[Pl.sameB]
 |.map0,b,h=>by cases b <;> simp_all[Pl.sameB]
 |.fnv f,b,h=>by cases b <;> simp_all[Pl.sameB]
 |.agg xs,b,h=>by cases b <;> simp_all[Pl.sameB];exact Pl.samesB_eq _ _ h
 |.arr n s xs,b,h=>by cases b <;> simp_all[Pl.sameB];exact Pl.samesB_eq _ _ h.2
 |.sl n s xs,b,h=>by cases b <;> simp_all[Pl.sameB];exact Pl.samesB_eq _ _ h.2
 |.iface t x,b,h=>by cases b <;> simp_all[Pl.sameB];exact Pl.sameB_eq _ _ h.2
theorem Pl.samesB_eq:∀(a b:yL Pl),Pl.samesB a b=true->a=b
 |[],[],_=>rfl
 |[],_::_,h=>by cases h
 |_::_,[],h=>by cases h
 |x::r,y::q,h=>by
  simp only[Pl.samesB,yi] at h;rw[Pl.sameB_eq x y h.1,Pl.samesB_eq r q h.2]
end
def ZuS:yL Nat->yL Nat->Bool
 |[],[]=>true
 |x::r,y::q=>yar x y&&ZuS r q
 |_,_=>false
theorem Zob:∀(a b:yL Nat),ZuS a b=true->a=b
 |[],[],_=>rfl
 |[],_::_,h=>by cases h
 |_::_,[],h=>by cases h
 |x::r,y::q,h=>by
  simp only[ZuS,yi] at h;rw[Nat.eq_of_beq_eq_true h.1,Zob r q h.2]
mutual
def Dv.sameB:Dv->Dv->Bool
 |.p x,.p y=>Pl.sameB x y
 |.elem x,.elem y=>Pl.sameB x y
 |.ref i o l,.ref j q m=>yar i j&&yar o q&&ZuS l m
 |.own i a s xs,.own j b u ys=>yar i j&&a==b&&yar s u&&Pl.samesB xs ys
 |.view i o l a b c,.view i' o' l' a' b' c'=>yar i i'&&yar o o'&&ZuS l l'&&yar a a'&&yar b b'&&yar c c'
 |.agg xs,.agg ys=>Dv.samesB xs ys
 |.arr n s xs,.arr m u ys=>yar n m&&yar s u&&Dv.samesB xs ys
 |.fn f xs,.fn g ys=>yar f g&&Dv.samesB xs ys
 |.iface t x,.iface u y=>yar t u&&Dv.sameB x y
 |.tup xs,.tup ys=>Dv.samesB xs ys
 |.mp i,.mp j=>yar i j
 |.rv a b c d e,.rv a' b' c' d' e'=>yar a a'&&yar b b'&&yar c c'&&yar d d'&&yar e e'
 |.rref a b c l,.rref a' b' c' l'=>yar a a'&&yar b b'&&yar c c'&&ZuS l l'
 |.junk,.junk=>true
 |_,_=>false
def Dv.samesB:yL Dv->yL Dv->Bool
 |[],[]=>true
 |x::r,y::q=>Dv.sameB x y&&Dv.samesB r q
 |_,_=>false
end
theorem Zg9{a b:Nat}(h:yar a b=true):a=b:=Nat.eq_of_beq_eq_true h
mutual
theorem Dv.sameB_eq:∀(a b:Dv),Dv.sameB a b=true->a=b
 |.p x,b,h=>by
  cases b <;> simp only[Dv.sameB,yaw] at h
  rw[Pl.sameB_eq _ _ h]
 |.elem x,b,h=>by
  cases b <;> simp only[Dv.sameB,yaw] at h
  rw[Pl.sameB_eq _ _ h]
 |.ref i o l,b,h=>by
  cases b <;> simp only[Dv.sameB,yaw,yi] at h
  rw[Zg9 h.1.1,Zg9 h.1.2,Zob _ _ h.2]
 |.own i a s xs,b,h=>by
  cases b <;> simp only[Dv.sameB,yaw,yi,yT] at h
  rw[Zg9 h.1.1.1,h.1.1.2,Zg9 h.1.2,Pl.samesB_eq _ _ h.2]
 |.view i o l a k c,b,h=>by
  cases b <;> simp only[Dv.sameB,yaw,yi] at h
  rw[Zg9 h.1.1.1.1.1,Zg9 h.1.1.1.1.2,Zob _ _ h.1.1.1.2,Zg9 h.1.1.2,Zg9 h.1.2,Zg9 h.2]
 |.agg xs,b,h=>by
  cases b <;> simp only[Dv.sameB,yaw] at h
  rw[Dv.samesB_eq _ _ h]
 |.arr n s xs,b,h=>by
  cases b <;> simp only[Dv.sameB,yaw,yi] at h
  rw[Zg9 h.1.1,Zg9 h.1.2,Dv.samesB_eq _ _ h.2]
 |.fn f xs,b,h=>by
  cases b <;> simp only[Dv.sameB,yaw,yi] at h
  rw[Zg9 h.1,Dv.samesB_eq _ _ h.2]
 |.iface t x,b,h=>by
  cases b <;> simp only[Dv.sameB,yaw,yi] at h
  rw[Zg9 h.1,Dv.sameB_eq _ _ h.2]
 |.tup xs,b,h=>by
  cases b <;> simp only[Dv.sameB,yaw] at h
  rw[Dv.samesB_eq _ _ h]
 |.mp i,b,h=>by
  cases b <;> simp only[Dv.sameB,yaw] at h
  rw[Zg9 h]
 |.rv a k c d e,b,h=>by
  cases b <;> simp only[Dv.sameB,yaw,yi] at h
  rw[Zg9 h.1.1.1.1,Zg9 h.1.1.1.2,Zg9 h.1.1.2,Zg9 h.1.2,Zg9 h.2]
 |.rref a k c l,b,h=>by
  cases b <;> simp only[Dv.sameB,yaw,yi] at h
  rw[Zg9 h.1.1.1,Zg9 h.1.1.2,Zg9 h.1.2,Zob _ _ h.2]
 |.junk,b,h=>by
  cases b <;> simp only[Dv.sameB,yaw] at h;rfl
theorem Dv.samesB_eq:∀(a b:yL Dv),Dv.samesB a b=true->a=b
 |[],[],_=>rfl
 |[],_::_,h=>by cases h
 |_::_,[],h=>by cases h
 |x::r,y::q,h=>by
  simp only[Dv.samesB,yi] at h;rw[Dv.sameB_eq x y h.1,Dv.samesB_eq r q h.2]
end
def Ent.sameB:yO Ent->yO Ent->Bool
 |some (.var d _),some (.var e _)=>Dv.sameB d e
 |_,_=>false
theorem Ent.sameB_rd{a b:yO Ent}(h:Ent.sameB a b=true):rdE a=rdE b:=by
 unfold Ent.sameB at h;split at h
 ·rw[Dv.sameB_eq _ _ h];rfl
 ·cases h
structure TR where
 cls:Nat
 rd:Option Nat
 tc:Option (List Nat)
 n:Nat
 push:Bool
 loc:Bool
 m:Nat
 sm:Nat->Bool
 ex:Bool
def ZHO(P:yg)(o:ym)(ts:yL Dv)(hs:yL Hint)(n id:Nat):Bool:=
 match o.guard,hs with
 |some (_,want),.b β::hs'=>if β=want then(match ZdY P o ts hs' with|some l=> !l.contains id&&decide (id < n)|none=>false) else false
 |_,_=>false
def ZBQ(P:yg)(hi:HI)(specs:Sp P)(ops:Array ym):yL ym->yL TD->yL TEnt->(yL TD->yL TEnt->yL TR->yL Hint->yO O)->yO O
 |[],all,H,K=>K all H [] []
 |o::r,all,H,K=>gT P hi specs ops o (Zci (looks ops o) 0 all) all H λa d H' hs c=>ZBQ P hi specs ops r (ZuP a o.dst d) H' λa' h' rs hs'=>
   K a' h' (⟨c,ZEh P o (TD.ers (lk H) (Zci (looks ops o) 0 all)),ZvF P o (TD.ers (lk H) (Zci (looks ops o) 0 all)) hs,H.length,Ze4 o hs H.length,ZnD o hs,H'.length,λid=>(c==3) || ZHO P o (TD.ers (lk H) (Zci (looks ops o) 0 all)) hs H.length id || Ent.sameB ((erH H')[id]?) ((erH H)[id]?),exO o⟩::rs) (hs++hs')
def RecOk(R:Rec)(r:TR):Prop:=R.cls<=r.cls/\(R.rd=r.rd/\R.ex=r.ex)/\(∀l,r.tc=some l->R.tc=some l)/\R.H.length=r.n/\(r.push=true->R.push=true)/\(r.loc=true->R.loc=true)/\R.H'.length=r.m/\∀id,r.sm id=true->rdE (R.H'[id]?)=rdE (R.H[id]?)
inductive RecsOk:List Rec->List TR->Prop where
 |nil:RecsOk [] []
 |cons {R:Rec} {r:TR} {Rs:List Rec} {rs:List TR} (h:RecOk R r) (k:RecsOk Rs rs):RecsOk (R::Rs) (r::rs)
theorem Zsl{ts:yL Dv}{hs yJ:yL Hint}{l:yL Nat}(h:ZdY P o ts hs=some l):ZdY P o ts (hs++yJ)=some l:=by
 unfold ZdY at h ⊢;split at h <;> first|exact h|skip
 ·cases hs with
  |nil=>cases h
  |cons x r=>rw[yae];cases x <;> exact h
 split at h <;> first|exact h|skip
 all_goals
  split at h
  ·exact h
  ·cases h
theorem ZHP{ts:yL Dv}{hs yJ:yL Hint}{l:yL Nat}(h:ZvF P o ts hs=some l):ZvF P o ts (hs++yJ)=some l:=by
 unfold ZvF at h ⊢;split at h
 ·rename_i hg;rw[yW hg];exact Zsl h
 ·cases h
theorem ZFs{hs yJ:yL Hint}(h:ZnD o hs=true):ZnD o (hs++yJ)=true:=by
 unfold ZnD at h ⊢;rw[yi] at h ⊢;refine⟨h.1, ?_⟩;have h:=h.2;split at h
 ·split at h
  ·split at h
   ·exact h
   ·cases h
  ·split at h
   ·exact h
   ·cases h
  ·cases h
 ·cases h
theorem ZDk{hs yJ:yL Hint}{n:Nat}(h:Ze4 o hs n=true):Ze4 o (hs++yJ) n=true:=by
 unfold Ze4 at h ⊢;rw[yi] at h ⊢;refine⟨h.1, ?_⟩;have h:=h.2;split at h
 ·rfl
 ·split at h
  ·split at h
   ·exact h
   ·cases h
  ·cases h
 ·cases h
theorem ZHQ{ops:Array ym}{ts:yL Dv}{H:yL Ent}{hs yJ:yL Hint}{C:yL Prop}{d:Dv}{H':yL Ent}{hs2:yL Hint}{id:Nat}(h:evG P ops o ts H (hs++yJ)=some (C,d,H',hs2))(ht:ZHO P o ts hs H.length id=true):rdE (H'[id]?)=rdE (H[id]?):=by
 unfold ZHO at ht;split at ht
 ·rename_i j want β hs' hg;split at ht
  ·rename_i hb;split at ht
   ·rename_i l hl;rw[yi] at ht;have hi:id < H.length:=by simpa using ht.2
    have hc:l.contains id=false:=by simpa using ht.1
    rw[yae] at h;unfold evG at h;rw[hg] at h;dsimp only at h;split at h
    ·rename_i t' β' hs'' h6 h7;cases h7;rw[yW hb,Option.map_eq_some_iff] at h;obtain⟨⟨C1,d1,H1,hs1⟩,h1,h8⟩:=h;simp only[yab] at h8;obtain⟨_,_,rfl,_⟩:=h8;unfold Zga at h1;split at h1
     ·cases h1;rfl
     ·split at h1
      ·cases h1;rfl
      ·exact Zux h1 (Zsl hl) hi hc
    ·rename_i h7;cases h7
    ·cases h
   ·cases ht
  ·cases ht
 ·cases ht
theorem Zsm{hi:HI}{specs:Sp P}{ops:Array ym}(ok:SpOk specs):∀(l:yL ym)(all:yL TD)(H:yL TEnt)(K:yL TD->yL TEnt->yL TR->yL Hint->yO O),ZBQ P hi specs ops l all H K=some out->
 ∃a h rs hs C,K a h rs hs=some out/\a.length=all.length/\AllP C/\∀yJ,∃RS,evD P ops l (TD.ers (lk H) all) (erH H) (hs++yJ)=some (C,RS,TD.ers (lk h) a,erH h,yJ)/\RecsOk RS rs
 |[],all,H,K,h=>⟨all,H,[],[],[],h,rfl,zY,λ_=>⟨[],rfl,.nil⟩⟩
 |o::r,all,H,K,h=>by
  unfold ZBQ at h
  have hgd:∀j want t,o.guard=some (j,want)->ZAr ops j=some t->(Zci (looks ops o) 0 all).getD t .junk=all.getD t .junk:=by
   intro j want t hg hs;refine ZuR _ _ _ _ ?_;rw[Nat.zero_add];unfold looks;rw[hg];dsimp only;rw[show(ops[j]?).bind (·.dst)=some t from hs]
   simp
  obtain⟨a,d,H',hs,c,h1,h2⟩:=ZBP ok hgd h;obtain⟨a',h',rs,hs',C',k1,k0,k2,k3⟩:=Zsm ok r _ _ _ h1;obtain⟨C,g1,g2⟩:=h2.op;refine⟨a',h',_,_,C++C',k1,by rw[k0,ZuQ,h2.len],Zk.2 ⟨g1,k2⟩,λyJ=> ?_⟩;obtain⟨RS,e1,e2⟩:=k3 yJ;unfold evD;rw[<-Zgu,yx,g2 (hs'++yJ)];dsimp only;rw[<-h2.same, <-Zyp,e1]
  refine⟨_,rfl,.cons ⟨h2.cls _,⟨rfl,rfl⟩,λl hl=> ?_,Z1 _,λhp=>by rw[Z1];exact ZDk hp,λhl=>ZFs hl,Z1 _,λid hs=>by
   have hs:(c==3 || ZHO P o (TD.ers (lk H) (Zci (looks ops o) 0 all)) _ H.length id || Ent.sameB ((erH H')[id]?) ((erH H)[id]?))=true:=hs;rw[Bool.or_eq_true,Bool.or_eq_true] at hs;rcases hs with(h5|h5)|h5
   ·rw[h2.sam (by simpa using h5)]
   ·exact ZHQ (g2 []) (by rw[Z1];exact h5)
   ·exact Ent.sameB_rd h5⟩ e2⟩
  exact ZHP hl
def ZBR(ops:Array ym)(cls:yL Nat)(free comm:Nat->Nat->Bool):Bool:=
 let l:=ops.toList;let A:=ZEi l;let n:=l.length
 (cls.length==n)&&Zis l 0&&
 ((yp n).all λi=>match l[i]? with|some o=>A.getD i 0==Zjh A i o|none=>true)&&
 ((yp n).all λi=>(yp n).all λj=>i==j || Zkb l i==none || !(Zkb l i==Zkb l j))&&
 ((yp n).all λi=>match l[i]? with
   |some o=>let k:=looks ops o
    (yp n).all λj=>match Zkb l j with
      |some t=>i==j || !(k.contains t) || (if j < i then(A.getD i 0).testBit j else(A.getD j 0).testBit i)
      |none=>true
   |none=>true)&&
 ((yp n).all λi=>cls.getD i 0==0 || (yp n).all λj=>i==j || decide (cls.getD j 0 < 2) || (if j < i then(A.getD i 0).testBit j else(A.getD j 0).testBit i) || (decide (cls.getD i 0<=1)&&free i j) || comm i j)
def ZFt(rs:yL TR)(i j:Nat):Bool:=
 match rs[i]?,rs[j]? with
 |some r,some q=>match r.rd with
  |some id=>decide (id < q.n)&&decide (id < r.n)&&(if r.ex=true then q.push else((match q.tc with|some l=> !l.contains id|none=>false) || q.sm id))
  |none=>false
 |_,_=>false
def cT(rs:yL TR)(c:Nat)(r:TR):Bool:=r.loc || (r.push&&r.m==r.n+1&&(rs.take c).all λq=>decide (q.n<=r.n))
def cI(rs:yL TR):Nat:=match rs.findIdx? (λr=>r.loc&&r.cls==2) with
 |some c=>c
 |none=>(rs.findIdx? (λr=>r.push)).getD 0
def ZBS(rs:yL TR)(i j:Nat):Bool:=
 let c:=cI rs
 ((rs[c]?).map (cT rs c)).getD false&&((i==c&&decide (c < j)&&((rs[j]?).map (·.push)).getD false) || (j==c&&decide (c < i)&&((rs[i]?).map (·.push)).getD false))
theorem Zsn{RS:yL Rec}{rs:yL TR}(h:RecsOk RS rs):RS.length=rs.length:=by
 induction h with
 |nil=>rfl
 |cons _ _ ih=>simp[ih]
theorem Zk4{RS:yL Rec}{rs:yL TR}(h:RecsOk RS rs):∀{i:Nat}{r:TR},rs[i]? =some r->∃R,RS[i]? =some R/\RecOk R r:=by
 induction h with
 |nil=>intro i r h;simp at h
 |cons h k ih=>
  intro i r hi
  cases i with
  |zero=>cases hi;exact⟨_,rfl,h⟩
  |succ i=>exact ih hi
theorem ZDl{RS:yL Rec}{rs:yL TR}(h:RecsOk RS rs):∀{i:Nat}{R:Rec},RS[i]? =some R->∃r,rs[i]? =some r/\RecOk R r:=by
 induction h with
 |nil=>intro i r h;simp at h
 |cons h k ih=>
  intro i r hi
  cases i with
  |zero=>cases hi;exact⟨_,rfl,h⟩
  |succ i=>exact ih hi
theorem Zyr{RS:yL Rec}{rs:yL TR}(h:RecsOk RS rs)(i:Nat):(RS.map (·.cls)).getD i 0<=(rs.map (·.cls)).getD i 0:=by
 simp only[List.getD_eq_getElem?_getD,yal]
 cases hi:rs[i]? with
 |none=>
  have:RS[i]? =none:=by rw[List.getElem?_eq_none_iff] at hi ⊢;rw[Zsn h];exact hi
  rw[this]
  exact yl _
 |some r=>
  obtain⟨R,e,k⟩:=Zk4 h hi;rw[e];exact k.1
theorem ZHR{ops:Array ym}{RS:yL Rec}{rs:yL TR}(h:RecsOk RS rs)(k:ZBR ops (rs.map (·.cls)) (ZFt rs) (ZBS rs)=true)(hn:rs.length=ops.size):ZvG ops RS=true:=by
 unfold ZBR at k;unfold ZvG;simp only[yi] at k ⊢;obtain⟨⟨⟨⟨⟨k1,k2⟩,k3⟩,k4⟩,k5⟩,k6⟩:=k;refine⟨⟨⟨⟨⟨?_,k2⟩,k3⟩,k4⟩,k5⟩, ?_⟩
 ·simpa[Zsn h] using k1
 ·have hcm:∃c,c∈yp (ops.toList.length+1)/\∀i j,ZBS rs i j=true->ZhW RS c i j=true:=by
   have hget:∀(k:Nat),((rs[k]?).map (·.push)).getD false=true->((RS[k]?).map (·.push)).getD false=true:=by
    intro k hk
    cases hr:rs[k]? with
    |none=>rw[hr] at hk;cases hk
    |some r=>
     obtain⟨R,e1,e2⟩:=Zk4 h hr;rw[hr] at hk;rw[e1];exact e2.2.2.2.2.1 hk
   refine⟨if cI rs < rs.length then cI rs else 0, ?_,λi j hij=> ?_⟩
   ·rw[List.mem_range];split
    ·rename_i hlt;rw[hn] at hlt;have:ops.toList.length=ops.size:=by simp
     omega
    ·omega
   ·unfold ZBS at hij;dsimp only at hij;generalize cI rs=c at hij ⊢;rw[yi] at hij;obtain⟨h1,h2⟩:=hij
    cases hr:rs[c]? with
    |none=>rw[hr] at h1;cases h1
    |some r=>
     have hlt:=(yo.1 hr).1;rw[yW hlt];obtain⟨R,e1,e2⟩:=Zk4 h hr;rw[hr] at h1;unfold ZhW;rw[yi];refine⟨?_, ?_⟩
     ·rw[e1];show cOk RS c R=true;have h1:cT rs c r=true:=h1;unfold cT at h1;unfold cOk;rw[Bool.or_eq_true] at h1 ⊢;rcases h1 with h1|h1
      ·exact .inl (e2.2.2.2.2.2.1 h1)
      ·simp only[yi,yT,ybs,yP] at h1 ⊢;obtain⟨⟨b1,b2⟩,b3⟩:=h1;refine .inr ⟨⟨e2.2.2.2.2.1 b1,by rw[e2.2.2.2.2.2.2.1,e2.2.2.2.1];exact b2⟩,λq hq=> ?_⟩;obtain⟨k,hk⟩:=List.mem_iff_getElem?.1 hq;rw[ycc] at hk;split at hk
       ·rename_i hkc;obtain⟨q2,f1,f2⟩:=ZDl h hk;rw[f2.2.2.2.1,e2.2.2.2.1];refine b3 q2 (List.mem_iff_getElem?.2 ⟨k, ?_⟩);rw[ycc,yW hkc];exact f1
       ·cases hk
     ·simp only[Bool.or_eq_true,yi] at h2 ⊢;rcases h2 with⟨⟨a1,a2⟩,a3⟩|⟨⟨a1,a2⟩,a3⟩
      ·exact .inl ⟨⟨a1,a2⟩,hget _ a3⟩
      ·exact .inr ⟨⟨a1,a2⟩,hget _ a3⟩
  obtain⟨c,hc1,hc2⟩:=hcm;rw[List.any_eq_true];refine⟨c,hc1, ?_⟩;rw[ybs] at k6 ⊢;intro i hi;have:=k6 i hi;have hc:=Zyr h i;simp only[Bool.or_eq_true] at this ⊢;rcases this with h0|h1
  ·left;have h0:(rs.map (·.cls)).getD i 0=0:=by simpa using h0
   have:(RS.map (·.cls)).getD i 0=0:=by omega
   simpa using this
  ·by_cases hz:(RS.map (·.cls)).getD i 0=0
   ·left;simpa using hz
   ·right;rw[ybs] at h1 ⊢;intro j hj;have h2:=h1 j hj;have hd:=Zyr h j;simp only[Bool.or_eq_true,yi,yP] at h2 ⊢;rcases h2 with(((h2|h2)|h2)|h2)|h2
    ·exact .inl (.inl (.inl (.inl h2)))
    ·refine .inl (.inl (.inl (.inr ?_)));have:(RS.map (·.cls)).getD j 0≠2:=by omega
     simpa using this
    ·exact .inl (.inl (.inr h2))
    ·refine .inl (.inr ⟨?_, ?_⟩)
     ·have:(RS.map (·.cls)).getD i 0=1:=by omega
      simpa using this
     ·have hf:=h2.2;unfold ZFt at hf;unfold ZkM;split at hf
      ·rename_i r q hr hq;obtain⟨R,e1,e2⟩:=Zk4 h hr;obtain⟨Q,e3,e4⟩:=Zk4 h hq;rw[e1,e3];dsimp only;split at hf
       ·rename_i id hrd;rw[e2.2.1.1,hrd];dsimp only;rw[e4.2.2.2.1,e2.2.2.2.1];rw[yi] at hf ⊢;refine⟨hf.1, ?_⟩;have hf2:=hf.2;rw[e2.2.1.2];by_cases hex:r.ex=true
        ·rw[yW hex] at hf2 ⊢;exact e4.2.2.2.2.1 hf2
        rw[yX hex] at hf2 ⊢;rw[Bool.or_eq_true] at hf2 ⊢;rcases hf2 with h5|h5
        ·left;split at h5
         ·rename_i l htc;rw[e4.2.2.1 l htc];exact h5
         ·cases h5
        ·right;exact@decide_eq_true _ (Classical.propDecidable _) (e4.2.2.2.2.2.2.2 id h5)
       ·cases hf
      ·cases hf
    ·exact .inr (hc2 i j h2)
def ZFu:TEnt->TEnt
 |.var d _=>.var d false
 |e=>e
def Zpj(ids:yL Nat)(H:yL TEnt):yL TEnt:=(yp H.length).zipWith (λi e=>if ids.contains i then ZFu e else e) H
theorem ZHS(e:TEnt):lkE (some (ZFu e))=lkE (some e):=by cases e <;> rfl
theorem Zso(ids:yL Nat)(H:yL TEnt)(i:Nat):(Zpj ids H)[i]? =(H[i]?).map λe=>if ids.contains i then ZFu e else e:=by
 unfold Zpj;rw[List.getElem?_zipWith];rcases Nat.lt_or_ge i H.length with h|h
 ·rw[List.getElem?_range h,yad h];rfl
 ·rw[ybi (by simpa using h),ybi h];rfl
theorem ZuT(ids:yL Nat)(H:yL TEnt):lk (Zpj ids H)=lk H:=by
 funext i;unfold lk;rw[Zso]
 cases H[i]? with
 |none=>rfl
 |some e=>
  show lkE (some (if ids.contains i=true then ZFu e else e))=_
  split
  ·exact ZHS e
  ·rfl
theorem ZDm(ids:yL Nat)(H:yL TEnt):WkH (erH H) (erH (Zpj ids H)):=by
 refine ZFk (by rw[Z1,Z1];unfold Zpj;simp) λi a b h1 h2=> ?_;unfold erH at h1 h2;rw[yal] at h1 h2;rw[ZuT,Zso] at h2
 cases he:H[i]? with
 |none=>rw[he] at h1;cases h1
 |some e=>
  rw[he] at h1 h2;cases h1;cases h2;show WkE (e.er (lk H)) (TEnt.er (lk H) (if ids.contains i=true then ZFu e else e))
  split
  ·cases e <;> first|exact .refl _|exact .frz
  ·exact .refl _
theorem ZFv{c:Code}{ts ts1:yL Dv}{H0 H1 H2:yL Ent}{ex:Ex}(h:WkH H0 H1)(r:Wt P c ts H1 ex ts1 H2):Wt P c ts H0 ex ts1 H2:=by
 intro σ a ok hH yK;obtain⟨to,ok2⟩:=ZpP ok (H':=H1) (by rw[hH];exact h);refine wp_mono (r { σ with H:=H1} a ok2 rfl (yK.to to.leaf)) ?_;rintro e a' w' ⟨rfl,σ2,q1,q2,q3,q4,q5⟩;exact⟨rfl,σ2,q1,q2,to.trans q3,q4,q5⟩
def ZFw(ops:yL ym)(all:yL TD):Nat->Tmp->yO Nat
 |0,_=>none
 |n+1,x=>match ops.find? λo=>o.dst==some x with
  |some o=>match o.op with
   |.fieldAddr _ (.tmp y) _=>ZFw ops all n y
   |_=>none
  |none=>match all.getD x .junk with
   |.ref id _=>some id
   |_=>none
def ZKK(hi:HI)(ops:yL ym)(all:yL TD)(o:ym):yO Nat:=
 match o.op with
 |.slice _ (.tmp x) _ _ none=>if Zpi hi.frz o.dst then ZFw ops all 4 x else none
 |_=>none
def Zsp(hi:HI)(ops:Array ym)(all:yL TD)(H:yL TEnt):yL TEnt:=
 match hi.frz with
 |[]=>H
 |_=>match ops.toList.filterMap (ZKK hi ops.toList all) with
  |[]=>H
  |ids=>Zpj ids H
theorem ZDn(hi:HI)(ops:Array ym)(all:yL TD)(H:yL TEnt):WkH (erH H) (erH (Zsp hi ops all H))/\lk (Zsp hi ops all H)=lk H:=by
 unfold Zsp;split
 ·exact⟨WkH.refl _,rfl⟩
 ·split
  ·exact⟨WkH.refl _,rfl⟩
  ·exact⟨ZDm _ _,ZuT _ _⟩
def ZJw(P:yg)(hi:HI)(specs:Sp P)(ops:Array ym)(all:yL TD)(H:yL TEnt)(K:yL TD->yL TEnt->yO O):yO O:=
 if P.follows .mixedOrders then ZBQ P hi specs ops ops.toList all (Zsp hi ops all H) λa h rs _=>if ZBR ops (rs.map (·.cls)) (ZFt rs) (ZBS rs)=true then K a h else none else none
theorem ZDo{hi:HI}{specs:Sp P}{ops:Array ym}{K:yL TD->yL TEnt->yO O}(ok:SpOk specs)(h:ZJw P hi specs ops all H K=some out):∃a h,K a h=some out/\a.length=all.length/\∀id,Wt P (.region id ops true) (TD.ers (lk H) all) (erH H) .normal (TD.ers (lk h) a) (erH h):=by
 unfold ZJw at h;split at h
 ·rename_i hf;obtain⟨w1,w2⟩:=ZDn hi ops all H;generalize Zsp hi ops all H=H0 at h w1 w2;obtain⟨a,h',rs,hs,C,k1,k0,k2,k3⟩:=Zsm ok _ _ _ _ h;obtain⟨k4,k5⟩:=Zc k1;refine⟨a,h',k5,k0,λid=> ?_⟩;obtain⟨RS,e1,e2⟩:=k3 [];rw[<-w2];refine ZFv w1 (ZrT (hs:=hs) (hs':=[]) (C:=C) ?_ k2);simp only[ev,if_true];unfold ZvH;rw[yW hf];rw[yas] at e1;rw[e1];dsimp only;rw[yW (ZHR e2 k4 (by have:=Zsn e2;unfold ZBR at k4;simp only[yi] at k4;simpa using k4.1.1.1.1.1))];rfl
 ·cases h
theorem ZDp{hi:HI}{specs:Sp P}{ops:Array ym}{K:yL TD->yL TEnt->yL Hint->yO O}(ok:SpOk specs)(h:Zyq P hi specs ops ops.toList all H K=some out):∃a h hs,K a h hs=some out/\a.length=all.length/\∀id,Wt P (.region id ops false) (TD.ers (lk H) all) (erH H) .normal (TD.ers (lk h) a) (erH h):=by
 obtain⟨a,h',hs,C,k1,k0,k2,k3⟩:=Zma ok _ _ _ _ h;refine⟨a,h',hs,k1,k0,λid=> ?_⟩;refine ZrT (hs:=hs) (hs':=[]) (C:=C) ?_ k2;have:=k3 [];rw[yas] at this;simp only[ev,yaw,if_false,this];rfl
end
end Go.Ev
end
section
namespace Go.Ev
section
variable{P:yg}{a:Act}{σ:Sg}{ts:yL Dv}
theorem Zsq{ops:Array ym}(Q:Exit->Act->yz->Prop){ts':yL Dv}(more:yL Nat):∀(l:yL ym)(k:Nat)(ts:yL Dv)(σ:Sg)(a:Act)(hs hs':yL Hint)(C:yL Prop)(H':yL Ent),
 (∀(j:Nat)(x:ym),l[j]? =some x->ops[k+j]? =some x)->Ok σ->RepT σ ts a->evOps P ops l ts σ.H hs=some (C,ts',H',hs')->AllP C->
 (∀a' σ',σ'.H=H'->To σ σ'->Ok σ'->RepT σ' ts' a'->wpOps P ops Q more a' σ'.w)->wpOps P ops Q (yby k l.length++more) a σ.w
 |[],k,ts,σ,a,hs,hs',C,H',_,ok,yK,h,hc,hQ=>by
  simp only[evOps,Option.some.injEq,yab] at h;obtain⟨rfl,rfl,rfl,rfl⟩:=h
  exact hQ a σ rfl (To.refl σ) ok yK
 |o::l,k,ts,σ,a,hs,hs',C,H',hl,ok,yK,h,hc,hQ=>by
  simp only[evOps] at h;split at h
  ·rename_i C1 d1 H1 hs1 h1;split at h
   ·rename_i C2 ts2 H2 hs2 h2;simp only[Option.some.injEq,yab] at h;obtain⟨rfl,rfl,rfl,rfl⟩:=h;obtain⟨c1,c2⟩:=Zk.1 hc;have h0:ops[k]? =some o:=by simpa using hl 0 o rfl
    simp only[yao,List.range'_succ,yae,wpOps,h0]
    have key:=Ziv (P:=P) (ops:=ops) ok yK h1 c1 (wpOps P ops Q (yby (k+1) l.length++more)) Q (λv σ1 e1 to1 ok1 hrep1=>by
     subst e1
     exact Zsq Q more l (k+1) _ σ1 _ hs1 _ C2 _ (λj x hx=>by have:=hl (j+1) x (by simpa using hx);simpa[Nat.add_assoc,Nat.add_comm 1 j] using this) ok1 hrep1 h2 c2
      (λa' σ' e2 to2 ok2 hrep2=>hQ a' σ' e2 (to1.trans to2) ok2 hrep2))
    by_cases hw:Region.wanted o (yielded ops a.tmps)=true
    ·rw[yW hw] at key ⊢;exact .inl key
    ·rw[yX hw] at key ⊢;exact key
   ·cases h
  ·cases h
theorem VB{ops:Array ym}{Q:Exit->Act->yz->Prop}{i:Nat}{yJ:yL Nat}{o:ym}{v:Value}{w w':yz}(g:ops[i]? =some o)(n:o.guard=none)(hx:(execOp a.eval o).run P w=.ok (.value v) w')
 (k:wpOps P ops Q yJ (a.put o.dst v) w'):wpOps P ops Q (i::yJ) a w:=by
 have hw:Region.wanted o (yielded ops a.tmps)=true:=by simp[Region.wanted,n]
 simp only[wpOps,g];rw[yW hw];refine .inl ?_;unfold Oper.wp;rw[hx];exact k
theorem Zsr{ops:Array ym}{Q:Exit->Act->yz->Prop}{i:Nat}{yJ:yL Nat}{o:ym}{w w':yz}(g:ops[i]? =some o)(n:o.guard=none)(hx:(execOp a.eval o).run P w=.ok .skip w')
 (k:wpOps P ops Q yJ (a.put o.dst undef) w'):wpOps P ops Q (i::yJ) a w:=by
 have hw:Region.wanted o (yielded ops a.tmps)=true:=by simp[Region.wanted,n]
 simp only[wpOps,g];rw[yW hw];refine .inl ?_;unfold Oper.wp;rw[hx];exact k
theorem Zcj{t:Nat}{v:Value}(h:t < a.tmps.size):(a.put (some t) v).eval (.tmp t)=v:=by
 show(a.tmps.setIfInBounds t v).getD t undef=v;simp[Array.getD_eq_getD_getElem?,Array.getElem?_setIfInBounds,h]
theorem YO{t s:Nat}{v:Value}(h:s≠t):(a.put (some t) v).eval (.tmp s)=a.eval (.tmp s):=by
 show(a.tmps.setIfInBounds t v).getD s undef=a.tmps.getD s undef;simp[Array.getD_eq_getD_getElem?,Array.getElem?_setIfInBounds,h,Ne.symm h]
theorem ZaT{σ':Sg}{t:Nat}{v:Value}(h:RepT σ' ts a):RepT σ' (ts.set t .junk) (a.put (some t) v):=
 Zgn (o:={ (default:ym) with dst:=some t}) h XU
theorem ZHT{ops:Array ym}{Q:Exit->Act->yz->Prop}{p t0 t1 t2 t3:Nat}{o1 o2 o3 o4 o5:ym}(g1:ops[p]? =some o1)(g2:ops[p+1]? =some o2)(g3:ops[p+2]? =some o3)(g4:ops[p+3]? =some o4)(g5:ops[p+4]? =some o5)
 (n1:o1.guard=none) (n2:o2.guard=none) (n3:o3.guard=none) (n4:o4.guard=none) (n5:o5.guard=none) {t tt u t5 kt et e:yb} {m k y m5:yn} {c:Call} {id:Nat}
 (h1:o1.op=.mapEntry t m k) (d1:o1.dst=some t0) (h2:o2.op=.extract (.tmp t0) 0) (d2:o2.dst=some t1) (h3:o3.op=.call c) (hc:c.callee=.builtin .append) (ha:c.args.toList=[.tmp t1,y]) (hty:c.argTypes.toList=[tt,u]) (d3:o3.dst=some t2)
 (h4:o4.op=.extract (.tmp t0) 1) (d4:o4.dst=some t3) (h5:o5.op=.entryStore t5 m5 (.tmp t3) (.tmp t2)) (d5:o5.dst=none) (q01:t0≠t1) (q02:t0≠t2) (q23:t2≠t3) (l0:t0 < ts.length) (l1:t1 < ts.length) (l2:t2 < ts.length) (l3:t3 < ts.length)
 (ok:Ok σ) (yK:RepT σ ts a) {kk:Pl} {tm:yb} {s0:Nat} {i:TypeInfo} {ys:yL Pl} (hu:P.underlying t=some (.map kt et)) (hm:argD P ts t m=.mp id) (hk:argD P ts kt k=.p kk) (hH:σ.H[id]? =some (.map tm [])) (hkt:keyTy P kt=true) (hfit:fitP P 20 kt kk)
 (hzt:hasZero P et=true) (hzd:zeroD P et=.p (.sl (some false) s0 [])) (htt:P.underlying tt=some (.slice e)) (hi:P.info? e=some i) (hz:zOk i=true) (hne:i.size≠0)
 (hsrc:srcOf P (P.cellsOf e) u (argD P ((ts.set t0 .junk).set t1 .junk) u y)=some ys) (hb:ys.length*i.bytes<=bytesBound) (hmx:ys.length<=maxLen) (hm5:argD P ((((ts.set t0 .junk).set t1 .junk).set t2 .junk).set t3 .junk) t5 m5=.mp id)
 (hQ:∀a' σ',σ'.H=σ.H.set id (.map tm [(kk,.sl none (P.cellsOf e) ys)])->To σ σ'->Ok σ'->RepT σ' ((((ts.set t0 .junk).set t1 .junk).set t2 .junk).set t3 .junk) a'->Q .normal a' σ'.w):wpOps P ops Q [p,p+1,p+2,p+3,p+4] a σ.w:=by
 have hmv:=Zq (P:=P) yK t m;rw[hm] at hmv;obtain⟨b,hmb,hmv⟩:=Zo8 hmv;have hkv:=Zq (P:=P) yK kt k;rw[hk] at hkv;obtain⟨b',es,clock,e1,hbk,hkr,hbo⟩:=ok.ent id _ _ hH hmb;cases e1
 have hes:es= #[]:=by
  have:=ZlZ _ _ (Zo7 hkr);have h0:es.toList=[]:=List.eq_nil_of_length_eq_zero this;exact Array.toList_inj.1 h0
 subst hes;obtain⟨F,hF,hrunF⟩:=Zgm (P:=P) hkt hfit hkv;have hchk:=Qn (em:=false) 20 kt kk _ hfit hkv 9980
 have hfind:(Instr.findKey kt (a.eval k) ([]:yL MapEntry)).run P σ.w=.ok none σ.w:=by
  rcases ZrM (v:=kk) hF [] [] 0 [(kk,kk)] (Zo7 hkr) (λq hq=>by cases hq) (by simp[ZcZ]) with⟨j,e',_,f2,_⟩|⟨f1,_⟩
  ·simp at f2
  ·exact hrunF _ _ f1
 obtain⟨zv,hzv,hzr⟩:∃z,(zeroValue et).run P σ.w=.ok z σ.w/\yH σ (zeroD P et) z:=by
  unfold hasZero at hzt;split at hzt
  ·rename_i i hi
   cases hzz:i.zero with
   |none=>simp[hzz] at hzt
   |some z=>
    refine⟨z,by simp[zeroValue,typeInfo,hi,hzz], ?_⟩;unfold zeroD;rw[hi];simp only[hzz];exact Zaa
  ·cases hzt
 rw[hzd] at hzr;have hzn:=ZnI hzr;subst hzn;let en:MapEntry:={ key:=a.eval k,val:=.slice none 0 0,born:=clock};obtain⟨to1,ok1⟩:=Zl0 (es':= #[en]) (clock':=clock+1) ok hH hmb hbk (l:=[(kk,.sl (some false) s0 [])]) (Zus ⟨hkv,hzr,ytt⟩) (Zo9 (es:= #[]) hbo rfl);let σ1:Sg:={ σ with m:=σ.m.set id (some b),H:=σ.H.set id (.map tm [(kk,.sl (some false) s0 [])]),w:={ σ.w with heap:=σ.w.heap.setIfInBounds b (.map #[en] (clock+1))}};have to1:To σ σ1:=to1;have ok1:Ok σ1:=ok1
 have x1:(execOp a.eval o1).run P σ.w=.ok (.value (.tuple #[.slice none 0 0,goInt clock])) σ1.w:=by
  have:(Instr.mapEntry t (a.eval m) (a.eval k)).run P σ.w=.ok (.tuple #[.slice none 0 0,goInt clock]) σ1.w:=by
   simp only[Instr.mapEntry,Sem.run_bind,run_underlying hu,Result.andThen_ok,hmv,VU hbk,hchk,hfind,hzv,Go.MapKept.run_setObj_map _ hbk,Sem.run_pure];rfl
  simp[execOp,h1,this]
 refine VB g1 n1 x1 ?_;rw[d1];have r1:RepT σ1 (ts.set t0 .junk) (a.put (some t0) (.tuple #[.slice none 0 0,goInt clock])):=ZaT (yK.to to1.leaf);generalize ha1:a.put (some t0) (.tuple #[.slice none 0 0,goInt clock])=a1 at r1 ⊢;have ht0:t0 < a.tmps.size:=by rw[yK.size];exact l0
 have v1:a1.eval (.tmp t0)=.tuple #[.slice none 0 0,goInt clock]:=by rw[<-ha1];exact Zcj ht0
 have x2:(execOp a1.eval o2).run P σ1.w=.ok (.value (.slice none 0 0)) σ1.w:=by
  have:(Instr.extract (a1.eval (.tmp t0)) 0).run P σ1.w=.ok (.slice none 0 0) σ1.w:=by rw[v1];simp[Instr.extract]
  simp[execOp,h2,this]
 refine VB g2 n2 x2 ?_;rw[d2];have r2:RepT σ1 ((ts.set t0 .junk).set t1 .junk) (a1.put (some t1) (.slice none 0 0)):=ZaT r1;have s1:t1 < a1.tmps.size:=by rw[r1.size,yan];exact l1
 generalize ha2:a1.put (some t1) (.slice none 0 0)=a2 at r2 ⊢;have v2:a2.eval (.tmp t1)=.slice none 0 0:=by rw[<-ha2];exact Zcj s1
 have v20:a2.eval (.tmp t0)=.tuple #[.slice none 0 0,goInt clock]:=by rw[<-ha2,YO q01];exact v1
 have hce:P.cellsOf e=i.size:=by simp[Program.cellsOf,hi]
 have key:∃v3 w3,(execOp a2.eval o3).run P σ1.w=.ok (.value v3) w3/\To σ1 { σ1 with w:=w3}/\Ok { σ1 with w:=w3}/\w3.heap[b]? =some (.map #[en] (clock+1))/\yH { σ1 with w:=w3} (.p (.sl none (P.cellsOf e) ys)) v3:=by
  obtain⟨gs1,gs2⟩:=Go.MapKept.heap_set (w:=σ.w) (o':=.map #[en] (clock+1)) hbk;rcases Vy (P:=P) (ty:=o3.type) (u:=u) (y:=y) ok1 r2 htt hi hz hne (Zac (P:=P) r2 hsrc) hb hmx with⟨rfl,zO⟩|⟨zV,yJ,hys,zL,hr,hge,hcm,hcs,zO⟩
  ·exact⟨_,σ1.w,Yl h3 hc ha hty (by rw[v2];exact zO),To.refl σ1,ok1,gs1,YM (λ_ hx=>by cases hx) (yl _) (by simp[maxLen]) (Yp _) (λ_=>rfl) (λh=>absurd rfl h)⟩
  ·have hg:=Y8 σ1.w (.cells (zV.toArray++yJ) e) none;obtain⟨to,ok'⟩:=ZnF ok1 hg;have zB:zV.length=ys.length*i.size:=by rw[repCs_size _ _ hr,sizes_all zL]
   have hlt:b < σ1.w.heap.size:=ok1.lt id b (getElem?_set_eq' hmb);refine⟨_,_,Yl h3 hc ha hty (by rw[v2];exact zO),to,ok',(hg.block b hlt (by simp)).trans gs1, ?_⟩;rw[hce];exact ZrC (Yp _) ok' zL (repCs_mono to.leaf.cells _ _ hr) (b:=σ1.w.heap.size) (cells:=zV) (heap_alloc_new σ1.w.drew _) (ok1.new _ (yl _)) (ZfE ok1) (by simp) hge hcm
 obtain⟨v3,w3,x3,to3,ok3,hb3,hv3⟩:=key;refine VB g3 n3 x3 ?_;rw[d3];let σ3:Sg:={ σ1 with w:=w3};have r3:RepT σ3 (((ts.set t0 .junk).set t1 .junk).set t2 .junk) (a2.put (some t2) v3):=ZaT (r2.to to3.leaf);have s2:t2 < a2.tmps.size:=by rw[r2.size,yan,yan];exact l2
 generalize ha3:a2.put (some t2) v3=a3 at r3 ⊢;have v30:a3.eval (.tmp t0)=.tuple #[.slice none 0 0,goInt clock]:=by rw[<-ha3,YO q02];exact v20
 have v32:a3.eval (.tmp t2)=v3:=by rw[<-ha3];exact Zcj s2
 have x4:(execOp a3.eval o4).run P w3=.ok (.value (goInt clock)) w3:=by
  have:(Instr.extract (a3.eval (.tmp t0)) 1).run P w3=.ok (goInt clock) w3:=by rw[v30];simp[Instr.extract]
  simp[execOp,h4,this]
 refine VB g4 n4 x4 ?_;rw[d4];have r4:RepT σ3 ((((ts.set t0 .junk).set t1 .junk).set t2 .junk).set t3 .junk) (a3.put (some t3) (goInt clock)):=ZaT r3;have s3:t3 < a3.tmps.size:=by rw[r3.size,yan,yan,yan];exact l3
 generalize ha4:a3.put (some t3) (goInt clock)=a4 at r4 ⊢;have v43:a4.eval (.tmp t3)=goInt clock:=by rw[<-ha4];exact Zcj s3
 have v42:a4.eval (.tmp t2)=v3:=by rw[<-ha4,YO q23];exact v32
 have hm5v:=Zq (P:=P) r4 t5 m5;rw[hm5] at hm5v;obtain⟨b5,hmb5,hm5v⟩:=Zo8 hm5v;have hmb1:σ3.m[id]? =some (some b):=getElem?_set_eq' hmb;rw[hmb1] at hmb5;cases hmb5;have hH3:σ3.H[id]? =some (.map tm [(kk,.sl (some false) s0 [])]):=getElem?_set_eq' hH;let en5:MapEntry:={ key:=a.eval k,val:=v3,born:=clock};obtain⟨to5,ok5⟩:=Zl0 (es':= #[en5]) (clock':=clock+1) ok3 hH3 hmb1 hb3 (l:=[(kk,.sl none (P.cellsOf e) ys)]) (Zus ⟨WK to3.leaf (WK to1.leaf hkv),hv3,ytt⟩) (Zo9 (es:= #[]) hbo rfl)
 have x5:(execOp a4.eval o5).run P w3=.ok .skip { w3 with heap:=w3.heap.setIfInBounds b (.map #[en5] (clock+1))}:=by
  have hmod:(#[en].modify 0 λe=>{ e with val:=v3})= #[en5]:=by
   apply Array.ext';simp[en,en5,Array.toList_modify]
  have hfi:(#[en].findIdx? λe=>(e.born:Int)==(clock:Int))=some 0:=by
   simp[Array.findIdx?,Array.findIdx?.loop,en]
  have:(Instr.entryStore t5 (a4.eval m5) (a4.eval (.tmp t3)) (a4.eval (.tmp t2))).run P w3=.ok () { w3 with heap:=w3.heap.setIfInBounds b (.map #[en5] (clock+1))}:=by
   rw[hm5v,v43,v42];simp only[Instr.entryStore,goInt,asInt,asIntOf,Sem.run_bind,VU hb3,Result.andThen_ok,Sem.run_pure,hfi,hmod,Go.MapKept.run_setObj_map _ hb3]
  simp[execOp,h5,this]
 refine Zsr g5 n5 x5 ?_;rw[d5];refine hQ a4 _ ?_ (to1.trans (to3.trans to5)) ok5 (r4.to to5.leaf);show(σ.H.set id (.map tm [(kk,.sl (some false) s0 [])])).set id (.map tm [(kk,.sl none (P.cellsOf e) ys)])=_;rw[List.set_set]
end
end Go.Ev
end
section
namespace Go.Ev
section
variable{P:yg}{all:yL TD}{H:yL TEnt}{O:Type}{out:O}
def ZHU(o:ym):yO (yb×yn×yn×Tmp):=
 match o.op,o.dst,o.guard with
 |.mapEntry t m k,some d,none=>some (t,m,k,d)
 |_,_,_=>none
theorem ZDq{o:ym}{q:yb×yn×yn×Tmp}(h:ZHU o=some q):o.op=.mapEntry q.1 q.2.1 q.2.2.1/\o.dst=some q.2.2.2/\o.guard=none:=by
 unfold ZHU at h;split at h
 ·rename_i h1 h2 h3;cases h;exact⟨h1,h2,h3⟩
 ·cases h
def ZHV(o:ym)(t n:Nat):yO Tmp:=
 match o.op,o.dst,o.guard with
 |.extract (.tmp x) m,some d,none=>if(decide (x=t)&&decide (m=n))=true then some d else none
 |_,_,_=>none
theorem ZuU{o:ym}{t n:Nat}{q:Tmp}(h:ZHV o t n=some q):o.op=.extract (.tmp t) n/\o.dst=some q/\o.guard=none:=by
 unfold ZHV at h;split at h
 ·rename_i h1 h2 h3;obtain⟨h4,h9⟩:=Zc h;clear h;simp only[yi,yP] at h4;obtain⟨rfl,rfl⟩:=h4;cases h9;exact⟨h1,h2,h3⟩
 ·cases h
structure ApO where
 c:Call
 y:yn
 t:yb
 u:yb
 d:Tmp
def ZJx(o:ym)(t:Nat):yO ApO:=
 match o.op,o.dst,o.guard with
 |.call c,some d,none=>match c.callee with
  |.builtin .append=>match c.args.toList,c.argTypes.toList with
   |[.tmp x,y],[tt,u]=>if decide (x=t)=true then some ⟨c,y,tt,u,d⟩ else none
   |_,_=>none
  |_=>none
 |_,_,_=>none
theorem ZDr{o:ym}{t:Nat}{q:ApO}(h:ZJx o t=some q):o.op=.call q.c/\q.c.callee=.builtin .append/\q.c.args.toList=[.tmp t,q.y]/\q.c.argTypes.toList=[q.t,q.u]/\o.dst=some q.d/\o.guard=none:=by
 unfold ZJx at h;split at h
 ·rename_i h1 h2 h3;split at h
  ·rename_i h4;split at h
   ·rename_i h5 h6;obtain⟨h7,h9⟩:=Zc h;clear h;have h7:=yF h7;subst h7;cases h9;exact⟨h1,h4,h5,h6,h2,h3⟩
   ·cases h
  ·cases h
 ·cases h
def ZJy(o:ym)(s v:Nat):yO (yb×yn):=
 match o.op,o.dst,o.guard with
 |.entryStore t m (.tmp x) (.tmp y),none,none=>if(decide (x=s)&&decide (y=v))=true then some (t,m) else none
 |_,_,_=>none
theorem ZDs{o:ym}{s v:Nat}{q:yb×yn}(h:ZJy o s v=some q):o.op=.entryStore q.1 q.2 (.tmp s) (.tmp v)/\o.dst=none/\o.guard=none:=by
 unfold ZJy at h;split at h
 ·rename_i h1 h2 h3;obtain⟨h4,h9⟩:=Zc h;clear h;simp only[yi,yP] at h4;obtain⟨rfl,rfl⟩:=h4;cases h9;exact⟨h1,h2,h3⟩
 ·cases h
def ZKL(P:yg)(t:yb)(m k:yn)(tt u:yb)(y:yn)(t5:yb)(m5:yn)(all all3 all5:yL TD)(H:yL TEnt)(K:yL TEnt->yO O):yO O:=
 match P.underlying t,arT P all t m,arT P all5 t5 m5,P.underlying tt with
 |some (.map kt et),some (.mp id),some (.mp id'),some (.slice e)=>(ZuL H id).bind λme=>(arT P all kt k).bind λkd=>(ZBB kd me.k).bind λkey=>(Zx2 P et).bind λz=>
  match z with
  |.sl (some false) _ []=>(P.info? e).bind λi=>(Zkr P tyD e).bind λT=>(arT P all3 u y).bind λyd=>(ZtI (lk H) P T u yd).bind λys=>(TP.to Zjr (.v (.sl T) ys) me.v).bind λv=>
   if(decide (id=id')&&me.l.isEmpty&&ZmE P kt me.k&&hasZero P et&&zOk i&&decide (i.size≠0)&&decide (P.cellsOf e=T.size)&&lenB ys.length i.bytes)=true then
    K (H.set id (.map me.tid me.k me.v [(key,v)])) else none
  |_=>none
 |_,_,_,_=>none
def ZBT(P:yg)(l:yL ym)(all:yL TD)(H:yL TEnt)(K:yL TD->yL TEnt->yO O):yO O:=
 match l with
 |[o1,o2,o3,o4,o5]=>(ZHU o1).bind λq1=>(ZHV o2 q1.2.2.2 0).bind λt1=>(ZJx o3 t1).bind λq3=>(ZHV o4 q1.2.2.2 1).bind λt3=>(ZJy o5 t3 q3.d).bind λq5=>
  if(decide (q1.2.2.2≠t1)&&decide (q1.2.2.2≠q3.d)&&decide (q3.d≠t3)&&decide (q1.2.2.2 < all.length)&&decide (t1 < all.length)&&decide (q3.d < all.length)&&decide (t3 < all.length))=true then
   ZKL P q1.1 q1.2.1 q1.2.2.1 q3.t q3.u q3.y q5.1 q5.2 all ((all.set q1.2.2.2 .junk).set t1 .junk) ((((all.set q1.2.2.2 .junk).set t1 .junk).set q3.d .junk).set t3 .junk) H
    (K ((((all.set q1.2.2.2 .junk).set t1 .junk).set q3.d .junk).set t3 .junk))
  else none
 |_=>none
theorem Zd1{L:Lk}(l:yL TD)(i:Nat)(d:TD):TD.ers L (l.set i d)=(TD.ers L l).set i (d.er L):=by rw[ZP,ZP,ybm]
theorem ZAs{ops:Array ym}{l:yL ym}{p:Nat}{K:yL TD->yL TEnt->yO O}(hops:∀(j:Nat)(x:ym),l[j]? =some x->ops[p+j]? =some x)(h:ZBT P l all H K=some out):
 ∃a H',K a H'=some out/\a.length=all.length/\l.length=5/\∀(Q:Exit->Act->yz->Prop)(act:Act)(σ:Sg),Ok σ->σ.H=erH H->RepT σ (TD.ers (lk H) all) act->
  (∀a' σ',σ'.H=erH H'->To σ σ'->Ok σ'->RepT σ' (TD.ers (lk H') a) a'->Q .normal a' σ'.w)->wpOps P ops Q (yby p 5) act σ.w:=by
 unfold ZBT at h;split at h
 ·rename_i o1 o2 o3 o4 o5;obtain⟨⟨t,m,k,t0⟩,h1,h⟩:=yf.1 h;obtain⟨t1,h2,h⟩:=yf.1 h;obtain⟨⟨c,y,tt,u,t2⟩,h3,h⟩:=yf.1 h;obtain⟨t3,h4,h⟩:=yf.1 h;obtain⟨⟨t5,m5⟩,h5,h⟩:=yf.1 h;obtain⟨hq,h⟩:=Zc h;obtain⟨a1,a2,a3⟩:=ZDq h1;obtain⟨b1,b2,b3⟩:=ZuU h2;obtain⟨c1,c2,c3,c4,c5,c6⟩:=ZDr h3;obtain⟨d1,d2,d3⟩:=ZuU h4;obtain⟨e1,e2,e3⟩:=ZDs h5;simp only[yi,yP] at hq;obtain⟨⟨⟨⟨⟨⟨q1,q2⟩,q3⟩,q4⟩,q5⟩,q6⟩,q7⟩:=hq;dsimp only at h a1 a2 b1 c1 c2 c3 c4 c5 d1 e1 q1 q2 q3 q4 q5 q6 q7;unfold ZKL at h;split at h
  ·rename_i kt et id id' e hu hm hm5 htt;obtain⟨me,f1,h⟩:=yf.1 h;obtain⟨kd,f2,h⟩:=yf.1 h;obtain⟨key,f3,h⟩:=yf.1 h;obtain⟨z,f4,h⟩:=yf.1 h;split at h
   ·rename_i zt;obtain⟨i,f5,h⟩:=yf.1 h;obtain⟨T,f6,h⟩:=yf.1 h;obtain⟨yd,f7,h⟩:=yf.1 h;obtain⟨ys,f8,h⟩:=yf.1 h;obtain⟨v,f9,h⟩:=yf.1 h;obtain⟨f10,h99⟩:=Zc h;clear h;simp only[yi,yP] at f10;obtain⟨⟨⟨⟨⟨⟨⟨r1,r2⟩,r3⟩,r4⟩,r5⟩,r6⟩,r7⟩,r8⟩:=f10;subst r1;obtain⟨g1,g2⟩:=Zjw f1;have hle:=List.isEmpty_iff.1 r2;have hlk:lk (H.set id (.map me.tid me.k me.v [(key,v)]))=lk H:=Zah g1 rfl rfl;have hv:Pl.sl none T.size (ys.map T.enc)=me.v.enc v:=ZnU _ _ _ f9;refine⟨_,_,h99,by simp,rfl,λQ act σ ok hH yK hQ=> ?_⟩;have hk:=Zv (L:=lk H) f2;rw[Zr6 f3] at hk;have hmm:=Zv (L:=lk H) hm;rw[TD.er] at hmm;have hm5':=Zv (L:=lk H) hm5;rw[TD.er] at hm5';have hy:=Zv (L:=lk H) f7;rw[hle] at g2;obtain⟨s1,s2⟩:=Zbc r8
    refine ZHT (P:=P) (σ:=σ) (ts:=TD.ers (lk H) all) (a:=act) (Q:=Q) (p:=p) (o1:=o1) (o2:=o2) (o3:=o3) (o4:=o4) (o5:=o5) (by simpa using hops 0 o1 rfl) (hops 1 o2 rfl) (hops 2 o3 rfl) (hops 3 o4 rfl) (hops 4 o5 rfl)
     a3 b3 c6 d3 e3 a1 a2 b1 b2 c1 c2 c3 c4 c5 d1 d2 e1 e2 q1 q2 q3 (by rw[Zce];exact q4) (by rw[Zce];exact q5) (by rw[Zce];exact q6) (by rw[Zce];exact q7)
     ok yK (kk:=me.k.enc key) (tm:=me.tid) (s0:=zt.size) (ys:=ys.map T.enc) (i:=i) hu hmm hk (by rw[hH];exact g2) (Zr7 r3) (ZhB r3 key) r4 (Zr8 f4) htt f5 r5 r6 ?_ (by rw[yaa];exact s1) (by rw[yaa];exact s2) ?_ ?_
    ·rw[Zd1,Zd1] at hy;rw[r7];rw[show(Dv.junk)=TD.er (lk H) .junk from rfl,hy]
     exact ZhA f8
    ·rw[Zd1,Zd1,Zd1,Zd1] at hm5';exact hm5'
    ·intro a' σ' w1 w2 w3 w4;refine hQ a' σ' ?_ w2 w3 ?_
     ·rw[WV hlk,w1,hH,r7,hv];rfl
     ·rw[hlk,Zd1,Zd1,Zd1,Zd1];exact w4
   ·cases h
  ·cases h
 ·cases h
def ZJz(ops:Array ym):Bool:=
 match ops.toList.drop (ops.size - 5) with
 |[o1,_,_,_,_]=>(ZHU o1).isSome
 |_=>false
theorem ZDt{hi:HI}{specs:Sp P}{ops:Array ym}{K:yL TD->yL TEnt->yO O}(ok:SpOk specs)
 (h:Zyq P hi specs ops (ops.toList.take (ops.size - 5)) all H (λa h _=>ZBT P (ops.toList.drop (ops.size - 5)) a h K)=some out):
 ∃a h,K a h=some out/\a.length=all.length/\∀id,Wt P (.region id ops false) (TD.ers (lk H) all) (erH H) .normal (TD.ers (lk h) a) (erH h):=by
 obtain⟨a,h',hs,C,k1,k0,k2,k3⟩:=Zma ok _ _ _ _ h
 have hops:∀(j:Nat)(x:ym),(ops.toList.drop (ops.size - 5))[j]? =some x->ops[(ops.size - 5)+j]? =some x:=λj x hj=>by
  rw[List.getElem?_drop] at hj;simpa using hj
 obtain⟨a2,h2,j1,j2,j3,j4⟩:=ZAs hops k1;refine⟨a2,h2,j1,by rw[j2,k0],λid=> ?_⟩;intro σ act okσ hH yK;refine wp_region ?_;have e0:=k3 [];rw[yas] at e0
 have hl:ops.size=(ops.size - 5)+5:=by
  rw[List.length_drop,Array.length_toList] at j3;omega
 have hr:yp ops.size=yby 0 (ops.toList.take (ops.size - 5)).length++yby (ops.size - 5) 5:=by
  rw[List.length_take,Array.length_toList,Nat.min_eq_left (by omega),List.range_eq_range']
  conv=>lhs;rw[hl]
  have:=List.range'_append (s:=0) (m:=ops.size - 5) (n:=5) (step:=1);simp only[Nat.zero_add,Nat.one_mul] at this;exact this.symm
 rw[hr];refine Zsq (P:=P) (ops:=ops) _ (yby (ops.size - 5) 5) _ 0 _ σ act hs [] C _ (λj x hj=> ?_) okσ yK (by rw[hH];exact e0) k2 ?_
 ·rw[ycc] at hj;split at hj
  ·simpa using hj
  ·cases hj
 ·intro a' σ' e1 to1 ok1 hrep1;refine j4 _ a' σ' ok1 e1 hrep1 λa'' σ'' e2 to2 ok2 hrep2=> ?_;exact⟨rfl,σ'',rfl,e2,to1.trans to2,ok2,hrep2⟩
end
end Go.Ev
end
section
namespace Go.Ev
def Zai(H H':yL Ent):Prop:=∀σ:Sg,Ok σ->σ.H=H->∃σ':Sg,σ'.w=σ.w/\σ'.H=H'/\To σ σ'/\Ok σ'
theorem Zai.refl(H:yL Ent):Zai H H:=λσ ok h=>⟨σ,rfl,h,To.refl σ,ok⟩
theorem Zai.trans{A B C:yL Ent}(h:Zai A B)(k:Zai B C):Zai A C:=λσ ok e=>by
 obtain⟨σ1,a1,a2,a3,a4⟩:=h σ ok e;obtain⟨σ2,b1,b2,b3,b4⟩:=k σ1 a4 a2;exact⟨σ2,b1.trans a1,b2,a3.trans b3,b4⟩
theorem ZKM{H H':yL Ent}(h:WkH H H'):Zai H H':=λσ ok e=>by
 subst e;obtain⟨to,ok'⟩:=ZpP ok h;grind
theorem ZHW{P:yg}{c:Code}{ts ts1 ts2:yL Dv}{H H1 H2:yL Ent}{ex:Ex}(h:Zai H H1/\∀(σ:Sg)(a:Act),RepT σ ts a->RepT σ ts1 a)(r:Wt P c ts1 H1 ex ts2 H2):Wt P c ts H ex ts2 H2:=by
 intro σ a ok hH yK;obtain⟨σ1,e1,e2,e3,e4⟩:=h.1 σ ok hH;have:=r σ1 a e4 e2 (h.2 _ _ (yK.to e3.leaf));rw[e1] at this;refine wp_mono this ?_;rintro e' a' w' ⟨rfl,σ2,q1,q2,q3,q4,q5⟩;exact⟨rfl,σ2,q1,q2,e3.trans q3,q4,q5⟩
theorem ZFx{H:yL Ent}{j:Nat}{x x' y:Ent}(hj:H[j]? =some x)
 (hy:∀σ:Sg,entOk σ none y)
 (hvar:(∃d st,x=.var d st)->∃d st,x'=.var d st) (hmap:(∃t kvs,x=.map t kvs)->∃t kvs,x'=.map t kvs) (hlog:∀s e xs,x≠ .log s e xs)
 (hunl:∀o,x.unlocked o->x'.unlocked o)
 (hrow:∀v s st e d,x=.row v s st e d->∃st' d',x'=.row v s st' e d')
 (hent:∀(σ:Sg)(mi:yO Nat),σ.H[H.length]? =some y->σ.m[H.length]? =some none->entOk σ mi x->entOk σ mi x'):Zai H ((H++[y]).set j x'):=by
 intro σ ok hH;subst hH;have hjl:j < σ.H.length:=(yo.1 hj).1;obtain⟨to1,ok1⟩:=V0 (σ':={ σ with m:=σ.m++[none],H:=σ.H++[y]}) ok rfl rfl rfl rfl (World.grownBy.refl σ.w none) (.inl rfl) (λ_=>hy _);obtain⟨mi,hm⟩:∃mi,σ.m[j]? =some mi:=⟨_,yad (by rw[ok.len];exact hjl)⟩;let σ1:Sg:={ σ with m:=σ.m++[none],H:=σ.H++[y]};let σ2:Sg:={ σ1 with m:=σ1.m.set j mi,H:=σ1.H.set j x'}
 have hH1:σ1.H[j]? =some x:=by
  grind
 have hm1:σ1.m[j]? =some mi:=by
  grind
 have hx:=ok1.ent j x mi hH1 hm1
 obtain⟨to2,ok2⟩:=XR (σ':=σ2) (mi:=mi) (mi':=mi) ok1 hH1 hm1 rfl rfl rfl rfl rfl rfl rfl (yl _)
  (λ_ _ _=>rfl) (λ_ _ _ _ _ h=>h) (λo _ hu=>hunl o hu) (.inl rfl) (λq=>⟨rfl,hvar q⟩) (λq=>⟨rfl,hmap q⟩) (λs e xs q=>absurd q (hlog s e xs))
  (λleaf=>by
    refine hent σ2 mi ?_ ?_ (Zab leaf (λb _=>rfl) hx)
    ·show(σ1.H.set j _)[σ.H.length]? =_;rw[ybq,yX (by omega)];simp[σ1]
    ·show(σ1.m.set j _)[σ.H.length]? =_;rw[ybq,yX (by omega)];show(σ.m++[none])[σ.H.length]? =_;rw[yat (by rw[ok.len];exact yl _),ok.len];simp)
  (λv s st e d q=>by
    obtain⟨st',d',q'⟩:=hrow v s st e d q;exact⟨v,st',d',q',yl _,λ_=>⟨rfl,λb cur _ hc=>⟨cur,hc,rfl⟩⟩⟩)
 exact⟨σ2,rfl,rfl,to1.trans to2,ok2⟩
theorem ZuV{σ:Sg}{s:Nat}{a:yL Value}(h:yG σ (.p (.sl (some false) s [])) a):a=[.slice none 0 0]:=by
 simp only[yG,repC] at h;obtain⟨_,A,c,rfl,w1,w2,w3,w4,w5⟩:=h
 have hA:A=none:=by
  have:=w3 false rfl;simp_all
 grind
theorem ZBU{H:yL Ent}{j s:Nat}{e:yb}{d d':Dv}{st:Bool}{yM:yL Nat}(hj:H[j]? =some (.var d st))(hg:We d yM s (.rv H.length 0 s 0 0)=some d'):
 Zai H ((H++[Ent.row 0 s true e (.p (.arr 0 s []))]).set j (.var d' st)):=by
 have hsz:=Zb9 yM d d' s _ rfl hg;refine ZFx hj (λσ=>⟨0,by simp[rowN],.inl ⟨rfl,rfl⟩⟩) (λ_=>⟨_,_,rfl⟩) (λ⟨_,_,q⟩=>by cases q) (λ_ _ _ q=>by cases q) (λo hu=>hu) (λ_ _ _ _ _ q=>by cases q) ?_;rintro σ mi h1 h2 ⟨b,cs,t,rfl,q2,q3,q4⟩;refine⟨b,cs,t,rfl,q2, ?_,by rw[hsz];exact q4⟩;rw[hsz];refine Zej yM d d' s _ (λa ha=> ?_) hg _ q3;have:=ZuV ha;subst this;simp only[yG];exact⟨none,0,rfl,yl _,by simp[maxLen],λ_=>rfl,λh=>absurd h (Nat.lt_irrefl 0),0,s,true,e,_,h1,yl _,λ_=>⟨rfl,.inl ⟨h2,rfl,rfl⟩⟩⟩
theorem ZFy{H:yL Ent}{j s s' v N:Nat}{st:Bool}{e e':yb}{xs:yL Pl}{k:Nat}{x:Pl}{y:Dv}{yM:yL Nat}(hj:H[j]? =some (.row v s st e (.p (.arr N s xs))))(hx:xs[k]? =some x)
 (hg:We (.p x) yM s' (.own H.length none s' [])=some y):Zai H ((H++[Ent.log s' e' []]).set j (.row v s st e (.arr N s ((xs.map .p).set k y)))):=by
 have hsz:=Zb9 yM (.p x) y s' _ rfl hg;refine ZFx hj (λσ=>.inl ⟨rfl,rfl⟩) (λ⟨_,_,q⟩=>by cases q) (λ⟨_,_,q⟩=>by cases q) (λ_ _ _ q=>by cases q) (λo hu=> ?_) (λv2 s2 st2 e2 d2 q=>by cases q;exact⟨_,_,rfl⟩) ?_
 ·obtain⟨u1,N',u2,u3⟩:=hu;exact⟨u1,N',by rw[<-u2];simp[rowN],u3⟩
 rintro σ mi h1 h2 ⟨N',q1,q2⟩;refine⟨N',by rw[<-q1];simp[rowN], ?_⟩;rcases q2 with q2|⟨b,cur,cap,e3,e4,e5,e6,e7,e8⟩
 ·exact .inl q2
 refine .inr ⟨b,cur,cap,e3,e4,e5,e6,e7, ?_⟩;have hk:(xs.map Dv.p)[k]? =some (.p x):=by rw[yal,hx];rfl
 simp only[yG,repC] at e8 ⊢;obtain⟨r1,r2,r3⟩:=e8;refine⟨by simpa using r1,λz hz=> ?_, ?_⟩
 ·rcases List.mem_or_eq_of_mem_set hz with hz|hz
  ·obtain⟨w,hw,rfl⟩:=List.mem_map.1 hz;exact r2 w hw
  ·subst hz;rw[hsz];exact r2 x (ybz hx)
 ·refine Zl1 (x:=.p x) (y:=y) (λa ha=>Zej yM (.p x) y s' _ (λa ha=> ?_) hg a ha) _ k _ hk (Zho.2 r3);have:=ZuV ha;subst this;simp only[yG];exact⟨λ_ hx=>(by cases hx),none,0,rfl,yl _,by simp[maxLen],Yp _,λ_=>rfl,λh=>absurd rfl h,e',[],h1,yl _,λ_=>.inl ⟨h2,rfl,rfl⟩⟩
theorem ZHX{H:yL Ent}{j:Nat}{d d':Dv}{st:Bool}(hj:H[j]? =some (.var d st))(hsz:d'.size=d.size)(hd:∀σ:Sg,Ok σ->σ.H=H->∀us,yG σ d us->yG σ d' us):Zai H (H.set j (.var d' st)):=by
 intro σ ok hH;subst hH;have hjl:j < σ.H.length:=(yo.1 hj).1;obtain⟨mi,hm⟩:∃mi,σ.m[j]? =some mi:=⟨_,yad (by rw[ok.len];exact hjl)⟩;let σ2:Sg:={ σ with m:=σ.m.set j mi,H:=σ.H.set j (.var d' st)};obtain⟨b,cs,t,rfl,q2,q3,q4⟩:=ok.ent j _ mi hj hm;have q5:=hd σ ok rfl _ q3
 obtain⟨to2,ok2⟩:=XR (σ':=σ2) (mi:=some b) (mi':=some b) ok hj hm rfl rfl rfl rfl rfl rfl rfl (yl _)
  (λ_ _ _=>rfl) (λ_ _ _ _ _ h=>h) (λo _ hu=>hu) (.inl rfl) (λq=>⟨rfl,_,_,rfl⟩) (λ⟨_,_,q⟩=>by cases q) (λs e xs q=>by cases q)
  (λleaf=>⟨b,cs,t,rfl,q2,by rw[hsz];exact Yk leaf _ _ q5,by rw[hsz];exact q4⟩)
  (λv s st e d q=>by cases q)
 grind
def ZwB{α O:Type}(l:yL α)(f:α->yL α->yO O):yO O:=match l with
 |x::r=>f x r
 |[]=>none
inductive GOp where
 |rows (t:Tmp) (yM:List Nat) (T:Ty) (e:yb) (np:List Nat)
 |focus (t:Tmp) (U:Ty) (e:yb)
 |done (t:Tmp)
 |fresh (t:Tmp) (i:Nat)
 |rowt (t:Tmp) (yM:List Nat) (T:Ty) (e:yb)
 |freshDone (t:Tmp) (i:Nat)
 |isplit (t:Tmp) (i:Nat) (ks:List Nat)
def ZFz:TEnt->Bool
 |.rowN _ _ _ true _ _ _=>true
 |_=>false
section
variable{O:Type}{out:O}
abbrev Kh(O:Type):=yL TD->yL TEnt->yO O
def ZAt(t:Tmp)(yM:yL Nat)(T:Ty)(e:yb)(np:yL Nat)(a:yL TD)(h:yL TEnt)(K:Kh O):yO O:=
 match a[t]? with
 |some (.ref id [])=>match h[id]? with
  |some (.var d true)=>(Zgs T (.rw h.length) yM d).bind λd'=>if(TD.frees h.length a&&h.all (TEnt.free h.length))=true then K a ((h++[TEnt.rowN T np [] true e [] []]).set id (.var d' true)) else none
  |_=>none
 |_=>none
def ZAu(t:Tmp)(yM:yL Nat)(T:Ty)(e:yb)(a:yL TD)(h:yL TEnt)(K:Kh O):yO O:=
 match a[t]? with
 |some (.ref id [])=>match h[id]? with
  |some (.var d true)=>(Zgs T (.rw h.length) yM d).bind λd'=>if(TD.frees h.length a&&h.all (TEnt.free h.length))=true then K a ((h++[TEnt.rowT T [] true e []]).set id (.var d' true)) else none
  |_=>none
 |_=>none
def ZwC(t:Tmp)(U:Ty)(e:yb)(a:yL TD)(h:yL TEnt)(K:Kh O):yO O:=
 let j:=h.findIdx ZFz
 match h[j]?,((a[t]?).bind TD.num) with
 |some (.rowN T np v true e' pre post),some i=>if(TD.frees h.length a&&h.all (TEnt.free h.length))=true then if decide (i.n=(pre.length:Int))=true then ZwB post λx r=>
   (Zgs U (.own h.length none U none) np (.p (WE np (.v T x)))).bind λd=>K a ((h++[TEnt.log U e []]).set j (.rowM T np v true e' pre d r)) else none else none
 |_,_=>none
def Zys(h:yL TEnt):TD->yO (TD×yL Nat)
 |.rw j=>match h[j]? with
  |some (.rowN T _ _ _ _ pre [])=>some (.p (.sl none T pre),[j])
  |some (.rowT T _ _ _ l)=>some (.p (.sl none T l),[j])
  |_=>none
 |d=>some (d,[])
def ZFA(h:yL TEnt):TD->(TD->yL Nat->yO O)->yO O
 |.rw j,K=>match h[j]? with
  |some (.rowN T _ _ _ _ pre post)=>if post.isEmpty=true then K (.p (.sl none T pre)) [j] else none
  |some (.rowT T _ _ _ l)=>K (.p (.sl none T l)) [j]
  |_=>none
 |d,K=>K d []
theorem ZAv{h:yL TEnt}{d:TD}{K:TD->yL Nat->yO O}(k:ZFA h d K=some out):∃q,Zys h d=some q/\K q.1 q.2=some out:=by
 unfold ZFA at k;unfold Zys;split at k
 ·rename_i j;dsimp only;split at k
  all_goals simp_all
 simp_all
def ZAw(h:yL TEnt):yL TD->(yL TD->yL Nat->yO O)->yO O
 |[],K=>K [] []
 |d::r,K=>ZFA h d λx l=>ZAw h r λy m=>K (x::y) (l++m)
def Zss(h:yL TEnt):yL TD->yO (yL TD×yL Nat)
 |[]=>some ([],[])
 |d::r=>match Zys h d,Zss h r with
  |some q,some w=>some (q.1::w.1,q.2++w.2)
  |_,_=>none
theorem Zp5{h:yL TEnt}:∀{ds:yL TD}{K:yL TD->yL Nat->yO O},ZAw h ds K=some out->∃q,Zss h ds=some q/\K q.1 q.2=some out
 |[],K,k=>⟨_,rfl,k⟩
 |d::r,K,k=>by
  obtain⟨q,h1,k⟩:=ZAv k;obtain⟨w,h2,k⟩:=Zp5 k;exact⟨(q.1::w.1,q.2++w.2),by simp only[Zss,h1,h2],k⟩
def Zk5:TEnt->TEnt
 |.rowN T np v _ e a b=>.rowN T np v false e a b
 |.rowT t v _ e l=>.rowT t v false e l
 |e=>e
def ZdH(ids:yL Nat)(H:yL TEnt):yL TEnt:=(yp H.length).zipWith (λi e=>if ids.contains i then Zk5 e else e) H
def Zst(t:Tmp)(a:yL TD)(h:yL TEnt)(K:Kh O):yO O:=
 match a[t]? with
 |some (.ref id [])=>match h[id]? with
  |some (.var (.agg ds) st)=>ZAw h ds λx l=>K a ((ZdH l h).set id (.var (.agg x) st))
  |_=>none
 |_=>none
def Zq7(t:Tmp)(i:Nat)(a:yL TD)(h:yL TEnt)(K:Kh O):yO O:=
 match a[t]? with
 |some (.ref j [])=>match h[j]? with
  |some (.var (.agg ds) st)=>match ds[i]? with
   |some (.rv id v s 0 n)=>match h[id]? with
    |some (.rowT T w _ _ l)=>if(decide (v=w.length)&&(decide (s=T.size)&&decide (n=l.length)))=true then K a (h.set j (.var (.agg (ds.set i (.rw id))) st)) else none
    |_=>none
   |_=>none
  |_=>none
 |_=>none
def Zq8{O:Type}(w:Nat)(f:Nat->yO O):yL Nat->yO O
 |[]=>none
 |n::r=>if yar w n=true then f n else Zq8 w f r
def Zsu(t:Tmp)(i:Nat)(ks:yL Nat)(a:yL TD)(h:yL TEnt)(K:Kh O):yO O:=
 match a[t]? with
 |some (.ref j [])=>match h[j]? with
  |some (.var (.agg ds) st)=>match ds[i]? with
   |some (.iface w y)=>Zq8 w (λn=>K a (h.set j (.var (.agg (ds.set i (.iface n y))) st))) ks
   |_=>none
  |_=>none
 |_=>none
def ghT:GOp->yL TD->yL TEnt->Kh O->yO O
 |.rows t yM T e np,a,h,K=>ZAt t yM T e np a h K
 |.focus t U e,a,h,K=>ZwC t U e a h K
 |.done t,a,h,K=>Zst t a h K
 |.fresh t i,a,h,K=>Zq7 t i a h K
 |.rowt t yM T e,a,h,K=>ZAu t yM T e a h K
 |.freshDone t i,a,h,K=>Zq7 t i a h λa h=>Zst t a h K
 |.isplit t i ks,a,h,K=>Zsu t i ks a h K
def ghO(g:yO GOp)(a:yL TD)(h:yL TEnt)(K:Kh O):yO O:=
 match g with
 |none=>K a h
 |some g=>ghT g a h K
theorem ZwD{H:yL TEnt}{e:TEnt}(h:H.all (TEnt.free H.length)=true):erH (H++[e])=erH H++[e.er (lk (H++[e]))]:=by
 unfold erH;rw[yau];congr 1;refine ycs λx hx=> ?_;have hf:=ybs.1 h x hx;exact(Zsb (λid t hn=>Zch id t hn) x hf).symm
theorem ZwE{H:yL TEnt}{e:TEnt}{a:yL TD}(h:TD.frees H.length a=true):TD.ers (lk (H++[e])) a=TD.ers (lk H) a:=(ers_free (λid t hn=>Zch id t hn) a h).symm
theorem Zyt{t:Tmp}{yM:yL Nat}{T:Ty}{e:yb}{np:yL Nat}{a:yL TD}{h:yL TEnt}{K:Kh O}(k:ZAt t yM T e np a h K=some out):
 ∃a' h',K a' h'=some out/\a'.length=a.length/\Zai (erH h) (erH h')/\∀(σ:Sg)(act:Act),RepT σ (TD.ers (lk h) a) act->RepT σ (TD.ers (lk h') a') act:=by
 unfold ZAt at k;split at k
 ·rename_i id hid;split at k
  ·rename_i d hd;obtain⟨d',h1,k⟩:=yf.1 k;obtain⟨h2,k⟩:=Zc k;rw[yi] at h2;have hlt:id < h.length:=(yo.1 hd).1;have hd':(h++[TEnt.rowN T np [] true e [] []])[id]? =some (.var d true):=by rw[yba hlt];exact hd
   have hL:lk ((h++[TEnt.rowN T np [] true e [] []]).set id (.var d' true))=lk (h++[TEnt.rowN T np [] true e [] []]):=Zah hd' rfl rfl;refine⟨_,_,k,rfl, ?_,λσ act r=> ?_⟩
   ·have e1:erH ((h++[TEnt.rowN T np [] true e [] []]).set id (.var d' true))=(erH h++[Ent.row 0 T.size true e (.p (.arr 0 T.size []))]).set id (.var (d'.er (lk (h++[TEnt.rowN T np [] true e [] []]))) true):=by
     rw[WV hL,ZwD h2.2];rfl
    rw[e1];have hj:(erH h)[id]? =some (.var (d.er (lk h)) true):=by rw[Yf hd];rfl
    refine ZBU (yM:=yM) hj ?_;have e2:=Zf5 (L:=lk (h++[TEnt.rowN T np [] true e [] []])) yM d d' h1;have e3:d.er (lk (h++[TEnt.rowN T np [] true e [] []]))=d.er (lk h):=(Zcg (λid t hn=>Zch id t hn) d (ybs.1 h2.2 _ (ybz hd))).symm;rw[e3,(ZfH (q:=(0,T.size,0)) (x:=.rowN T np [] true e [] []) (yde ..) rfl).1] at e2;rw[Z1];exact e2
   ·rw[hL,ZwE h2.1];exact r
  ·cases k
 ·cases k
theorem Zyu{t:Tmp}{yM:yL Nat}{T:Ty}{e:yb}{a:yL TD}{h:yL TEnt}{K:Kh O}(k:ZAu t yM T e a h K=some out):
 ∃a' h',K a' h'=some out/\a'.length=a.length/\Zai (erH h) (erH h')/\∀(σ:Sg)(act:Act),RepT σ (TD.ers (lk h) a) act->RepT σ (TD.ers (lk h') a') act:=by
 unfold ZAu at k;split at k
 ·rename_i id hid;split at k
  ·rename_i d hd;obtain⟨d',h1,k⟩:=yf.1 k;obtain⟨h2,k⟩:=Zc k;rw[yi] at h2;have hlt:id < h.length:=(yo.1 hd).1;have hd':(h++[TEnt.rowT T [] true e []])[id]? =some (.var d true):=by rw[yba hlt];exact hd
   have hL:lk ((h++[TEnt.rowT T [] true e []]).set id (.var d' true))=lk (h++[TEnt.rowT T [] true e []]):=Zah hd' rfl rfl;refine⟨_,_,k,rfl, ?_,λσ act r=> ?_⟩
   ·have e1:erH ((h++[TEnt.rowT T [] true e []]).set id (.var d' true))=(erH h++[Ent.row 0 T.size true e (.p (.arr 0 T.size []))]).set id (.var (d'.er (lk (h++[TEnt.rowT T [] true e []]))) true):=by
     rw[WV hL,ZwD h2.2];rfl
    rw[e1];have hj:(erH h)[id]? =some (.var (d.er (lk h)) true):=by rw[Yf hd];rfl
    refine ZBU (yM:=yM) hj ?_;have e2:=Zf5 (L:=lk (h++[TEnt.rowT T [] true e []])) yM d d' h1;have e3:d.er (lk (h++[TEnt.rowT T [] true e []]))=d.er (lk h):=(Zcg (λid t hn=>Zch id t hn) d (ybs.1 h2.2 _ (ybz hd))).symm;rw[e3,(Zc0 (T:=T) (v:=[]) (l:=[]) (yde ..)).1] at e2;rw[Z1];exact e2
   ·rw[hL,ZwE h2.1];exact r
  ·cases k
 ·cases k
theorem ZwF{t:Tmp}{U:Ty}{e:yb}{a:yL TD}{h:yL TEnt}{K:Kh O}(k:ZwC t U e a h K=some out):
 ∃a' h',K a' h'=some out/\a'.length=a.length/\Zai (erH h) (erH h')/\∀(σ:Sg)(act:Act),RepT σ (TD.ers (lk h) a) act->RepT σ (TD.ers (lk h') a') act:=by
 unfold ZwC at k;dsimp only at k;generalize h.findIdx ZFz=j at k;split at k
 ·rename_i T np v e' pre post i hd hi;obtain⟨h2,k⟩:=Zc k;obtain⟨_,k⟩:=Zc k;simp only[yi] at h2;obtain⟨h2,h3⟩:=h2
  cases post with
  |nil=>cases k
  |cons x r=>
   have k:((Zgs U (.own h.length none U none) np (.p (WE np (.v T x)))).bind λd=>K a ((h++[TEnt.log U e []]).set j (.rowM T np v true e' pre d r)))=some out:=k;obtain⟨d,h1,k⟩:=yf.1 k;have hlt:j < h.length:=(yo.1 hd).1;have hd':(h++[TEnt.log U e []])[j]? =some (.rowN T np v true e' pre (x::r)):=by rw[yba hlt];exact hd
   have hL:lk ((h++[TEnt.log U e []]).set j (.rowM T np v true e' pre d r))=lk (h++[TEnt.log U e []]):=ZBE hd' rfl;refine⟨_,_,k,rfl, ?_,λσ act rr=> ?_⟩
   ·have e1:erH ((h++[TEnt.log U e []]).set j (.rowM T np v true e' pre d r))=(erH h++[Ent.log U.size e []]).set j (.row v.length T.size true e' (.arr (pre.length+(r.length+1)) T.size (((pre.map T.enc++(x::r).map λx=>(WE np (.v T x)).pe).map .p).set pre.length (d.er (lk (h++[TEnt.log U e []])))))):=by
     rw[WV hL,ZwD h3];have hm:=ZBG (pre.map λx=>Dv.p (T.enc x)) (r.map λx=>.p (WE np (.v T x)).pe) (.p (WE np (.v T x)).pe) (d.er (lk (h++[TEnt.log U e []])));rw[yaa] at hm
     have hm2:((pre.map T.enc++(x::r).map λx=>(WE np (.v T x)).pe).map Dv.p).set pre.length (d.er (lk (h++[TEnt.log U e []])))=(pre.map λx=>Dv.p (T.enc x))++d.er (lk (h++[TEnt.log U e []]))::r.map λx=>.p (WE np (.v T x)).pe:=by
      rw[yau,ybe,ybe];exact hm
     rw[hm2];rfl
    rw[e1];have hj:(erH h)[j]? =some (.row v.length T.size true e' (.p (.arr (pre.length+(r.length+1)) T.size (pre.map T.enc++(x::r).map λx=>(WE np (.v T x)).pe)))):=by rw[Yf hd];rfl
    have hx:(pre.map T.enc++(x::r).map λx=>(WE np (.v T x)).pe)[pre.length]? =some (WE np (.v T x)).pe:=by
     grind
    refine ZFy (yM:=np) hj hx ?_;have e2:=Zf5 (L:=lk (h++[TEnt.log U e []])) np _ d h1
    have e3:(TD.own h.length none U none).er (lk (h++[TEnt.log U e []]))=.own h.length none U.size []:=by
     rw[TD.er,Zf4];rfl
    rw[e3,TD.er] at e2;rw[Z1];exact e2
   ·rw[hL,ZwE h2];exact rr
 ·cases k
theorem ZFB(e:TEnt):lkE (some (Zk5 e))=lkE (some e):=by cases e <;> rfl
theorem ZjA(ids:yL Nat)(H:yL TEnt)(i:Nat):(ZdH ids H)[i]? =(H[i]?).map λe=>if ids.contains i then Zk5 e else e:=by
 unfold ZdH
 all_goals grind
theorem ZuW(ids:yL Nat)(H:yL TEnt):lk (ZdH ids H)=lk H:=by
 funext i;unfold lk;rw[ZjA]
 cases H[i]? with
 |none=>rfl
 |some e=>
  show lkE (some (if ids.contains i=true then Zk5 e else e))=_
  split
  ·exact ZFB e
  ·rfl
theorem ZDu(ids:yL Nat)(H:yL TEnt):WkH (erH H) (erH (ZdH ids H)):=by
 refine ZFk (by rw[Z1,Z1];unfold ZdH;simp) λi a b h1 h2=> ?_;unfold erH at h1 h2;rw[yal] at h1 h2;rw[ZuW,ZjA] at h2
 cases he:H[i]? with
 |none=>rw[he] at h1;cases h1
 |some e=>
  rw[he] at h1 h2;cases h1;cases h2;show WkE (e.er (lk H)) (TEnt.er (lk H) (if ids.contains i=true then Zk5 e else e))
  split
  ·cases e <;> first|exact .refl _|exact .lock
  ·exact .refl _
theorem ZFC{h H:yL TEnt}{d:TD}{q:TD×yL Nat}(hq:Zys h d=some q)(hL:lk H=lk h)(hl:∀j,j∈q.2->∀e,h[j]? =some e->H[j]? =some (Zk5 e)):
 (q.1.er (lk H)).size=(d.er (lk H)).size/\∀σ:Sg,Ok σ->σ.H=erH H->∀us,yG σ (d.er (lk H)) us->yG σ (q.1.er (lk H)) us:=by
 have other:∀x:TD,(q.1.er (lk H)).size=(q.1.er (lk H)).size/\∀σ:Sg,Ok σ->σ.H=erH H->∀us,yG σ (q.1.er (lk H)) us->yG σ (q.1.er (lk H)) us:=λ_=>⟨rfl,λ_ _ _ _ r=>r⟩
 have row:∀(j:Nat)(v:Nat)(s:Nat)(e:yb)(xs:yL Pl)(T:Ty)(l:yL T.den),(TD.rw j).er (lk H)=.rv j v s 0 xs.length->(erH H)[j]? =some (.row v s false e (.p (.arr xs.length s xs)))->s=T.size->xs=l.map T.enc->
  ((TD.p (.sl none T l)).er (lk H)).size=((TD.rw j).er (lk H)).size/\∀σ:Sg,Ok σ->σ.H=erH H->∀us,yG σ ((TD.rw j).er (lk H)) us->yG σ ((TD.p (.sl none T l)).er (lk H)) us:=by
  intro j v s e xs T l e1 e2 e3 e4;subst e3;rw[e1];refine⟨rfl,λσ ok hH us r=> ?_⟩;have dr:=DeepR.rvp (H:=σ.H) (lo:=0) (n:=xs.length) (by rw[hH];exact e2) (by omega);rw[List.drop_zero,yag] at dr;have:=ZEG ok dr us r;rw[TD.er,TP.pe, <-e4];simpa[yG] using this
 unfold Zys at hq;split at hq
 ·rename_i j;split at hq
  ·rename_i T np v st e pre hd;cases hq;have hH:=hl j (ybd ..) _ hd;have hr:=ZfH (q:=(v.length,T.size,pre.length+0)) (x:=Zk5 (.rowN T np v st e pre [])) hH rfl;refine row j v.length T.size e (pre.map T.enc) T pre (by rw[hr.1,yaa];rfl) ?_ rfl rfl;rw[Yf hH,yaa];simp only[Zk5,TEnt.er,List.map_nil,yas,yck,Nat.add_zero]
  ·rename_i T v st e l hd;cases hq;have hH:=hl j (ybd ..) _ hd;have hr:=Zc0 (T:=T) (v:=v) (st:=false) (e:=e) (l:=l) hH;refine row j v.length T.size e (l.map T.enc) T l (by rw[hr.1,yaa]) ?_ rfl rfl;rw[Yf hH,yaa];rfl
  ·cases hq
 grind
theorem ZuX{h H:yL TEnt}:∀{ds:yL TD}{q:yL TD×yL Nat},Zss h ds=some q->lk H=lk h->(∀j,j∈q.2->∀e,h[j]? =some e->H[j]? =some (Zk5 e))->
 Dv.sizes (TD.ers (lk H) q.1)=Dv.sizes (TD.ers (lk H) ds)/\∀σ:Sg,Ok σ->σ.H=erH H->∀us,repDs σ (TD.ers (lk H) ds) us->repDs σ (TD.ers (lk H) q.1) us
 |[],q,hq,hL,hl=>by cases hq;exact⟨rfl,λ_ _ _ _ r=>r⟩
 |d::r,q,hq,hL,hl=>by
  simp only[Zss] at hq;split at hq
  ·rename_i q1 q2 h1 h2;cases hq;obtain⟨a1,a2⟩:=ZFC h1 hL (λj hj=>hl j (List.mem_append_left _ hj));obtain⟨b1,b2⟩:=ZuX h2 hL (λj hj=>hl j (List.mem_append_right _ hj));refine⟨by simp only[TD.ers,Dv.sizes];rw[a1,b1],λσ ok hH us rr=> ?_⟩;simp only[TD.ers,repDs] at rr ⊢;grind
  ·cases hq
theorem Zp6{t:Tmp}{a:yL TD}{h:yL TEnt}{K:Kh O}(k:Zst t a h K=some out):
 ∃a' h',K a' h'=some out/\a'.length=a.length/\Zai (erH h) (erH h')/\∀(σ:Sg)(act:Act),RepT σ (TD.ers (lk h) a) act->RepT σ (TD.ers (lk h') a') act:=by
 unfold Zst at k;split at k
 ·rename_i id hid;split at k
  ·rename_i ds st hd;obtain⟨q,h1,k⟩:=Zp5 k
   have hd2:(ZdH q.2 h)[id]? =some (.var (.agg ds) st):=by
    rw[ZjA,hd];show some (if q.2.contains id=true then Zk5 (.var (.agg ds) st) else .var (.agg ds) st)=_
    split <;> rfl
   have hL0:lk (ZdH q.2 h)=lk h:=ZuW _ _;have hL:lk ((ZdH q.2 h).set id (.var (.agg q.1) st))=lk (ZdH q.2 h):=Zah hd2 rfl rfl;refine⟨_,_,k,rfl,(ZKM (ZDu q.2 h)).trans ?_,λσ act rr=>by rw[hL,hL0];exact rr⟩;rw[WV hL];have hj:(erH (ZdH q.2 h))[id]? =some (.var (.agg (TD.ers (lk (ZdH q.2 h)) ds)) st):=by rw[Yf hd2];rfl
   obtain⟨c1,c2⟩:=ZuX (H:=ZdH q.2 h) h1 hL0 (λj hj e he=>by
    rw[ZjA,he];show some (if q.2.contains j=true then Zk5 e else e)=_
    rw[yW (by simpa using hj)])
   refine ZHX hj ?_ λσ ok hH us r=> ?_
   ·exact c1
   ·simp only[TD.er,yG] at r ⊢;grind
  ·cases k
 ·cases k
theorem ZFD{L:Lk}{ds:yL TD}{i:Nat}{x y:TD}(h:ds[i]? =some x)(e:y.er L=x.er L):TD.ers L (ds.set i y)=TD.ers L ds:=by
 rw[ZP,ZP,ybm,e];apply ybk
 all_goals grind
theorem Zoc{t:Tmp}{i:Nat}{a:yL TD}{h:yL TEnt}{K:Kh O}(k:Zq7 t i a h K=some out):
 ∃a' h',K a' h'=some out/\a'.length=a.length/\Zai (erH h) (erH h')/\∀(σ:Sg)(act:Act),RepT σ (TD.ers (lk h) a) act->RepT σ (TD.ers (lk h') a') act:=by
 unfold Zq7 at k;split at k
 ·rename_i j hj;split at k
  ·rename_i ds st hd;split at k
   ·rename_i id v s n hi;split at k
    ·rename_i T w st' e l hr;obtain⟨c,k2⟩:=Zc k;clear k;rw[yi,yi,yP,yP,yP] at c;obtain⟨rfl,rfl,rfl⟩:=c;have hL:lk (h.set j (.var (.agg (ds.set i (.rw id))) st))=lk h:=Zah hd rfl rfl
     have he:(TD.rw id).er (lk h)=(TD.rv id w.length T.size 0 l.length).er (lk h):=by
      refine(Zwr (v:=w) (s:=T.size) (N:=l.length) ?_).1;unfold Ym lk;dsimp only;rw[hr];rfl
     refine⟨_,_,k2,rfl, ?_,λσ act rr=>by rw[hL];exact rr⟩
     have e2:erH (h.set j (.var (.agg (ds.set i (.rw id))) st))=erH h:=by
      rw[WV hL];show(erH h).set j (.var (.agg (TD.ers (lk h) (ds.set i (.rw id)))) st)=erH h;rw[ZFD hi he];apply ybk;intro q;by_cases hq:j=q
      ·subst hq;have hjl:(erH h)[j]? =some (.var (.agg (TD.ers (lk h) ds)) st):=by rw[Yf hd];rfl
       grind
      grind
     rw[e2];exact Zai.refl _
    ·cases k
   ·cases k
  ·cases k
 ·cases k
theorem ZuY{α:Type}{l:yL α}{i:Nat}{x:α}(h:l[i]? =some x):l.set i x=l:=by
 apply ybk
 all_goals grind
theorem Zod{w:Nat}{f:Nat->yO O}:∀{ks:yL Nat},Zq8 w f ks=some out->f w=some out
 |[],k=>by cases k
 |n::r,k=>by
  unfold Zq8 at k;split at k
  ·simp_all
  ·exact Zod k
theorem ZtP{t:Tmp}{i:Nat}{ks:yL Nat}{a:yL TD}{h:yL TEnt}{K:Kh O}(k:Zsu t i ks a h K=some out):
 ∃a' h',K a' h'=some out/\a'.length=a.length/\Zai (erH h) (erH h')/\∀(σ:Sg)(act:Act),RepT σ (TD.ers (lk h) a) act->RepT σ (TD.ers (lk h') a') act:=by
 unfold Zsu at k;split at k
 ·split at k
  ·rename_i j _ ds st hj;split at k
   ·rename_i w y hi;have k:=Zod k;rw[ZuY hi,ZuY hj] at k;exact⟨_,_,k,rfl,Zai.refl _,λ_ _ r=>r⟩
   ·cases k
  ·cases k
 ·cases k
theorem ZFE{g:yO GOp}{a:yL TD}{h:yL TEnt}{K:Kh O}(k:ghO g a h K=some out):
 ∃a' h',K a' h'=some out/\a'.length=a.length/\Zai (erH h) (erH h')/\∀(σ:Sg)(act:Act),RepT σ (TD.ers (lk h) a) act->RepT σ (TD.ers (lk h') a') act:=by
 unfold ghO at k;split at k
 ·exact⟨_,_,k,rfl,Zai.refl _,λ_ _ r=>r⟩
 ·rename_i g
  cases g with
  |rows t yM T e np=>exact Zyt k
  |focus t U e=>exact ZwF k
  |done t=>exact Zp6 k
  |fresh t i=>exact Zoc k
  |rowt t yM T e=>exact Zyu k
  |freshDone t i=>
   obtain⟨a1,h1,k,l1,g1,r1⟩:=Zoc (K:=λa h=>Zst t a h K) k;obtain⟨a2,h2,k,l2,g2,r2⟩:=Zp6 k
   exact⟨a2,h2,k,l2.trans l1,g1.trans g2,λσ act r=>r2 σ act (r1 σ act r)⟩
  |isplit t i ks=>exact ZtP k
end
end Go.Ev
end
