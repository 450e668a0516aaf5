/- Parts of the proof, in one file. -/
import Derived.Test.YtekdgjajmennjaaGreatKc
open Option renaming some → ab, none → ae
open Bool renaming true → af, false → ag
open Decidable renaming decide → ah
open Bool renaming and_eq_true → yi
open Go renaming TypeId → yc, Program → yg, Operand → yn, FuncId → yu
open List renaming getElem?_eq_some_iff → yo, range → yq, length_append → yr, nil_append → yv, length_map → yx, replicate → yy, cons_append → yaa, getElem?_eq_getElem → yac, map_cons → yad, length_cons → yah, getElem?_append_left → yai, getElem?_map → yaj, append_assoc → yak, map_append → yal, getElem?_eq_none → yan, map_map → yaq, getElem?_cons_zero → ybb, all_eq_true → ybc, take_length → ybd, append_nil → ybg, map_set → ybi, map_take → yce, getElem?_set_self → yci, map_congr_left → ycl, length_nil → ycn, length_replicate → ycs
open Nat renaming le_refl → ym, lt_or_ge → ybr
open Option renaming bind_some → ya, bind_eq_some_iff → yf, map_eq_some_iff → yp, map_some → yab
open Option.some renaming injEq → yj, inj → yax
set_option linter.unusedVariables false
set_option linter.unusedSimpArgs false
section
namespace Go.Ev
mutual
theorem qH{L M:Lk}(h:∀id t,Z3 L id t ae=Z3 M id t ae):∀(d:TD),d.er L=d.er M
 |.p _=>rfl
 |.elem _=>rfl
 |.ak _ _=>rfl
 |.own id nn t c=>by
  cases c with
  |none=>rw[TD.er,TD.er,h]
  |some _=>rfl
 |.view _ _ _ _ _=>rfl
 |.agg xs=>by rw[TD.er,TD.er,cm h xs]
 |.arr _ _ xs=>by rw[TD.er,TD.er,cm h xs]
 |.fn _ xs=>by rw[TD.er,TD.er,cm h xs]
 |.iface _ x=>by rw[TD.er,TD.er,qH h x]
 |.bj xs=>by rw[TD.er,TD.er,cm h xs]
 |.mp _=>rfl
 |.rv _ _ _ _ _=>rfl
 |.aY _ _ _=>rfl
 |.rw _=>by simp only[TD.er,ew,h]
 |.rp _ _=>by simp only[TD.er,ew,h]
 |.ao=>rfl
theorem cm{L M:Lk}(h:∀id t,Z3 L id t ae=Z3 M id t ae):∀(ds:yL TD),TD.ay L ds=TD.ay M ds
 |[]=>rfl
 |x::r=>by rw[TD.ay,TD.ay,qH h x,cm h r]
end
theorem ZJy{L M:Lk}(h:∀id t,Z3 L id t ae=Z3 M id t ae)(e:ai):e.er L=e.er M:=by
 cases e with
 |var d st=>rw[ai.er,ai.er,qH h]
 |row v s st e d=>rw[ai.er,ai.er,qH h]
 |bJ t np v st e pre mid post=>rw[ai.er,ai.er,qH h]
 |_=>rfl
mutual
def TD.free(n:Nat):TD->Bool
 |.own id _ _ c=>c.isSome || id !=n
 |.rw id=>id !=n
 |.rp id _=>id !=n
 |.agg xs=>TD.frees n xs
 |.arr _ _ xs=>TD.frees n xs
 |.fn _ xs=>TD.frees n xs
 |.iface _ x=>TD.free n x
 |.bj xs=>TD.frees n xs
 |_=>af
def TD.frees(n:Nat):yL TD->Bool
 |[]=>af
 |x::r=>TD.free n x&&TD.frees n r
end
def ai.free(n:Nat):ai->Bool
 |.var d _=>d.free n
 |.row _ _ _ _ d=>d.free n
 |.bJ _ _ _ _ _ _ d _=>d.free n
 |_=>af
mutual
theorem iT{L M:Lk}{n:Nat}(h:∀id t,id≠n->Z3 L id t ae=Z3 M id t ae):∀(d:TD),d.free n=af->d.er L=d.er M
 |.p _,_=>rfl
 |.elem _,_=>rfl
 |.ak _ _,_=>rfl
 |.own id nn t c,hf=>by
  cases c with
  |none=>
   have:id≠n:=by simpa[TD.free] using hf
   rw[TD.er,TD.er,h id t this]
  |some _=>rfl
 |.view _ _ _ _ _,_=>rfl
 |.agg xs,hf=>by rw[TD.er,TD.er,cB h xs hf]
 |.arr _ _ xs,hf=>by rw[TD.er,TD.er,cB h xs hf]
 |.fn _ xs,hf=>by rw[TD.er,TD.er,cB h xs hf]
 |.iface _ x,hf=>by rw[TD.er,TD.er,iT h x hf]
 |.bj xs,hf=>by rw[TD.er,TD.er,cB h xs hf]
 |.mp _,_=>rfl
 |.rv _ _ _ _ _,_=>rfl
 |.aY _ _ _,_=>rfl
 |.rw id,hf=>by
  have:id≠n:=by simpa[TD.free] using hf
  simp only[TD.er,ew,h id _ this]
 |.rp id _,hf=>by
  have:id≠n:=by simpa[TD.free] using hf
  simp only[TD.er,ew,h id _ this]
 |.ao,_=>rfl
theorem cB{L M:Lk}{n:Nat}(h:∀id t,id≠n->Z3 L id t ae=Z3 M id t ae):∀(ds:yL TD),TD.frees n ds=af->TD.ay L ds=TD.ay M ds
 |[],_=>rfl
 |x::r,hf=>by
  simp only[TD.frees,yi]at hf;rw[TD.ay,TD.ay,iT h x hf.1,cB h r hf.2]
end
mutual
def TD.stale(L:Lk)(n:Nat):TD->TD
 |.own id nn t c=>if id=n then .own id nn t (ab (Z3 L id t c)) else .own id nn t c
 |.agg xs=>.agg (TD.co L n xs)
 |.arr m s xs=>.arr m s (TD.co L n xs)
 |.fn f xs=>.fn f (TD.co L n xs)
 |.iface t x=>.iface t (TD.stale L n x)
 |.bj xs=>.bj (TD.co L n xs)
 |.p x=>.p x
 |.elem x=>.elem x
 |.ak id yQ=>.ak id yQ
 |.view id yQ s lo n=>.view id yQ s lo n
 |.mp id=>.mp id
 |.rv id v s lo n=>.rv id v s lo n
 |.aY id v yQ=>.aY id v yQ
 |.rw id=>if id=n then .rv id (ew L id 0) (ew L id 1) 0 (ew L id 2) else .rw id
 |.rp id yQ=>if id=n then .aY id (ew L id 0) yQ else .rp id yQ
 |.ao=>.ao
def TD.co(L:Lk)(n:Nat):yL TD->yL TD
 |[]=>[]
 |x::r=>TD.stale L n x::TD.co L n r
end
def ai.stale(L:Lk)(n:Nat):ai->ai
 |.var d st=>.var (d.stale L n) st
 |.row v s st e d=>.row v s st e (d.stale L n)
 |.bJ t np v st e pre d post=>.bJ t np v st e pre (d.stale L n) post
 |e=>e
mutual
theorem qI{L M:Lk}{n:Nat}(h:∀id t,id≠n->Z3 L id t ae=Z3 M id t ae):∀(d:TD),(d.stale L n).er M=d.er L
 |.p _=>rfl
 |.elem _=>rfl
 |.ak _ _=>rfl
 |.own id nn t c=>by
  rw[TD.stale];split
  .rfl
  .rename_i hn
   cases c with
   |none=>rw[TD.er,TD.er,h id t hn]
   |some _=>rfl
 |.view _ _ _ _ _=>rfl
 |.agg xs=>by rw[TD.stale,TD.er,TD.er,bT h xs]
 |.arr _ _ xs=>by rw[TD.stale,TD.er,TD.er,bT h xs]
 |.fn _ xs=>by rw[TD.stale,TD.er,TD.er,bT h xs]
 |.iface _ x=>by rw[TD.stale,TD.er,TD.er,qI h x]
 |.bj xs=>by rw[TD.stale,TD.er,TD.er,bT h xs]
 |.mp _=>rfl
 |.rv _ _ _ _ _=>rfl
 |.aY _ _ _=>rfl
 |.rw id=>by
  rw[TD.stale];split
  .rfl
  .rename_i hn
   simp only[TD.er,ew,h id _ hn]
 |.rp id _=>by
  rw[TD.stale];split
  .rfl
  .rename_i hn
   simp only[TD.er,ew,h id _ hn]
 |.ao=>rfl
theorem bT{L M:Lk}{n:Nat}(h:∀id t,id≠n->Z3 L id t ae=Z3 M id t ae):∀(ds:yL TD),TD.ay M (TD.co L n ds)=TD.ay L ds
 |[]=>rfl
 |x::r=>by rw[TD.co,TD.ay,TD.ay,qI h x,bT h r]
end
theorem qJ{L M:Lk}{n:Nat}(h:∀id t,id≠n->Z3 L id t ae=Z3 M id t ae)(e:ai):(e.stale L n).er M=e.er L:=by
 cases e with
 |var d st=>rw[ai.stale,ai.er,ai.er,qI h]
 |row v s st e d=>rw[ai.stale,ai.er,ai.er,qI h]
 |bJ t np v st e pre d post=>rw[ai.stale,ai.er,ai.er,qI h]
 |_=>rfl
def ai.fc:ai->Bool
 |.log _ _ _=>af
 |.aQ _ _ _ _ _=>af
 |.aO _ _ _ _ _ _ _=>af
 |.bJ _ _ _ _ _ _ _ _=>af
 |_=>ag
theorem CV{e:ai}(h:e.fc=ag):dy (ab e)=ae:=by
 cases e <;> first|rfl|cases h
theorem iU{H:yL ai}{e:ai}(h:e.fc=ag):lk (H++[e])=lk H:=by
 funext id;unfold lk;rcases Nat.lt_trichotomy id H.length with hl|hl|hl
 .rw[yai hl]
 .subst hl;rw[List.getElem?_concat_length,CV h,yan (ym _)];rfl
 .rw[yan (by simp;omega),yan (by omega)]
theorem X8{H:yL ai}{id:Nat}{e x:ai}(hx:H[id]? =ab x)(h1:x.fc=ag)(h2:e.fc=ag):lk (H.set id e)=lk H:=by
 funext j;unfold lk;by_cases hj:id=j
 .subst hj;rw[aj hx,hx,CV h1,CV h2]
 .rw[aF hj]
theorem kC{H:yL ai}{e:ai}(h:lk (H++[e])=lk H):aB (H++[e])=aB H++[e.er (lk H)]:=by
 unfold aB;rw[h,yal];rfl
theorem YF{H:yL ai}{id:Nat}{e:ai}(h:lk (H.set id e)=lk H):aB (H.set id e)=(aB H).set id (e.er (lk H)):=by
 unfold aB;rw[h,ybi]
theorem uD{H:yL ai}{T:Ty}{e:yc}(id:Nat)(t:Ty):Z3 (lk H) id t ae=Z3 (lk (H++[.log T e []])) id t ae:=by
 unfold Z3 lk;dsimp only;rcases Nat.lt_trichotomy id H.length with hl|hl|hl
 .rw[yai hl]
 .subst hl;rw[List.getElem?_concat_length,yan (ym _)];show[]=(Ty.br T t []).getD []
  cases h:Ty.br T t [] with
  |none=>rfl
  |some y=>
   obtain⟨e,h2⟩:=ZC h;subst e;subst h2;rfl
 .rw[yan (by omega),yan (by simp;omega)]
theorem CW{H:yL ai}{T:Ty}{e:yc}:aB (H++[.log T e []])=aB H++[.log T.size e []]:=by
 unfold aB;rw[yal];congr 1;exact ycl λx _=>(ZJy (λid t=>uD id t) x).symm
theorem kD{H:yL ai}{e:ai}(id:Nat)(t:Ty)(h:id≠H.length):Z3 (lk H) id t ae=Z3 (lk (H++[e])) id t ae:=by
 unfold Z3 lk;dsimp only;rcases Nat.lt_or_gt_of_ne h with hl|hl
 .rw[yai hl]
 .rw[yan (by omega),yan (by simp;omega)]
theorem ZGq{H:yL ai}{T:Ty}{e:yc}{l:yL T.aN}(h:H.all (ai.free H.length)=af):aB (H++[.log T e l])=aB H++[.log T.size e (l.map T.enc)]:=by
 unfold aB;rw[yal];congr 1;refine ycl λx hx=> ?_
 cases x with
 |var d st=>
  rw[ai.er,ai.er];congr 1
  exact(iT (λid t hn=>kD id t hn) d (ybc.1 h _ hx)).symm
 |row v s st e d=>
  rw[ai.er,ai.er];congr 1
  exact(iT (λid t hn=>kD id t hn) d (ybc.1 h _ hx)).symm
 |bJ t np v st e pre d post=>
  rw[ai.er,ai.er,iT (λid t hn=>kD id t hn) d (ybc.1 h _ hx)]
 |_=>rfl
theorem Vk{H:yL ai}{n:Nat}{e:ai}(L:Lk)(id:Nat)(t:Ty)(h:id≠n):Z3 (lk H) id t ae=Z3 (lk ((H.map (ai.stale L n)).set n e)) id t ae:=by
 have h1:lk ((H.map (ai.stale L n)).set n e) id=lk H id:=by
  unfold lk;rw[aF (Ne.symm h),yaj]
  cases H[id]? with
  |none=>rfl
  |some x=>cases x <;> rfl
 unfold Z3;rw[h1]
theorem ZJz{H:yL ai}{n:Nat}{T:Ty}{e:yc}{l:yL T.aN}:aB ((H.map (ai.stale (lk H) n)).set n (.log T e l))=(aB H).set n (.log T.size e (l.map T.enc)):=by
 unfold aB;rw[ybi,yaq];congr 1;refine ycl λx hx=> ?_;exact qJ (λid t hn=>Vk (lk H) id t hn) x
def TP.isV:TP->yO (Σ t:Ty,t.aN)
 |.v t x=>ab ⟨t,x⟩
 |_=>ae
def TP.mP:TP->Nat->TP->yO TP
 |.v (.st fs) x,i,z=>match z.isV with
  |some q=>(Ty.upd fs x i q.1 q.2).map (.v (.st fs))
  |none=>ab (.agg ((Ty.eP fs x).set i z))
 |.agg l,i,z=>ab (.agg (l.set i z))
 |_,_,_=>ae
theorem ZMr{x y z:TP}{i:Nat}(h:x.mP i z=ab y):∀xs,x.pe=.agg xs->y.pe=.agg (xs.set i z.pe):=by
 cases x with
 |v u a=>
  cases u with
  |st fs=>
   intro xs hx;have hx':Pl.agg (Ty.encs fs a)=.agg xs:=hx;injection hx' with hx';subst hx';simp only[TP.mP]at h;split at h
   .rename_i q hq;obtain⟨x',h1,rfl⟩:=Zb h
    have hz:z=.v q.1 q.2:=by
     unfold TP.isV at hq;split at hq
     .cases hq;rfl
     .cases hq
    show Pl.agg (Ty.encs fs x')=_;rw[UJ fs a i q.1 q.2 x' h1,hz];rfl
   .cases h;show Pl.agg (TP.cg ((Ty.eP fs a).set i z))=_;rw[WB,ybi, <-WB]
    exact congrArg (λl=>Pl.agg (l.set i z.pe)) (uh fs a)
  |_=>cases h
 |agg l=>
  intro xs hx;cases h;rw[TP.pe]at hx;injection hx with hx;subst hx
  rw[TP.pe,WB,WB,ybi]
 |_=>cases h
def ZP7(x:Pl)(i o:Nat):Bool:=
 match x with
 |.agg xs=>o==Pl.sizes (xs.take i)
 |_=>ag
def ZNS(x:TP)(i:Nat):TD->yO TD
 |.p y=>(x.mP i y).map .p
 |d=>x.parts.map λl=>.agg ((l.map .p).set i d)
def CX(a:mM)(i:Nat):TD->yO TD
 |.p z=>(TP.to iQ z a.t).map λy'=>.p (.v (.arr a.n a.t) (a.l.set i y'))
 |d=>ab (.arr a.n a.t.size ((a.l.map λy=>TD.p (.v a.t y)).set i d))
theorem qK{L:Lk}(l:yL TP):TD.ay L (l.map .p)=(TP.cg l).map .p:=by
 rw[Zz,WB,yaq,yaq];rfl
def ZNT(n s:Nat)(xs:yL TP)(i:Nat):TD->yO TD
 |.p _=>ae
 |d=>ab (.arr n s ((xs.map .p).set i d))
abbrev Kg(O:Type):=TD->yL al->(TD->yO TD)->yO O
def eQ{O:Type}(L:Lk):yL ca->TD->Kg O->yO O
 |[],d,K=>K d [] ab
 |.fV i o::r,.p x,K=>(x.fV i).bind λz=>if ZP7 x.pe i o=af then eQ L r (.p z) λsub hs put=>K sub hs λnew=>(put new).bind λd=>ZNS x i d else ae
 |.ix i s::r,.p (.arr n s' xs),K=>(xs[i]?).bind λz=>if s=s' then eQ L r (.p z) λsub hs put=>K sub (.el z.pe::hs) λnew=>(put new).bind λd=>ZNT n s' xs i d else ae
 |.ix i s::r,.p x,K=>x.dF.bind λa=>if s=a.t.size then(a.l[i]?).bind λy=>eQ L r (.p (.v a.t y)) λsub hs put=>K sub (.el (a.t.enc y)::hs) λnew=>
   (put new).bind λd=>CX a i d else ae
 |.fV i o::r,.agg ds,K=>(ds[i]?).bind λz=>if o=Dv.sizes ((TD.ay L ds).take i) then eQ L r z λsub hs put=>K sub hs λnew=>(put new).map λy=>.agg (ds.set i y) else ae
 |.ix i s::r,.arr n s' ds,K=>(ds[i]?).bind λz=>if s=s' then eQ L r z λsub hs put=>K sub hs λnew=>(put new).map λy=>.arr n s' (ds.set i y) else ae
 |_,_,_=>ae
def QW:yL ca->Nat
 |[]=>0
 |q::r=>q.o+QW r
theorem XC(l:yL ca):XZ l=QW l:=by
 have:∀(l:yL ca)(n:Nat),l.foldl (λn q=>n+q.o) n=n+QW l:=by
  intro l
  induction l with
  |nil=>intro n;rfl
  |cons q r ih=>intro n;rw[List.foldl_cons,ih,QW];omega
 rw[XZ,this];omega
theorem Xf{O:Type}{L:Lk}:∀(yQ:yL ca)(d:TD)(K:Kg O)(out:O),eQ L yQ d K=ab out->
 ∃sub hs put C,K sub hs put=ab out/\bc C/\(∀yK,Yf (d.er L) (yQ.map ca.i) (hs++yK)=ab (C,QW yQ,sub.er L,yK))/\
  ∀new d',put new=ab d'->∀yK,XW (new.er L) (d.er L) (yQ.map ca.i) (hs++yK)=ab (d'.er L)
 |[],d,K,out,h=>⟨d,[],ab,[],h,zP,λ_=>rfl,λnew d' h _=>by cases h;rfl⟩
 |q::r,d,K,out,h=>by
  cases q with
  |fV i o=>
   cases d with
   |p x=>
    simp only[eQ]at h;obtain⟨z,h1,h⟩:=yf.1 h;obtain⟨h2,h⟩:=Za h;obtain⟨sub,hs,put,C,k1,k2,k3,k4⟩:=Xf r (.p z) _ out h;obtain⟨xs,e1,e2⟩:=UQ h1
    have h3:o=Pl.sizes (xs.take i):=by
     unfold ZP7 at h2;rw[e1]at h2;simpa using h2
    refine⟨sub,hs,_,C,k1,k2,λyK=> ?_,λnew d' hp yK=> ?_⟩
    .rw[TD.er,e1];show Yf (.p (.agg xs)) (i::r.map ca.i) (hs++yK)=_;unfold Yf;rw[e2];dsimp only;have:=k3 yK;rw[TD.er]at this;rw[this,yab,QW,h3];rfl
    .obtain⟨d1,p1,hp⟩:=yf.1 hp;have:=k4 new d1 p1 yK;unfold ZNS at hp;rw[TD.er]at this;rw[TD.er,e1];show XW (new.er L) (.p (.agg xs)) (i::r.map ca.i) (hs++yK)=_;unfold XW;rw[e2];dsimp only;rw[this];split at hp
     .obtain⟨x',p3,rfl⟩:=Zb hp;rw[TD.er,TD.er,ZMr p3 xs e1]
     .rename_i hne;obtain⟨l,p3,rfl⟩:=Zb hp
      have e3:TP.cg l=xs:=by
       have:=AS p3;rw[e1]at this;injection this with this;exact this.symm
      rw[TD.er,Zz,ybi, <-Zz,qK,e3]
      cases d1 <;> first|rfl|exact absurd rfl (hne _)
   |agg ds=>
    simp only[eQ]at h;obtain⟨z,h1,h⟩:=yf.1 h;split at h
    .rename_i h2;obtain⟨sub,hs,put,C,k1,k2,k3,k4⟩:=Xf r z _ out h;refine⟨sub,hs,_,C,k1,k2,λyK=> ?_,λnew d' hp yK=> ?_⟩
     .rw[TD.er];show Yf (.agg (TD.ay L ds)) (i::r.map ca.i) (hs++yK)=_;unfold Yf;rw[Vt h1];dsimp only;rw[k3 yK,yab,QW,h2];rfl
     .obtain⟨y,p1,rfl⟩:=Zb hp;rw[TD.er];show XW (new.er L) (.agg (TD.ay L ds)) (i::r.map ca.i) (hs++yK)=_;unfold XW;rw[Vt h1];dsimp only;rw[k4 new y p1 yK,yab,TD.er,Zz,Zz,ybi]
    .cases h
   |_=>cases h
  |ix i s=>
   cases d with
   |p x=>
    by_cases hx:∃n s' xs,x=.arr n s' xs
    .obtain⟨n,s',xs,rfl⟩:=hx;simp only[eQ]at h;obtain⟨z,h1,h⟩:=yf.1 h;split at h
     .rename_i h2;obtain⟨sub,hs,put,C,k1,k2,k3,k4⟩:=Xf r (.p z) _ out h;have hz:(TP.cg xs)[i]? =ab z.pe:=by rw[WB,yaj,h1];rfl
      refine⟨sub,_,_,((TP.cg xs)[i]? =ab z.pe)::C,k1,⟨hz,k2⟩,λyK=> ?_,λnew d' hp yK=> ?_⟩
      .rw[TD.er,TP.pe];show Yf (.p (.arr n s' (TP.cg xs))) (i::r.map ca.i) (_::(hs++yK))=_;unfold Yf;dsimp only;have:=k3 yK;rw[TD.er]at this;rw[this,yab,QW, <-h2];rfl
      .obtain⟨d1,p1,hp⟩:=yf.1 hp;have:=k4 new d1 p1 yK;rw[TD.er]at this;rw[TD.er,TP.pe];show XW (new.er L) (.p (.arr n s' (TP.cg xs))) (i::r.map ca.i) (_::(hs++yK))=_;unfold XW;dsimp only;rw[this];by_cases hd:∃y,d1=.p y
       .obtain⟨y,rfl⟩:=hd;cases hp
       .have e:ZNT n s' xs i d1=ab (.arr n s' ((xs.map .p).set i d1)):=by cases d1 <;> first|rfl|exact absurd ⟨_,rfl⟩ hd
        rw[e]at hp;cases hp;rw[TD.er,Zz,ybi, <-Zz,qK];cases d1 <;> first|rfl|exact absurd ⟨_,rfl⟩ hd
     .cases h
    have hg:eQ L (.ix i s::r) (.p x) K=x.dF.bind λa=>if s=a.t.size then(a.l[i]?).bind λy=>eQ L r (.p (.v a.t y)) λsub hs put=>K sub (.el (a.t.enc y)::hs) λnew=>(put new).bind λd=>CX a i d else ae:=by
     cases x <;> first|rfl|exact absurd ⟨_,_,_,rfl⟩ hx
    rw[hg]at h;obtain⟨a,h1,h⟩:=yf.1 h;split at h
    .rename_i hs0;obtain⟨y,h2,h⟩:=yf.1 h;obtain⟨sub,hs,put,C,k1,k2,k3,k4⟩:=Xf r (.p (.v a.t y)) _ out h;refine⟨sub,_,_,((a.l.map a.t.enc)[i]? =ab (a.t.enc y))::C,k1,⟨qu h2,k2⟩,λyK=> ?_,λnew d' hp yK=> ?_⟩
     .rw[TD.er,WY h1];show Yf (.p (.arr a.n a.t.size _)) (i::r.map ca.i) (_::(hs++yK))=_;unfold Yf;dsimp only;have:=k3 yK;rw[TD.er,TP.pe]at this;rw[this,yab,QW,hs0];rfl
     .obtain⟨d1,p1,hp⟩:=yf.1 hp;have:=k4 new d1 p1 yK;unfold CX at hp;rw[TD.er,TP.pe]at this;rw[TD.er,WY h1];show XW (new.er L) (.p (.arr a.n a.t.size _)) (i::r.map ca.i) (_::(hs++yK))=_;unfold XW;dsimp only;rw[this];split at hp
      .rename_i z;obtain⟨y',p3,rfl⟩:=Zb hp;rw[TD.er];dsimp only;rw[kz z a.t y' p3, <-ybi];rfl
      .rename_i hne;cases hp;rw[TD.er,Zz,ybi,yaq,yaq];cases d1 <;> first|rfl|exact absurd rfl (hne _)
    .cases h
   |arr n s' ds=>
    simp only[eQ]at h;obtain⟨z,h1,h⟩:=yf.1 h;split at h
    .rename_i h2;obtain⟨sub,hs,put,C,k1,k2,k3,k4⟩:=Xf r z _ out h;refine⟨sub,hs,_,C,k1,k2,λyK=> ?_,λnew d' hp yK=> ?_⟩
     .rw[TD.er];show Yf (.arr n s' (TD.ay L ds)) (i::r.map ca.i) (hs++yK)=_;unfold Yf;rw[Vt h1];dsimp only;rw[k3 yK,yab,QW, <-h2];rfl
     .obtain⟨y,p1,rfl⟩:=Zb hp;rw[TD.er];show XW (new.er L) (.arr n s' (TD.ay L ds)) (i::r.map ca.i) (hs++yK)=_;unfold XW;rw[Vt h1];dsimp only;rw[k4 new y p1 yK,yab,TD.er,Zz,Zz,ybi]
    .cases h
   |_=>cases h
theorem fC{H:yL ai}{id:Nat}{T:Ty}{v:yL Unit}{st:Bool}{e:yc}{l:yL T.aN}(hd:H[id]? =ab (.aQ T v st e l)):(TD.rw id).er (lk H)=.rv id v.length T.size 0 l.length/\
 ∀yQ,(TD.rp id yQ).er (lk H)=.aY id v.length (XZ yQ) (yQ.map ca.i):=by
 have h:Z3 (lk H) id aOC ae=([v,yy T.size (),yy l.length ()]:yL aOD):=by
  unfold Z3 lk;dsimp only;rw[hd];rfl
 refine⟨?_,λyQ=> ?_⟩
 .rw[TD.er];unfold ew;rw[h];show Dv.rv id v.length (yy T.size ()).length 0 (yy l.length ()).length=_;rw[ycs,ycs]
 .rw[TD.er];unfold ew;rw[h];rfl
abbrev Kn(O:Type):=yL TD->TD->yL ai->yL al->Nat->yO O
def qM(P:yg)(o:Oper)(ts:yL TD)(H:yL ai)(d:TD)(hs:yL al):Prop:=
 (∀yK,aX P o (TD.ay (lk H) ts) (hs++yK)=ae)/\∃C,bc C/\∀yK,bD P o (TD.ay (lk H) ts) (aB H) (hs++yK)=ab (C,d.er (lk H),yK)
def iV(P:yg)(o:Oper)(ts:yL TD)(H:yL ai)(d:TD)(H':yL ai)(hs:yL al):Prop:=
 (∀yK,aX P o (TD.ay (lk H) ts) (hs++yK)=ae)/\(∀yK,bD P o (TD.ay (lk H) ts) (aB H) (hs++yK)=ae)/\
   ∃C,bc C/\∀yK,cu P o (TD.ay (lk H) ts) (aB H) (hs++yK)=ab (C,d.er (lk H'),aB H',yK)
theorem dt{a b c d:Prop}(h:c):a\/b\/c\/d:=.inr (.inr (.inl h))
structure Good(P:yg)(o:Oper)(ts all:List TD)(H:List ai)(all':List TD)(d:TD)(H':List ai)(hs:List al)(bF:Nat):Prop where
 same:TD.ay (lk H') all'=TD.ay (lk H) all
 len:all'.length=all.length
 op:(bF=0/\H'=H/\dq (lk H) P o ts d hs)\/(bF=1/\H'=H/\qM P o ts H d hs)\/(bF=2/\iV P o ts H d H' hs)\/(bF=3/\aB H'=aB H/\iV P o ts H d H' hs)
section
variable{P:yg}{o:Oper}{ts all:yL TD}{H:yL ai}{O:Type}{K:Kn O}{out:O}
def mQ(H:yL ai)(id:Nat):yO TD:=
 match H[id]? with
 |some (.var d _)=>ab d
 |_=>ae
theorem qQ{id:Nat}{d:TD}(h:mQ H id=ab d):∃st,H[id]? =ab (.var d st)/\(aB H)[id]? =ab (.var (d.er (lk H)) st):=by
 unfold mQ at h;split at h
 .rename_i d' st hd;cases h;exact⟨st,hd,ZJ hd⟩
 .cases h
def CY(H:yL ai)(id v:Nat):yO TD:=
 match H[id]? with
 |some (.row w _ _ _ d)=>if(w==v)=af then ab d else ae
 |_=>ae
theorem ZCm{id v:Nat}{d:TD}(h:CY H id v=ab d):∃w s st e,H[id]? =ab (.row w s st e d)/\(w==v)=af:=by
 unfold CY at h;split at h
 .rename_i w s st e d' hd;split at h
  .rename_i hw;cases h;exact⟨w,s,st,e,hd,hw⟩
  .cases h
 .cases h
def CZ(P:yg)(t:yc)(all:yL TD)(H:yL ai)(K:Kn O):TD->yO O
 |.ak id yQ=>(mQ H id).bind λd=>eQ (lk H) yQ d λsub hs _=>if gu P t (sub.er (lk H))=af then K all sub H hs 1 else ae
 |.aY id v yQ=>(CY H id v).bind λd=>eQ (lk H) yQ d λsub hs _=>if gu P t (sub.er (lk H))=af then K all sub H hs 1 else ae
 |_=>ae
theorem ZEF{t:yc}{x:yn}{xd:TD}(ho:o.op=.load t x)(hx:aW P ts 0 x=ab xd)(h:CZ P t all H K xd=ab out):∃a d H' hs c,K a d H' hs c=ab out/\Good P o ts all H a d H' hs c:=by
 have hv:=Zq (L:=lk H) hx;unfold CZ at h;split at h
 .rename_i id yQ;obtain⟨d,h1,h⟩:=yf.1 h;obtain⟨st,h2,h3⟩:=qQ h1;obtain⟨sub,hs,put,C,k1,k2,k3,_⟩:=Xf _ _ _ _ h;obtain⟨k4,k5⟩:=Za k1;refine⟨_,_,_,_,_,k5,rfl,rfl,.inr (.inl ⟨rfl,rfl,λyK=> ?_,C++[QW yQ=XZ yQ],Zk.2 ⟨k2,(XC _).symm,au⟩,λyK=> ?_⟩)⟩
  .unfold aX;rw[ho];dsimp only;rw[hv];rfl
  .unfold bD;rw[ho];dsimp only;rw[hv];dsimp only[TD.er];rw[h3];dsimp only;rw[k3 yK];dsimp only;rw[yW k4]
 .rename_i id v yQ;obtain⟨d,h1,h⟩:=yf.1 h;obtain⟨w,s,st,e,h2,h3⟩:=ZCm h1;obtain⟨sub,hs,put,C,k1,k2,k3,_⟩:=Xf _ _ _ _ h;obtain⟨k4,k5⟩:=Za k1;refine⟨_,_,_,_,_,k5,rfl,rfl,.inr (.inl ⟨rfl,rfl,λyK=> ?_,C++[QW yQ=XZ yQ],Zk.2 ⟨k2,(XC _).symm,au⟩,λyK=> ?_⟩)⟩
  .unfold aX;rw[ho];dsimp only;rw[hv];rfl
  .unfold bD;rw[ho];dsimp only;rw[hv];dsimp only[TD.er];rw[ZJ h2];dsimp only[ai.er];rw[k3 yK];dsimp only;rw[yW (by rw[yi];exact⟨k4,h3⟩)]
 .cases h
def DA(P:yg)(t:yc)(lo hi:yO Int)(all:yL TD)(H:yL ai)(K:Kn O):TD->yO O
 |.rv id v s l0 n=>match P.underlying t,H[id]? with
  |some (.slice e),ab (.row w s' _ _ d)=>hi.bind λh=>(aO (d.er (lk H)) s').bind λN=>if(P.cellsOf e=s&&(P.info? e).isSome&&w==v&&s'==s&&s' !=0)=af then
    if(ah (0<=lo.getD 0)&&ah (lo.getD 0<=h)&&ah (l0+h.toNat<=N))=af then K all (.rv id v s (l0+(lo.getD 0).toNat) (h.toNat - (lo.getD 0).toNat)) H [.raw] 1 else ae else ae
  |_,_=>ae
 |_=>ae
theorem ZCn{t:yc}{x:yn}{lo hi:yO yn}{l h':yO Int}{xd:TD}(ho:o.op=.slice t x lo hi ae)(hx:aW P ts t x=ab xd)(hl:fg P ts lo=ab l)(hh:fg P ts hi=ab h')(h:DA P t l h' all H K xd=ab out):
 ∃a d H' hs c,K a d H' hs c=ab out/\Good P o ts all H a d H' hs c:=by
 have hv:=Zq (L:=lk H) hx;have hl:=iR (L:=lk H) hl;have hh:=iR (L:=lk H) hh;unfold DA at h;split at h
 .rename_i id v s l0 n;split at h
  .rename_i e w s' st e' d hu hd;obtain⟨h2,q1,g1⟩:=yf.1 h;obtain⟨N,q2,g2⟩:=yf.1 g1;obtain⟨h3,g3⟩:=Za g2;obtain⟨h4,g4⟩:=Za g3;clear h g1 g2 g3;simp only[yi,yP]at h4;subst q1;refine⟨_,_,_,_,_,g4,rfl,rfl,.inr (.inl ⟨rfl,rfl,λyK=> ?_,[0<=l.getD 0,l.getD 0<=h2,l0+h2.toNat<=N],⟨h4.1.1,h4.1.2,h4.2,au⟩,λyK=> ?_⟩)⟩
   .unfold aX;rw[ho];dsimp only;rw[hu,hv,hl,hh];rfl
   .unfold bD;rw[ho];dsimp only;rw[hu,hv,hl,hh];dsimp only[TD.er];rw[yaa,yv];dsimp only;rw[ZJ hd];dsimp only[ai.er];rw[q2];dsimp only;rw[yW h3]
  .cases h
 .cases h
def kE{α β:Type}(o:yO α)(f:α->yO β)(g:yO β):yO β:=
 match o with
 |some a=>f a
 |none=>g
def jH(P:yg)(kt:yc)(k:Ty):Bool:=gX P kt&&(k.flat&&lu P 20 kt k)
structure qR where
 tid:yc
 k:Ty
 v:Ty
 l:List (k.aN×v.aN)
def mR(H:yL ai)(id:Nat):yO qR:=
 match H[id]? with
 |some (.map tid k v l)=>ab ⟨tid,k,v,l⟩
 |_=>ae
theorem oj{id:Nat}{m:qR}(h:mR H id=ab m):H[id]? =ab (.map m.tid m.k m.v m.l)/\(aB H)[id]? =ab (.map m.tid (dZ m.k.enc m.v.enc m.l)):=by
 unfold mR at h;split at h
 .rename_i hd;cases h;exact⟨hd,ZJ hd⟩
 .cases h
def qS(x:TD)(k:Ty):yO k.aN:=x.inner.bind λy=>TP.to fl y k
theorem re{L:Lk}{x:TD}{k:Ty}{y:k.aN}(h:qS x k=ab y):x.er L=.p (k.enc y):=by
 obtain⟨p,h1,h2⟩:=yf.1 h;rw[YQ h1,TD.er,oe p k y h2]
theorem rf{kt:yc}{k:Ty}(h:jH P kt k=af):∀x y:k.aN,k.enc x=k.enc y↔x=y:=by
 simp only[jH,yi]at h;exact λx y=>⟨qw k x y h.2.1,λe=>by rw[e]⟩
theorem iW{kt:yc}{k:Ty}(h:jH P kt k=af):∀x:k.aN,bg P 20 kt (k.enc x):=by
 simp only[jH,yi]at h;exact qy 20 kt k h.2.2
theorem ol{kt:yc}{k:Ty}(h:jH P kt k=af):gX P kt=af:=by
 simp only[jH,yi]at h;exact h.1
def lx(P:yg)(t:yc):yO TP:=
 match YP P t with
 |.p z=>up P t z
 |_=>ae
theorem om{t:yc}{z:TP}(h:lx P t=ab z):YP P t=.p z.pe:=by
 unfold lx at h;split at h
 .rename_i y hy;rw[hy,BB h]
 .cases h
def DB(ok:Bool)(d:TD)(b:Bool):TD:=if ok then .bj [d,.p (.v .bool b)] else d
def DC(P:yg)(t:yc)(all:yL TD)(H:yL ai)(ok:Bool)(K:Kn O)(kd:yc->yO TD):TD->yO O
 |.mp id=>match P.underlying t with
  |some (.map kt et)=>(mR H id).bind λm=>(kd kt).bind λx=>(qS x m.k).bind λkey=>(lx P et).bind λz=>
   if(jH P kt m.k&&nL P et)=af then
    kE (@fU m.k.aN m.v.aN (Ty.dU m.k) m.l key) (λy=>K all (DB ok (.p (.v m.v y)) af) H [.el (m.v.enc y)] 1) (K all (DB ok (.p z) ag) H [.raw] 1)
   else ae
  |_=>ae
 |_=>ae
theorem Zyf{L:Lk}{ok:Bool}{d:TD}{b:Bool}:(DB ok d b).er L=if ok then .bj [d.er L,.p (.bool b)] else d.er L:=by
 cases ok <;> rfl
theorem ZzA{t:yc}{x ix:yn}{ok:Bool}{xd:TD}(ho:o.op=.lookup t x ix ok)(hx:aW P ts t x=ab xd)(h:DC P t all H ok K (λkt=>aW P ts kt ix) xd=ab out):
 ∃a d H' hs c,K a d H' hs c=ab out/\Good P o ts all H a d H' hs c:=by
 have hv:=Zq (L:=lk H) hx;unfold DC at h;split at h
 .rename_i id;split at h
  .rename_i kt et hu;obtain⟨m,h1,h⟩:=yf.1 h;obtain⟨kd,h2,h⟩:=yf.1 h;obtain⟨key,h3,h⟩:=yf.1 h;obtain⟨z,h4,h⟩:=yf.1 h;obtain⟨h5,h⟩:=Za h;rw[yi]at h5;obtain⟨e1,e2⟩:=oj h1;have hk:=Zq (L:=lk H) h2;rw[re h3]at hk
   have nN:∀hs,aX P o (TD.ay (lk H) ts) hs=ae:=λhs=>by
    unfold aX;rw[ho]
   letI:=Ty.dU m.k
   unfold kE at h;split at h
   .rename_i y hy
    refine⟨_,_,_,_,_,h,rfl,rfl,.inr (.inl ⟨rfl,rfl,λ_=>nN _,[bg P 20 kt (m.k.enc key),Q7 P kt (dZ m.k.enc m.v.enc m.l),WN (dZ m.k.enc m.v.enc m.l) (m.k.enc key) (ab (m.v.enc y))],
     ⟨iW h5.1 key,qi (iW h5.1) _,@ZEo _ _ (Ty.dU m.k) _ _ (rf h5.1) _ _ _ hy,au⟩,λyK=> ?_⟩)⟩
    unfold bD;rw[ho];dsimp only;rw[hu,hv];dsimp only[TD.er];rw[hk,e2]
    try dsimp only
    rw[yaa,yv]
    try dsimp only
    rw[yW (ol h5.1),Zyf];rfl
   .rename_i hy
    refine⟨_,_,_,_,_,h,rfl,rfl,.inr (.inl ⟨rfl,rfl,λ_=>nN _,[bg P 20 kt (m.k.enc key),Q7 P kt (dZ m.k.enc m.v.enc m.l),WN (dZ m.k.enc m.v.enc m.l) (m.k.enc key) ae],
     ⟨iW h5.1 key,qi (iW h5.1) _,@ZEp _ _ (Ty.dU m.k) _ _ (rf h5.1) _ _ (by rw[hy];rfl),au⟩,λyK=> ?_⟩)⟩
    unfold bD;rw[ho];dsimp only;rw[hu,hv];dsimp only[TD.er];rw[hk,e2]
    try dsimp only
    rw[yaa,yv]
    try dsimp only
    rw[yW (by rw[ol h5.1,h5.2];rfl),Zyf,om h4];rfl
  .cases h
 .cases h
def DD(P:yg)(t:yc)(all:yL TD)(H:yL ai)(K:Kn O):TD->yO O
 |.mp id=>match P.underlying t with
  |some (.map _ _)=>(mR H id).bind λm=>K all (.p (.v (.int .i64) (m.l.length:Int))) H [] 1
  |_=>ae
 |_=>ae
theorem ZzC{t:yc}{x:yn}{c:Call}{xd:TD}(ho:o.op=.call c)(hc:c.callee=.builtin .len)(ha:c.args.toList=[x])(ht:c.argTypes.toList=[t])(hx:aW P ts t x=ab xd)(h:DD P t all H K xd=ab out):
 ∃a d H' hs c,K a d H' hs c=ab out/\Good P o ts all H a d H' hs c:=by
 have hv:=Zq (L:=lk H) hx;unfold DD at h;split at h
 .rename_i id;split at h
  .rename_i kt et hu;obtain⟨m,h1,h⟩:=yf.1 h;obtain⟨e1,e2⟩:=oj h1;refine⟨_,_,_,_,_,h,rfl,rfl,.inr (.inl ⟨rfl,rfl,λyK=> ?_,[],zP,λyK=> ?_⟩)⟩
   .unfold aX;rw[ho];dsimp only;rw[hc];dsimp only;rw[ha,ht];dsimp only;rw[hu,hv]
   .unfold bD;rw[ho];dsimp only;rw[hc];dsimp only;rw[ha,ht];dsimp only;rw[hu,hv];dsimp only[TD.er];rw[e2];simp[TP.pe,Ty.enc,dZ]
  .cases h
 .cases h
theorem mS{e:ai}(h:e.fc=ag):TD.ay (lk (H++[e])) all=TD.ay (lk H) all:=by rw[iU h]
theorem ZCp{T:Ty}{e:yc}:TD.ay (lk (H++[.log T e []])) all=TD.ay (lk H) all:=(cm (λid t=>uD id t) all).symm
theorem mT{e:ai}(h:TD.frees H.length all=af):TD.ay (lk (H++[e])) all=TD.ay (lk H) all:=(cB (λid t hn=>kD id t hn) all h).symm
theorem mU{T:Ty}{e:yc}{l:yL T.aN}:Z3 (lk (H++[.log T e l])) H.length T ae=l:=by
 unfold Z3 lk;dsimp only;rw[List.getElem?_concat_length];show(Ty.br T T l).getD []=l;unfold Ty.br;split
 .rfl
 .rename_i h _;exact absurd rfl h
def DE(P:yg)(t:yc)(dst:Tmp)(all:yL TD)(H:yL ai)(K:Kn O):TD->yO O
 |.p (.sl (ab ag) T [])=>match P.underlying t with
  |some (.slice e)=>(P.info? e).bind λi=>if(cf i&&i.size !=0&&ah (i.size=T.size))=af then K all (.own H.length ae T ae) (H++[.log T e []]) [.fresh dst] 2 else ae
  |_=>ae
 |_=>ae
theorem ZCq{x:yn}{dst:Tmp}{xd:TD}(ho:o.op=.assign x)(hd:o.dst=ab dst)(hx:aW P ts o.type x=ab xd)(h:DE P o.type dst all H K xd=ab out):
 ∃a d H' hs c,K a d H' hs c=ab out/\Good P o ts all H a d H' hs c:=by
 have hv:=Zq (L:=lk H) hx;unfold DE at h;split at h
 .rename_i T;split at h
  .rename_i e hu;obtain⟨i,h1,h⟩:=yf.1 h;obtain⟨h2,h⟩:=Za h;simp only[yi,yP]at h2;refine⟨_,_,_,_,_,h,ZCp,rfl,dt (⟨rfl,λyK=> ?_,λyK=> ?_,[],zP,λyK=> ?_⟩)⟩
   .unfold aX;rw[ho];rfl
   .unfold bD;rw[ho]
   .unfold cu;rw[ho];dsimp only;rw[yaa,yv];dsimp only;rw[yW hd,hu,hv,show(TD.p (TP.sl (ab ag) T [])).er (lk H)=Dv.p (.sl (ab ag) T.size []) from rfl]
    dsimp only;rw[h1];dsimp only;rw[yW (by simpa using h2.1),CW,ZB,TD.er,mU,h2.2];rfl
  .cases h
 .cases h
def DF(P:yg)(t:yc)(all:yL TD)(H:yL ai)(K:Kn O):yO O:=
 match P.underlying t with
 |some (.map kt et)=>(fJ P gj kt).bind λk=>(fJ P gj et).bind λv=>K all (.mp H.length) (H++[.map t k v []]) [] 2
 |_=>ae
theorem ZwP{t:yc}(ho:o.op=.makeMap t ae)(h:DF P t all H K=ab out):∃a d H' hs c,K a d H' hs c=ab out/\Good P o ts all H a d H' hs c:=by
 unfold DF at h;split at h
 .rename_i kt et hu;obtain⟨k,h1,h⟩:=yf.1 h;obtain⟨v,h2,h⟩:=yf.1 h;refine⟨_,_,_,_,_,h,mS rfl,rfl,dt (⟨rfl,λyK=> ?_,λyK=> ?_,[],zP,λyK=> ?_⟩)⟩
  .unfold aX;rw[ho]
  .unfold bD;rw[ho]
  .unfold cu;rw[ho];dsimp only;rw[kC (iU rfl),ZB];rfl
 .cases h
def iX(n:Int)(b:Nat):Bool:=ah (0<=n)&&lm n.toNat b
def DG(P:yg)(t:yc)(own row:Bool)(n n':Int)(all:yL TD)(H:yL ai)(K:Kn O):yO O:=
 match P.underlying t with
 |some (.slice e)=>(P.info? e).bind λi=>(fJ P gj e).bind λT=>
  if row then
   if(cf i&&i.size !=0&&ah (i.size=T.size))=af then if(ah (n=0)&&iX n' i.bytes)=af then K all (.rv H.length 0 i.size 0 0) (H++[.row 0 i.size af e (.p (.v (.arr 0 T) []))]) [.arr] 2 else ae else ae
  else if own then
   if(cf i&&i.size !=0&&ah (i.size=T.size))=af then if(ah (n=0)&&iX n' i.bytes)=af then K all (.own H.length (ab af) T ae) (H++[.log T e []]) [.own] 2 else ae else ae
  else(lx P e).bind λz=>(TP.to fl z T).bind λy=>
   if(cf i&&ah (i.size=1)&&z.pe.size==1&& !z.pe.isAgg&&ah (T.size=1))=af then if(ah (n'=n)&&iX n i.bytes)=af then
    K all (.view H.length [] 1 0 n.toNat) (H++[.var (.p (.v (.arr n.toNat T) (yy n.toNat y))) af]) [.raw] 2 else ae else ae
 |_=>ae
theorem ZsC{t:yc}{l c:yn}{n n':Num}{own row:Bool}(ho:o.op=.makeSlice t l c)(hl:(aW P ts 0 l).bind TD.num=ab n)(hc:(aW P ts 0 c).bind TD.num=ab n')(hk:n.k=.i64)(hk':n'.k=.i64)
 (h:DG P t own row n.n n'.n all H K=ab out):∃a d H' hs c,K a d H' hs c=ab out/\Good P o ts all H a d H' hs c:=by
 obtain⟨ld,l1,l2⟩:=yf.1 hl;obtain⟨cd,c1,c2⟩:=yf.1 hc;have hv:=Zq (L:=lk H) l1;have hw:=Zq (L:=lk H) c1;rw[V7 l2,hk]at hv;rw[V7 c2,hk']at hw;unfold DG at h;have nN:∀hs,aX P o (TD.ay (lk H) ts) hs=ae:=λhs=>by unfold aX;rw[ho]
 have nR:∀hs,bD P o (TD.ay (lk H) ts) (aB H) hs=ae:=λhs=>by unfold bD;rw[ho]
 split at h
 .rename_i e hu;obtain⟨i,h1,h⟩:=yf.1 h;obtain⟨T,h2,h⟩:=yf.1 h;split at h
  .obtain⟨h3,h⟩:=Za h;obtain⟨h4,h⟩:=Za h;simp only[yi,yP]at h3;simp only[iX,yi,yP]at h4;obtain⟨g1,g2⟩:=Qz h4.2.2;refine⟨_,_,_,_,_,h,mS rfl,rfl,dt (⟨rfl,λyK=>nN _,λyK=>nR _,[n.n=0,0<=n'.n,n'.n.toNat*i.bytes<=Zr,n'.n.toNat<=maxLen],⟨h4.1,h4.2.1,g1,g2,au⟩,λyK=> ?_⟩)⟩;unfold cu;rw[ho];dsimp only;rw[hu,hv,hw];dsimp only;rw[h1,yaa,yv];dsimp only;rw[yW (by simpa using h3.1),kC (iU rfl),ZB];simp only[ai.er,TD.er,TP.pe,AT,h3.2];rfl
  split at h
  .obtain⟨h3,h⟩:=Za h;obtain⟨h4,h⟩:=Za h;simp only[yi,yP]at h3;simp only[iX,yi,yP]at h4;obtain⟨g1,g2⟩:=Qz h4.2.2;refine⟨_,_,_,_,_,h,ZCp,rfl,dt (⟨rfl,λyK=>nN _,λyK=>nR _,[n.n=0,0<=n'.n,n'.n.toNat*i.bytes<=Zr,n'.n.toNat<=maxLen],⟨h4.1,h4.2.1,g1,g2,au⟩,λyK=> ?_⟩)⟩;unfold cu;rw[ho];dsimp only;rw[hu,hv,hw];dsimp only;rw[h1,yaa,yv];dsimp only;rw[yW (by simpa using h3.1),CW,ZB,TD.er,mU,h3.2];rfl
  .obtain⟨z,z1,h⟩:=yf.1 h;obtain⟨y,z2,h⟩:=yf.1 h;obtain⟨h3,h⟩:=Za h;obtain⟨h4,h⟩:=Za h;simp only[yi,yP,yT]at h3;simp only[iX,yi,yP]at h4;obtain⟨g1,g2⟩:=Qz h4.2.2;refine⟨_,_,_,_,_,h,mS rfl,rfl,dt (⟨rfl,λyK=>nN _,λyK=>nR _,[n'.n=n.n,0<=n.n,n.n.toNat*i.bytes<=Zr,n.n.toNat<=maxLen],⟨h4.1,h4.2.1,g1,g2,au⟩,λyK=> ?_⟩)⟩;unfold cu;rw[ho];dsimp only;rw[hu,hv,hw];dsimp only;rw[h1,yaa,yv];dsimp only;rw[om z1];dsimp only;rw[yW (by simp only[yi,yP];exact h3.1),kC (iU rfl),ZB,oe z T y z2];simp only[ai.er,TD.er,TP.pe,XZ,List.map_nil,List.foldl_nil];congr 5;show _=[ax.var (Dv.p (Pl.arr n.n.toNat T.size (List.map T.enc (yy n.n.toNat y)))) af];rw[List.map_replicate,h3.2]
 .cases h
end
end Go.Ev
end
section
namespace Go.Ev
section
variable{P:yg}{o:Oper}{ts all:yL TD}{H:yL ai}{O:Type}{K:Kn O}{out:O}
theorem QA{id:Nat}{e x:ai}(hx:H[id]? =ab x)(h1:x.fc=ag)(h2:e.fc=ag):TD.ay (lk (H.set id e)) all=TD.ay (lk H) all:=by rw[X8 hx h1 h2]
def oo(P:yg)(t:yc)(all:yL TD)(H:yL ai)(K:Kn O)(kd vd:yc->yO TD):TD->yO O
 |.mp id=>match P.underlying t with
  |some (.map kt et)=>(mR H id).bind λm=>(kd kt).bind λx=>(qS x m.k).bind λkey=>((vd et).bind (TD.flat (lk H))).bind λz=>(TP.to iQ z m.v).bind λy=>
   if jH P kt m.k=af then K all .ao (H.set id (.map m.tid m.k m.v (@gv m.k.aN m.v.aN (Ty.dU m.k) m.l key y))) [.bw (dZ m.k.enc m.v.enc (@gv m.k.aN m.v.aN (Ty.dU m.k) m.l key y))] 2 else ae
  |_=>ae
 |_=>ae
theorem ZzD{t:yc}{x k v:yn}{xd:TD}(ho:o.op=.mapUpdate t x k v)(hx:aW P ts t x=ab xd)(h:oo P t all H K (λkt=>aW P ts kt k) (λet=>aW P ts et v) xd=ab out):
 ∃a d H' hs c,K a d H' hs c=ab out/\Good P o ts all H a d H' hs c:=by
 have hv:=Zq (L:=lk H) hx;unfold oo at h;split at h
 .rename_i id;split at h
  .rename_i kt et hu;obtain⟨m,h1,h⟩:=yf.1 h;obtain⟨kd,h2,h⟩:=yf.1 h;obtain⟨key,h3,h⟩:=yf.1 h;obtain⟨z,h4,h⟩:=yf.1 h;obtain⟨zd,h40,h41⟩:=yf.1 h4;obtain⟨y,h6,h⟩:=yf.1 h;obtain⟨h5,h⟩:=Za h;obtain⟨e1,e2⟩:=oj h1;have hk:=Zq (L:=lk H) h2;rw[re h3]at hk;have hz:=Zq (L:=lk H) h40
   letI:=Ty.dU m.k
   refine⟨_,_,_,_,_,h,QA e1 rfl rfl,rfl,dt (⟨rfl,λyK=> ?_,λyK=> ?_,[bg P 20 kt (m.k.enc key),Q7 P kt (dZ m.k.enc m.v.enc m.l),Qw (dZ m.k.enc m.v.enc m.l) (m.k.enc key) z.pe.soft (dZ m.k.enc m.v.enc (gv m.l key y))],
    ⟨iW h5 key,qi (iW h5) _,by rw[kz z m.v y h6];exact AP (rf h5) _ _ _,au⟩,λyK=> ?_⟩)⟩
   .unfold aX;rw[ho]
   .unfold bD;rw[ho]
   .unfold cu;rw[ho];dsimp only;rw[hu,hv];dsimp only[TD.er];rw[hk,hz,uv h41,e2]
    try dsimp only
    rw[yaa,yv]
    try dsimp only
    rw[yW (ol h5),YF (X8 e1 rfl rfl)];rfl
  .cases h
 .cases h
theorem ZzE{t:yc}{x k v:yn}{xd:TD}(ho:o.op=.insert t x k v)(hx:aW P ts t x=ab xd)(h:oo P t all H K (λkt=>aW P ts kt k) (λet=>aW P ts et v) xd=ab out):
 ∃a d H' hs c,K a d H' hs c=ab out/\Good P o ts all H a d H' hs c:=by
 have hv:=Zq (L:=lk H) hx;unfold oo at h;split at h
 .rename_i id;split at h
  .rename_i kt et hu;obtain⟨m,h1,h⟩:=yf.1 h;obtain⟨kd,h2,h⟩:=yf.1 h;obtain⟨key,h3,h⟩:=yf.1 h;obtain⟨z,h4,h⟩:=yf.1 h;obtain⟨zd,h40,h41⟩:=yf.1 h4;obtain⟨y,h6,h⟩:=yf.1 h;obtain⟨h5,h⟩:=Za h;obtain⟨e1,e2⟩:=oj h1;have hk:=Zq (L:=lk H) h2;rw[re h3]at hk;have hz:=Zq (L:=lk H) h40
   letI:=Ty.dU m.k
   refine⟨_,_,_,_,_,h,QA e1 rfl rfl,rfl,dt (⟨rfl,λyK=> ?_,λyK=> ?_,[bg P 20 kt (m.k.enc key),Q7 P kt (dZ m.k.enc m.v.enc m.l),Qw (dZ m.k.enc m.v.enc m.l) (m.k.enc key) z.pe.soft (dZ m.k.enc m.v.enc (gv m.l key y))],
    ⟨iW h5 key,qi (iW h5) _,by rw[kz z m.v y h6];exact AP (rf h5) _ _ _,au⟩,λyK=> ?_⟩)⟩
   .unfold aX;rw[ho]
   .unfold bD;rw[ho]
   .unfold cu;rw[ho];dsimp only;rw[hu,hv];dsimp only[TD.er];rw[hk,hz,uv h41,e2]
    try dsimp only
    rw[yaa,yv]
    try dsimp only
    rw[yW (ol h5),YF (X8 e1 rfl rfl)];rfl
  .cases h
 .cases h
def DH(P:yg)(t:yc)(all:yL TD)(H:yL ai)(K:Kn O)(kd:yO TD):TD->yO O
 |.mp id=>match P.underlying t with
  |some (.map kt et)=>(mR H id).bind λm=>kd.bind λx=>(qS x m.k).bind λkey=>
   if jH P kt m.k=af then K all (.bj []) (H.set id (.map m.tid m.k m.v (@lj m.k.aN m.v.aN (Ty.dU m.k) m.l key))) [.bw (dZ m.k.enc m.v.enc (@lj m.k.aN m.v.aN (Ty.dU m.k) m.l key))] 2 else ae
  |_=>ae
 |_=>ae
theorem ZzG{t u:yc}{x k:yn}{c:Call}{xd:TD}(ho:o.op=.call c)(hc:c.callee=.builtin .delete)(ha:c.args.toList=[x,k])(ht:c.argTypes.toList=[t,u])(hx:aW P ts t x=ab xd)
 (h:DH P t all H K (aW P ts u k) xd=ab out):∃a d H' hs c,K a d H' hs c=ab out/\Good P o ts all H a d H' hs c:=by
 have hv:=Zq (L:=lk H) hx;unfold DH at h;split at h
 .rename_i id;split at h
  .rename_i kt et hu;obtain⟨m,h1,h⟩:=yf.1 h;obtain⟨kd,h2,h⟩:=yf.1 h;obtain⟨key,h3,h⟩:=yf.1 h;obtain⟨h5,h⟩:=Za h;obtain⟨e1,e2⟩:=oj h1;have hk:=Zq (L:=lk H) h2;rw[re h3]at hk
   letI:=Ty.dU m.k
   refine⟨_,_,_,_,_,h,QA e1 rfl rfl,rfl,dt (⟨rfl,λyK=> ?_,λyK=> ?_,[bg P 20 kt (m.k.enc key),Q7 P kt (dZ m.k.enc m.v.enc m.l),fS (dZ m.k.enc m.v.enc m.l) (m.k.enc key) (dZ m.k.enc m.v.enc (lj m.l key))],
    ⟨iW h5 key,qi (iW h5) _,UE (rf h5) _ _,au⟩,λyK=> ?_⟩)⟩
   .unfold aX;rw[ho];dsimp only;rw[hc]
   .unfold bD;rw[ho];dsimp only;rw[hc]
   .unfold cu;rw[ho];dsimp only;rw[hc];dsimp only;rw[ha,ht];dsimp only;rw[hu,hv];dsimp only[TD.er];rw[hk,e2]
    try dsimp only
    rw[yaa,yv]
    try dsimp only
    rw[yW (ol h5),YF (X8 e1 rfl rfl)];rfl
  .cases h
 .cases h
def TP.iY(x:TP)(T:Ty):Bool:=
 match x with
 |.sl (ab ag) t []=>ah (t.size=T.size)
 |_=>ag
theorem DI{x:TP}{T:Ty}(h:x.iY T=af):x.pe=.sl (ab ag) T.size []:=by
 unfold TP.iY at h;split at h
 .rename_i t;show Pl.sl (ab ag) t.size []=_;rw[yF h]
 .cases h
def iB(T:Ty)(new:TD):yL Nat->TD->yO TD
 |[],.p x=>if x.iY T then ab new else ae
 |i::r,.p x=>x.parts.bind λl=>(l[i]?).bind λz=>(iB T new r (.p z)).map λy=>.agg ((l.map .p).set i y)
 |i::r,.agg ds=>(ds[i]?).bind λz=>(iB T new r z).map λy=>.agg (ds.set i y)
 |_,_=>ae
theorem mV{L:Lk}{T:Ty}{new:TD}:∀(yQ:yL Nat)(d d':TD),iB T new yQ d=ab d'->YW (d.er L) yQ T.size (new.er L)=ab (d'.er L)
 |[],d,d',h=>by
  cases d with
  |p x=>
   simp only[iB]at h;split at h
   .rename_i hn;cases h;rw[TD.er,DI hn];simp[YW]
   .cases h
  |_=>cases h
 |i::r,d,d',h=>by
  cases d with
  |p x=>
   simp only[iB]at h;obtain⟨l,h1,h⟩:=yf.1 h;obtain⟨z,h2,h⟩:=yf.1 h;obtain⟨y,h3,rfl⟩:=Zb h;have:=mV (L:=L) r (.p z) y h3;rw[TD.er,AS h1];unfold YW;rw[show(TP.cg l)[i]? =ab z.pe by rw[WB,yaj,h2];rfl];dsimp only;rw[TD.er]at this
   rw[this,yab,TD.er,Zz,ybi, <-Zz,CL]
  |agg ds=>
   simp only[iB]at h;obtain⟨z,h2,h⟩:=yf.1 h;obtain⟨y,h3,rfl⟩:=Zb h;have:=mV (L:=L) r z y h3;rw[TD.er];unfold YW;rw[Vt h2];dsimp only
   rw[this,yab,TD.er,Zz,Zz,ybi]
  |_=>cases h
def rg(d:TD)(n:Nat):yL (yL Nat×Ty×yc)->yO (TD×yL (Ty×yc))
 |[]=>ab (d,[])
 |q::r=>(iB q.2.1 (.own n ae q.2.1 ae) q.1 d).bind λd'=>(rg d' (n+1) r).map λz=>(z.1,(q.2.1,q.2.2)::z.2)
def rh(l:yL (yL Nat×Ty×yc)):yL al:=l.map λq=>.cb q.1 q.2.1.size q.2.2
def lz(l:yL (Ty×yc)):yL ai:=l.map λq=>.log q.1 q.2 []
def ZJC(L:Lk)(n:Nat):Prop:=∀id t,n<=id->Z3 L id t ae=[]
theorem DJ{L:Lk}:∀(l:yL (yL Nat×Ty×yc))(d:TD)(n:Nat)(z:TD×yL (Ty×yc)),ZJC L n->rg d n l=ab z->∀yK,
 Ys (d.er L) n (rh l++.raw::yK)=(z.1.er L,z.2.map (λq=>ax.log q.1.size q.2 []),.raw::yK)
 |[],d,n,z,hN,h,yK=>by cases h;rfl
 |q::r,d,n,z,hN,h,yK=>by
  simp only[rg]at h;obtain⟨d',h1,h⟩:=yf.1 h;obtain⟨w,h2,rfl⟩:=Zb h;have e:=mV (L:=L) q.1 d d' h1;rw[TD.er,hN n q.2.1 (ym _)]at e;have ih:=DJ r d' (n+1) w (λid t h=>hN id t (by omega)) h2 yK;show Ys (d.er L) n (.cb q.1 q.2.1.size q.2.2::(rh r++.raw::yK))=_;unfold Ys;rw[show YW (d.er L) q.1 q.2.1.size (Dv.own n ae q.2.1.size [])=ab (d'.er L) from e]
  dsimp only;rw[ih];rfl
theorem ZJD(H:yL ai):ZJC (lk H) H.length:=λid t h=>by
 unfold Z3 lk;rw[yan h];rfl
theorem DK:∀(l:yL (Ty×yc))(H:yL ai),(∀id t,Z3 (lk H) id t ae=Z3 (lk (H++lz l)) id t ae)/\aB (H++lz l)=aB H++l.map (λq=>ax.log q.1.size q.2 [])
 |[],H=>by simp[lz]
 |q::l,H=>by
  have e:H++lz (q::l)=(H++[.log q.1 q.2 []])++lz l:=by simp[lz]
  obtain⟨h1,h2⟩:=DK l (H++[.log q.1 q.2 []]);rw[e];refine⟨λid t=>(uD id t).trans (h1 id t), ?_⟩;rw[h2,CW];simp
def newVar(hi:HI)(dst:yO Tmp)(d:TD)(all:yL TD)(H:yL ai)(K:Kn O):yO O:=
 match dst with
 |some t=>match hi.cb.lookup t with
  |some l=>(rg d (H.length+1) l).bind λz=>K all (.ak H.length []) (H++[.var z.1 af]++lz z.2) (rh l++[.raw]) 2
  |none=>K all (.ak H.length []) (H++[.var d af]) [.raw] 2
 |none=>ae
theorem ZrC{hi:HI}{dst:yO Tmp}{d:TD}(h:newVar hi dst d all H K=ab out):
 ∃H' hs gd gl,K all (.ak H.length []) H' hs 2=ab out/\TD.ay (lk H') all=TD.ay (lk H) all/\aB H'=aB H++ax.var gd af::gl/\∀yK,Ys (d.er (lk H)) ((aB H).length+1) (hs++yK)=(gd,gl,.raw::yK):=by
 unfold newVar at h;split at h
 .rename_i t;split at h
  .rename_i l hl;obtain⟨z,h1,h⟩:=yf.1 h;obtain⟨c1,c2⟩:=DK z.2 (H++[.var z.1 af]);have hL:lk (H++[.var z.1 af])=lk H:=iU rfl;refine⟨_,_,z.1.er (lk H),z.2.map (λq=>ax.log q.1.size q.2 []),h, ?_, ?_,λyK=> ?_⟩
   .rw[<-cm c1 all,hL]
   .rw[c2,kC hL];simp[ai.er]
   .rw[ZB,yak];exact DJ l d _ z (λid t hh=>ZJD H id t (by omega)) h1 yK
  .refine⟨_,_,d.er (lk H),[],h,mS rfl, ?_,λyK=> ?_⟩
   .rw[kC (iU rfl)];rfl
   .rfl
 .cases h
def DL(P:yg)(hi:HI)(dst:yO Tmp)(t:yc)(all:yL TD)(H:yL ai)(K:Kn O):yO O:=
 (P.info? t).bind λi=>(lx P t).bind λz=>if(cf i&&gu P t (YP P t)&&(YP P t).bE)=af then newVar hi dst (.p z) all H K else ae
theorem ZCs{hi:HI}{t:yc}(ho:o.op=.alloc t)(h:DL P hi o.dst t all H K=ab out):∃a d H' hs c,K a d H' hs c=ab out/\Good P o ts all H a d H' hs c:=by
 unfold DL at h;obtain⟨i,h1,h⟩:=yf.1 h;obtain⟨z,h2,h⟩:=yf.1 h;obtain⟨h3,h⟩:=Za h;obtain⟨H',hs,gd,gl,k1,k2,k3,k4⟩:=ZrC h;refine⟨_,_,_,_,_,k1,k2,rfl,dt (⟨rfl,λyK=> ?_,λyK=> ?_,[],zP,λyK=> ?_⟩)⟩
 .unfold aX;rw[ho]
 .unfold bD;rw[ho]
 .have k5:=k4 yK;rw[TD.er, <-om h2]at k5;unfold cu;rw[ho];dsimp only;rw[h1];dsimp only;rw[k5];dsimp only;rw[yW h3,k3,ZB];rfl
def uE(L:Lk)(d:TD):TD:=
 match d.plain L with
 |some y=>.p y
 |none=>d
theorem ZMt{L:Lk}(d:TD):(uE L d).er L=lZ (d.er L):=by
 unfold uE lZ
 cases h:d.plain L with
 |none=>rw[Zus h]
 |some y=>rw[UR h];rfl
def DM(hi:HI)(dst:yO Tmp)(all:yL TD)(H:yL ai)(K:Kn O)(d:TD):yO O:=
 if((uE (lk H) d).er (lk H)).bE=af then newVar hi dst (uE (lk H) d) all H K else ae
theorem ZHU{hi:HI}{t:yc}{x:yn}{xd:TD}(ho:o.op=.box t x)(hx:aW P ts t x=ab xd)(h:DM hi o.dst all H K xd=ab out):∃a d H' hs c,K a d H' hs c=ab out/\Good P o ts all H a d H' hs c:=by
 have hv:=Zq (L:=lk H) hx;unfold DM at h;obtain⟨h3,h⟩:=Za h;obtain⟨H',hs,gd,gl,k1,k2,k3,k4⟩:=ZrC h;refine⟨_,_,_,_,_,k1,k2,rfl,dt (⟨rfl,λyK=> ?_,λyK=> ?_,[],zP,λyK=> ?_⟩)⟩
 .unfold aX;rw[ho]
 .unfold bD;rw[ho]
 .have k5:=k4 yK;rw[ZMt]at k5 h3;unfold cu;rw[ho];dsimp only;rw[hv,k5];dsimp only;rw[yW h3,k3,ZB];rfl
def TD.cJ(L:Lk)(v:TD):TD:=
 match v.flat L with
 |some x=>.p x
 |none=>v
theorem DN{L:Lk}(v:TD):(v.cJ L).er L=(v.er L).cJ:=by
 unfold TD.cJ Dv.cJ;rw[qt];cases v.flat L <;> rfl
def uF(L:Lk)(yQ:yL ca)(d v:TD):yO TD:=
 match d,yQ with
 |.p _,_=>ab (v.cJ L)
 |_,[]=>ab (v.cJ L)
 |_,_=>ab v
theorem DO{L:Lk}{yQ:yL ca}{d v new:TD}(h:uF L yQ d v=ab new):ir (yQ.map ca.i) (d.er L) (v.er L)=ab (new.er L):=by
 unfold uF at h;split at h
 .cases h;unfold ir;rw[TD.er];dsimp only;rw[DN]
 .cases h;unfold ir;split
  .rw[DN]
  .simp only[List.map_nil];rw[DN]
 .rename_i h1 h2;cases h;unfold ir;split
  .rename_i z hz;cases d <;> first|cases hz|skip
   rename_i q;exact absurd rfl (h1 q)
  .cases yQ with
   |nil=>exact absurd rfl h2
   |cons _ _=>rfl
def lA(P:yg)(t:yc)(new sub:Dv):Bool:=new.bE&&new.size==sub.size&&P.cellsOf t==new.size&&(P.info? t).isSome&&new.isAgg==sub.isAgg
def ZP8(hi:HI):yn->yL (yL Nat×Ty×yc)
 |.tmp t=>(hi.ff.lookup t).getD []
 |_=>[]
def DP(P:yg)(gs:yL (yL Nat×Ty×yc))(t:yc)(all:yL TD)(H:yL ai)(K:Kn O)(v:TD):TD->yO O
 |.ak id yQ=>match H[id]? with
  |some (.var d af)=>eQ (lk H) yQ d λsub hs put=>(uF (lk H) yQ d v).bind λnew=>(put new).bind λd'=>(rg d' H.length gs).bind λz=>
   if lA P t (new.er (lk H)) (sub.er (lk H))=af then K all .ao (H.set id (.var z.1 af)++lz z.2) (hs++(rh gs++[.raw])) 2 else ae
  |_=>ae
 |.aY id v' yQ=>match H[id]? with
  |some (.row w s af e d)=>eQ (lk H) yQ d λsub hs put=>(uF (lk H) yQ d v).bind λnew=>(put new).bind λd'=>
   if(lA P t (new.er (lk H)) (sub.er (lk H))&&w==v'&&aO (d'.er (lk H)) s==aO (d.er (lk H)) s)=af then K all .ao (H.set id (.row v' s af e d')) hs 2 else ae
  |_=>ae
 |_=>ae
theorem ZCt{gs:yL (yL Nat×Ty×yc)}{t:yc}{x y:yn}{xd yd:TD}(ho:o.op=.store t x y)(hx:aW P ts 0 x=ab xd)(hy:aW P ts t y=ab yd)(h:DP P gs t all H K yd xd=ab out):
 ∃a d H' hs c,K a d H' hs c=ab out/\Good P o ts all H a d H' hs c:=by
 have hv:=Zq (L:=lk H) hx;have hw:=Zq (L:=lk H) hy;unfold DP at h;split at h
 .rename_i id yQ;split at h
  .rename_i d hd;obtain⟨sub,hs,put,C,k1,k2,k3,k4⟩:=Xf _ _ _ _ h;obtain⟨new,h1,h2⟩:=yf.1 k1;obtain⟨d',h3,h2⟩:=yf.1 h2;obtain⟨z,h5,h2⟩:=yf.1 h2;obtain⟨h4,h2⟩:=Za h2;unfold lA at h4;obtain⟨g1,g2⟩:=DK z.2 (H.set id (.var z.1 af));have hL:lk (H.set id (.var z.1 af))=lk H:=X8 hd rfl rfl;refine⟨_,_,_,_,_,h2, ?_,rfl,dt (⟨rfl,λyK=> ?_,λyK=> ?_,C++[QW yQ=XZ yQ],Zk.2 ⟨k2,(XC _).symm,au⟩,λyK=> ?_⟩)⟩
   .rw[<-cm g1 all,hL]
   .unfold aX;rw[ho]
   .unfold bD;rw[ho]
   .have k5:=DJ gs d' H.length z (ZJD H) h5 yK;unfold cu;rw[ho];dsimp only;rw[hv,hw];dsimp only[TD.er];rw[ZJ hd];dsimp only[ai.er];rw[yak,k3 (rh gs++[al.raw]++yK)];dsimp only;rw[DO h1];dsimp only;rw[k4 new d' h3 _];dsimp only;rw[yW h4,ZB,yak];rw[show([al.raw]++yK)=.raw::yK from rfl,k5]
    dsimp only;rw[g2,YF hL];rfl
  .cases h
 .rename_i id v' yQ;split at h
  .rename_i w s e d hd;obtain⟨sub,hs,put,C,k1,k2,k3,k4⟩:=Xf _ _ _ _ h;obtain⟨new,h1,h2⟩:=yf.1 k1;obtain⟨d',h3,h2⟩:=yf.1 h2;obtain⟨h4,h2⟩:=Za h2;rw[yi,yi]at h4;obtain⟨⟨h4,h5⟩,h6⟩:=h4;have h4':=h4;unfold lA at h4';have hL:lk (H.set id (.row v' s af e d'))=lk H:=X8 hd rfl rfl;refine⟨_,_,_,_,_,h2,QA hd rfl rfl,rfl,dt (⟨rfl,λyK=> ?_,λyK=> ?_,C++[QW yQ=XZ yQ],Zk.2 ⟨k2,(XC _).symm,au⟩,λyK=> ?_⟩)⟩
   .unfold aX;rw[ho]
   .unfold bD;rw[ho]
   .unfold cu;rw[ho];dsimp only;rw[hv,hw];dsimp only[TD.er];rw[ZJ hd];dsimp only[ai.er];rw[k3 yK];dsimp only;rw[DO h1];dsimp only;rw[k4 new d' h3 _];dsimp only;rw[yW (by simp only[yi]at h4' ⊢;exact⟨⟨h4',h5⟩,h6⟩),YF hL];rfl
  .cases h
 .cases h
def DQ(P:yg)(ts:yL TD)(t:yc)(len:Nat)(parts:yL (Nat×yn))(all:yL TD)(H:yL ai)(K:Kn O):yO O:=
 mN (lk H) P ts t len parts λT l e=>K all (.rv H.length 0 T.size 0 len) (H++[.row 0 T.size af e (.p (.v (.arr len T) l))]) [.arr] 2
theorem ZzK{t:yc}{len:Nat}{parts:Array (Nat×yn)}(ho:o.op=.buildSlice t len parts)(h:DQ P ts t len parts.toList all H K=ab out):
 ∃a d H' hs c,K a d H' hs c=ab out/\Good P o ts all H a d H' hs c:=by
 unfold DQ at h;obtain⟨e,T,l,i,xs,h1,hu,hi,hl,hz,hs,hx⟩:=qF h;refine⟨_,_,_,_,_,h1,mS rfl,rfl,dt (⟨rfl,λyK=> ?_,λyK=> ?_,[],zP,λyK=> ?_⟩)⟩
 .unfold aX;rw[ho];rfl
 .unfold bD;rw[ho]
 .unfold cu;rw[ho];dsimp only;rw[yaa,yv];dsimp only;rw[hu];dsimp only;rw[hi,hl];dsimp only;rw[yW (by simpa using hz),hx,kC (iU rfl),ZB,hs];rfl
def ri(P:yg)(ts:yL TD)(e:yc):yL (Nat×yn)->yO (yL TD)
 |[]=>ab []
 |q::r=>match aW P ts e q.2,ri P ts e r with
  |some d,ab ds=>ab (d::ds)
  |_,_=>ae
theorem ZGr{L:Lk}{e:yc}:∀{parts:yL (Nat×yn)}{ds:yL TD},ri P ts e parts=ab ds->(parts.map λq=>Zs P (TD.ay L ts) e q.2)=TD.ay L ds
 |[],ds,h=>by cases h;rfl
 |q::r,ds,h=>by
  simp only[ri]at h;split at h
  .rename_i d l h1 h2;cases h;rw[yad,Zq h1,ZGr h2,TD.ay]
  .cases h
def ZP9(P:yg)(ts:yL TD)(t:yc)(L:Lk)(parts:yL (Nat×yn)):Bool:=
 match P.underlying t with
 |some (.slice e)=>match ri P ts e parts with
  |some ds=>ds.all λd=>(d.flat L).isSome
  |none=>af
 |_=>af
def DR(P:yg)(ts:yL TD)(t:yc)(len:Nat)(parts:yL (Nat×yn))(all:yL TD)(H:yL ai)(K:Kn O):yO O:=
 match P.underlying t with
 |some (.slice e)=>(P.info? e).bind λi=>(ri P ts e parts).bind λds=>
  if((parts.map (·.1)==yq len)&&((TD.ay (lk H) ds).all λd=>d.bE&&d.size==P.cellsOf e)&&(cf i&&i.size !=0&&ah (len*i.size<=16777216)))=af then
   K all (.rv H.length 0 i.size 0 len) (H++[.row 0 i.size af e (.arr len i.size ds)]) [.raw] 2 else ae
 |_=>ae
theorem ZwQ{t:yc}{len:Nat}{parts:Array (Nat×yn)}(ho:o.op=.buildSlice t len parts)(h:DR P ts t len parts.toList all H K=ab out):
 ∃a d H' hs c,K a d H' hs c=ab out/\Good P o ts all H a d H' hs c:=by
 unfold DR at h;split at h
 .rename_i e hu;obtain⟨i,hi,h⟩:=yf.1 h;obtain⟨ds,hd,h⟩:=yf.1 h;obtain⟨hk,h1⟩:=Za h;rw[yi,yi]at hk;refine⟨_,_,_,_,_,h1,mS rfl,rfl,dt (⟨rfl,λyK=> ?_,λyK=> ?_,[],zP,λyK=> ?_⟩)⟩
  .unfold aX;rw[ho];rfl
  .unfold bD;rw[ho]
  .unfold cu;rw[ho];dsimp only;rw[yaa,yv];dsimp only;rw[hu];dsimp only
   have hl:nM P (TD.ay (lk H) ts) e (P.cellsOf e) len parts.toList=ab (TD.ay (lk H) ds):=by
    unfold nM;rw[yW hk.1.1,ZGr hd,yW hk.1.2]
   rw[hi,hl];dsimp only;rw[yW (by simpa using hk.2),kC (iU rfl),ZB];rfl
 .cases h
def DS(P:yg)(ts:yL TD)(t:yc)(len:Nat)(parts:yL (Nat×yn))(all:yL TD)(H:yL ai)(K:Kn O):yO O:=
 mN (lk H) P ts t len parts λT l e=>if(TD.frees H.length all&&H.all (ai.free H.length))=af then K all (.own H.length (ab af) T ae) (H++[.log T e l]) [.own] 2 else ae
theorem ZzM{t:yc}{len:Nat}{parts:Array (Nat×yn)}(ho:o.op=.buildSlice t len parts)(h:DS P ts t len parts.toList all H K=ab out):
 ∃a d H' hs c,K a d H' hs c=ab out/\Good P o ts all H a d H' hs c:=by
 unfold DS at h;obtain⟨e,T,l,i,xs,h1,hu,hi,hl,hz,hs,hx⟩:=qF h;obtain⟨h2,h1⟩:=Za h1;rw[yi]at h2;refine⟨_,_,_,_,_,h1,mT h2.1,rfl,dt (⟨rfl,λyK=> ?_,λyK=> ?_,[],zP,λyK=> ?_⟩)⟩
 .unfold aX;rw[ho];rfl
 .unfold bD;rw[ho]
 .unfold cu;rw[ho];dsimp only;rw[yaa,yv];dsimp only;rw[hu];dsimp only;rw[hi,hl];dsimp only;rw[yW (by simpa using hz),hx,ZGq h2.2,ZB,TD.er,mU,hs]
def rj(P:yg)(T:Ty)(u:yc)(H:yL ai)(K:yL T.aN->yL al->yO O)(x:TD):yO O:=
 match x with
 |.view id yQ s lo n=>match P.underlying u with
  |some (.slice _)=>(mQ H id).bind λd=>eQ (lk H) yQ d λsub hs _=>sub.inner.bind λy=>y.dF.bind λr=>(Ty.br r.t T r.l).bind λl=>
   if(ah (s=T.size))=af then if(ah (lo+n<=r.n))=af then K ((l.drop lo).take n) hs else ae else ae
  |_=>ae
 |.rv id v s lo n=>match P.underlying u,H[id]? with
  |some (.slice _),ab (.row w s' _ _ d)=>d.inner.bind λy=>y.dF.bind λr=>(Ty.br r.t T r.l).bind λl=>
   if(ah (s=T.size)&&ah (s'=T.size)&&w==v)=af then if(ah (lo+n<=r.n))=af then K ((l.drop lo).take n) [] else ae else ae
  |_,_=>ae
 |.rw id=>match P.underlying u,H[id]? with
  |some (.slice _),ab (.aQ T' v st e l')=>(Ty.br T' T l').bind λl=>K l []
  |_,_=>ae
 |x=>(kB (lk H) P T u x).bind λl=>K l []
theorem DT{T:Ty}{u:yc}{x:TD}{K:yL T.aN->yL al->yO O}(h:rj P T u H K x=ab out):
 ∃l hs C,K l hs=ab out/\bc C/\∀yK,hJ P T.size u (aB H) (hs++yK) (x.er (lk H))=ab (C,l.map T.enc,yK):=by
 unfold rj at h;split at h
 .rename_i id yQ s lo n;split at h
  .rename_i e hu;obtain⟨d,h1,h⟩:=yf.1 h;obtain⟨st,h2,h3⟩:=qQ h1;obtain⟨sub,hs,put,C,k1,k2,k3,_⟩:=Xf _ _ _ _ h;obtain⟨y,p1,k1⟩:=yf.1 k1;obtain⟨r,p2,k1⟩:=yf.1 k1;obtain⟨l,p3,k1⟩:=yf.1 k1;obtain⟨p4,k1⟩:=Za k1;obtain⟨p5,k1⟩:=Za k1;have p4:=yF p4;have p5:=yF p5
   have esub:sub.er (lk H)=.p (.arr r.n T.size (l.map T.enc)):=by
    rw[YQ p1,TD.er,WY p2];obtain⟨e,p3⟩:=ZC p3;obtain⟨n0,t0,l0⟩:=r;dsimp only at e p3 ⊢;subst e;subst p3;rfl
   refine⟨_,_,C++[QW yQ=XZ yQ,lo+n<=r.n],k1,Zk.2 ⟨k2,(XC _).symm,p5,au⟩,λyK=> ?_⟩;unfold hJ;rw[TD.er];dsimp only;rw[hu,h3];dsimp only;rw[k3 yK,esub];dsimp only;rw[yW (by simp[p4]),yce,List.map_drop]
  .cases h
 .rename_i id v s lo n;split at h
  .rename_i e w s' st e' d hu hd;obtain⟨y,p1,k1⟩:=yf.1 h;obtain⟨r,p2,k1⟩:=yf.1 k1;obtain⟨l,p3,k1⟩:=yf.1 k1;obtain⟨p4,k1⟩:=Za k1;obtain⟨p5,k1⟩:=Za k1;simp only[yi,yP]at p4;have p5:=yF p5
   have esub:d.er (lk H)=.p (.arr r.n T.size (l.map T.enc)):=by
    rw[YQ p1,TD.er,WY p2];obtain⟨e,p3⟩:=ZC p3;obtain⟨n0,t0,l0⟩:=r;dsimp only at e p3 ⊢;subst e;subst p3;rfl
   refine⟨_,_,[lo+n<=r.n],k1,⟨p5,au⟩,λyK=> ?_⟩;unfold hJ;rw[TD.er];dsimp only;rw[hu,ZJ hd,ai.er,esub];dsimp only;rw[yW (by simp[p4]),yce,List.map_drop];rfl
  .cases h
 .rename_i id;split at h
  .rename_i e T' v st e' l' hu hd;obtain⟨l,p3,k1⟩:=yf.1 h;obtain⟨eT,p3⟩:=ZC p3;subst eT;subst p3;refine⟨l,[],[0+l.length<=l.length],k1,⟨by omega,au⟩,λyK=> ?_⟩;unfold hJ;rw[(fC hd).1];dsimp only;rw[hu,ZJ hd,ai.er];dsimp only;rw[yW (by simp),List.drop_zero, <-yx (f:=T'.enc),ybd];simp
  .cases h
 .rename_i hx hx2 hx3;obtain⟨l,h1,h⟩:=yf.1 h;refine⟨l,[],[],h,zP,λyK=> ?_⟩;rw[yv];unfold hJ;split
  .rename_i e;cases x <;> first|cases e|skip
   exact absurd rfl (hx _ _ _ _ _)
  .rename_i e;cases x <;> first|cases e|skip
   .exact absurd rfl (hx2 _ _ _ _ _)
   .exact absurd rfl (hx3 _)
  .rw[mO h1];rfl
structure rk where
 t:Ty
 e:yc
 l:List t.aN
def DU(H:yL ai)(id:Nat):yO rk:=
 match H[id]? with
 |some (.log t e l)=>ab ⟨t,e,l⟩
 |_=>ae
theorem ZEL{id:Nat}{m:rk}(h:DU H id=ab m):H[id]? =ab (.log m.t m.e m.l):=by
 unfold DU at h;split at h
 .rename_i hd;cases h;exact hd
 .cases h
def cO(n m b:Nat):Bool:=ah ((n+m)*b<=Zr)&&ah (n+m<=maxLen)
def DV(P:yg)(own row:Bool)(t u:yc)(all:yL TD)(H:yL ai)(K:Kn O)(y:TD):TD->yO O
 |.own id nn T ae=>match P.underlying t with
  |some (.slice e)=>(P.info? e).bind λi=>(DU H id).bind λm=>(Ty.br m.t T m.l).bind λzs=>rj P T u H (λys hs=>
   if(cf i&&ah (i.size=T.size)&&ah (m.e=e)&&ah (T.size≠0))=af then if cO zs.length ys.length i.bytes=af then
    K (TD.co (lk H) id all) (.own id ae T ae) ((H.map (ai.stale (lk H) id)).set id (.log T e (zs++ys))) hs 2 else ae else ae) y
  |_=>ae
 |.rv id v s lo n=>match P.underlying t with
  |some (.slice e)=>(P.info? e).bind λi=>(fJ P gj e).bind λT=>rj P T u H (λys hs=>if ys.isEmpty=af then
    if(cf i&&ah (P.cellsOf e=T.size))=af then K all (.rv id v s lo n) H (.bare::hs) 2 else ae
   else match H[id]? with
    |some (.row w s' af e' d)=>d.inner.bind λy0=>y0.dF.bind λr=>(Ty.br r.t T r.l).bind λxs=>
     if(cf i&&ah (i.size=T.size)&&ah (s'=T.size)&&ah (e'=e)&&ah (T.size≠0)&&w==v&&ah (lo=0)&&ah (s=T.size))=af then if(ah (n<=r.n)&&cO n ys.length i.bytes)=af then
      K all (.rv id (v+1) s 0 (n+ys.length)) (H.set id (.row (v+1) s af e (.p (.v (.arr (n+ys.length) T) (xs.take n++ys))))) (.raw::hs) 2 else ae else ae
    |_=>ae) y
  |_=>ae
 |.p (.sl (ab ag) _ [])=>if row then match P.underlying t with
  |some (.slice e)=>(P.info? e).bind λi=>(fJ P gj e).bind λT=>(kB (lk H) P T u y).bind λys=>
   if(cf i&&i.size !=0&&ah (i.size=T.size)&&ah (P.cellsOf e=T.size))=af then if lm ys.length i.bytes=af then
    K all (.rv H.length 0 i.size 0 ys.length) (H++[.row 0 i.size af e (.p (.v (.arr ys.length T) ys))]) [.arr] 2 else ae else ae
  |_=>ae else if own then match P.underlying t with
  |some (.slice e)=>(P.info? e).bind λi=>(fJ P gj e).bind λT=>(kB (lk H) P T u y).bind λys=>
   if(cf i&&i.size !=0&&ah (i.size=T.size)&&ah (P.cellsOf e=T.size)&&TD.frees H.length all&&H.all (ai.free H.length))=af then if lm ys.length i.bytes=af then
    K all (.own H.length ae T ae) (H++[.log T e ys]) [.own] 2 else ae else ae
  |_=>ae else ae
 |_=>ae
theorem ZJG{id:Nat}{T:Ty}{e:yc}{l:yL T.aN}(H:yL ai)(h:id < H.length):Z3 (lk (H.set id (.log T e l))) id T ae=l:=by
 unfold Z3 lk;dsimp only;rw[yci h];show(Ty.br T T l).getD []=l;unfold Ty.br;split
 .rfl
 .rename_i h _;exact absurd rfl h
theorem oq{L:Lk}{n:Nat}:∀(l:yL TD),(TD.co L n l).length=l.length
 |[]=>rfl
 |_::r=>by rw[TD.co,yah,yah,oq r]
def DW(H:yL ai):TD->TD
 |.own id nn T (ab zs)=>match H[id]? with
  |some (.log t e l)=>match Ty.br t T l with
   |some l'=>if@decide (l'=zs) (@instDecidableEqList T.aN (Ty.dU T) l' zs)=af then .own id nn T ae else .own id nn T (ab zs)
   |none=>.own id nn T (ab zs)
  |_=>.own id nn T (ab zs)
 |d=>d
theorem ZHV(d:TD):(DW H d).er (lk H)=d.er (lk H):=by
 unfold DW;split
 .rename_i id nn T zs;split
  .rename_i t e l hd;split
   .rename_i l' hc;split
    .rename_i he;have he:=@of_decide_eq_true _ (@instDecidableEqList T.aN (Ty.dU T) l' zs) he;rw[TD.er,TD.er]
     have:Z3 (lk H) id T ae=zs:=by
      unfold Z3 lk;dsimp only;rw[hd];show(Ty.br t T l).getD []=zs;rw[hc, <-he];rfl
     rw[this];rfl
    .rfl
   .rfl
  .rfl
 .rfl
theorem ZzO{own row:Bool}{t u:yc}{x y:yn}{c:Call}{xd yd:TD}(ho:o.op=.call c)(hc:c.callee=.builtin .append)(ha:c.args.toList=[x,y])(ht:c.argTypes.toList=[t,u])
 (hv:Zs P (TD.ay (lk H) ts) t x=xd.er (lk H)) (hy:aW P ts u y=ab yd) (h:DV P own row t u all H K yd xd=ab out):∃a d H' hs c,K a d H' hs c=ab out/\Good P o ts all H a d H' hs c:=by
 have hw:=Zq (L:=lk H) hy;unfold DV at h;split at h
 .rename_i id nn T;split at h
  .rename_i e hu;obtain⟨i,h1,h⟩:=yf.1 h;obtain⟨m,h2,h⟩:=yf.1 h;obtain⟨zs,h3,h⟩:=yf.1 h;obtain⟨ys,hs,C,k1,k2,k3⟩:=DT h;obtain⟨k4,k6⟩:=Za k1;obtain⟨k5,kk⟩:=Za k6;clear k1 k6;simp only[yi,yP]at k4;obtain⟨⟨⟨g1,g2⟩,g3⟩,g4⟩:=k4;simp only[cO,yi,yP]at k5;have hl:=ZEL h2;obtain⟨mt,me,ml⟩:=m;dsimp only at h3 g3 hl;obtain⟨eT,h3⟩:=ZC h3;subst eT;subst h3;subst g3;have hlt:id < H.length:=(yo.1 hl).1
   have ec:Z3 (lk H) id mt ae=zs:=by
    unfold Z3 lk;dsimp only;rw[hl];show(Ty.br mt mt zs).getD []=zs;unfold Ty.br;split
    .rfl
    .rename_i h _;exact absurd rfl h
   refine⟨_,_,_,_,_,kk,bT (λid' t hn=>Vk (lk H) id' t hn) all,oq all,dt (⟨rfl,λyK=> ?_,λyK=> ?_,
    C++[zs.map mt.enc=zs.map mt.enc,((zs.map mt.enc).length+(ys.map mt.enc).length)*i.bytes<=Zr,(zs.map mt.enc).length+(ys.map mt.enc).length<=maxLen],Zk.2 ⟨k2,rfl,by simpa using k5.1,by simpa using k5.2,au⟩,λyK=> ?_⟩)⟩
   .unfold aX;rw[ho];dsimp only;rw[hc];dsimp only;rw[ha,ht];split
    .rename_i e1 e2 e3;simp only[List.cons.injEq,and_true]at e1 e2;obtain⟨rfl,rfl⟩:=e1;obtain⟨rfl,rfl⟩:=e2;rw[hu,hv];rfl
    .rfl
   .unfold bD;rw[ho];dsimp only;rw[hc]
   .unfold cu;rw[ho];dsimp only;rw[hc];dsimp only;rw[ha,ht];dsimp only;rw[hu,hv,hw];dsimp only[TD.er];rw[ec,h1,k3 yK,ZJ hl];dsimp only[ai.er];rw[yW (by simp[g1,g2,g4]),ZJz,ZJG _ (by rw[yx];exact hlt),yal]
  .cases h
 .rename_i id v s lo n;split at h
  .rename_i e hu;obtain⟨i,h1,h⟩:=yf.1 h;obtain⟨T,h2,h⟩:=yf.1 h;obtain⟨ys,hs,C,k1,k2,k3⟩:=DT h
   have nN:∀hs,aX P o (TD.ay (lk H) ts) hs=ae:=λhs=>by
    unfold aX;rw[ho];dsimp only;rw[hc];dsimp only;rw[ha,ht]
    cases hs with
    |nil=>rfl
    |cons h0 hr=>cases h0 <;> first|rfl|(dsimp only;rw[hu,hv];rfl)
   have nR:∀hs,bD P o (TD.ay (lk H) ts) (aB H) hs=ae:=λhs=>by
    unfold bD;rw[ho];dsimp only;rw[hc]
   split at k1
   .rename_i hemp;obtain⟨k4,k5⟩:=Za k1;simp only[yi,yP]at k4;have hys:ys=[]:=by simpa using hemp
    refine⟨_,_,_,_,_,k5,rfl,rfl,dt (⟨rfl,λyK=>nN _,λyK=>nR _,C++[ys.map T.enc=[]],Zk.2 ⟨k2,by rw[hys];rfl,au⟩,λyK=> ?_⟩)⟩;unfold cu;rw[ho];dsimp only;rw[hc];dsimp only;rw[ha,ht];dsimp only;rw[hu,hv,hw];dsimp only[TD.er];rw[yaa];dsimp only;rw[h1,k4.2,k3 yK];dsimp only;rw[yW k4.1]
   .split at k1
    .rename_i w s' e' d hd;obtain⟨y0,p1,q1⟩:=yf.1 k1;obtain⟨r,p2,q2⟩:=yf.1 q1;obtain⟨xs,p3,q3⟩:=yf.1 q2;obtain⟨p4,q4⟩:=Za q3;obtain⟨p5,q5⟩:=Za q4;simp only[yi,yP,yT]at p4;obtain⟨⟨⟨⟨⟨⟨⟨g1,g2⟩,g3⟩,g4⟩,g5⟩,g6⟩,g7⟩,g8⟩:=p4;simp only[cO,yi,yP]at p5
     have esub:d.er (lk H)=.p (.arr r.n T.size (xs.map T.enc)):=by
      rw[YQ p1,TD.er,WY p2];obtain⟨e,p3⟩:=ZC p3;obtain⟨n0,t0,l0⟩:=r;dsimp only at e p3 ⊢;subst e;subst p3;rfl
     refine⟨_,_,_,_,_,q5,QA hd rfl rfl,rfl,dt (⟨rfl,λyK=>nN _,λyK=>nR _,C++[n<=r.n,(n+(ys.map T.enc).length)*i.bytes<=Zr,n+(ys.map T.enc).length<=maxLen,af=af\/n=r.n],
      Zk.2 ⟨k2,p5.1,by simpa using p5.2.1,by simpa using p5.2.2,.inl rfl,au⟩,λyK=> ?_⟩)⟩
     unfold cu;rw[ho];dsimp only;rw[hc];dsimp only;rw[ha,ht];dsimp only;rw[hu,hv,hw];dsimp only[TD.er];rw[yaa];dsimp only;rw[h1,g8,k3 yK,ZJ hd,ai.er,esub];dsimp only;rw[yW (by simp[g1,g2,g3,g4,g5,g6,g7]),YF (X8 hd rfl rfl)];simp only[ai.er,TD.er,TP.pe,AT,yx,yal,yce]
    .cases k1
  .cases h
 .rename_i T0;split at h
  .split at h
   .rename_i e hu;obtain⟨i,h1,h⟩:=yf.1 h;obtain⟨T,h2,h⟩:=yf.1 h;obtain⟨ys,h3,h⟩:=yf.1 h;obtain⟨k4,h⟩:=Za h;obtain⟨k5,h⟩:=Za h;simp only[yi,yP]at k4;obtain⟨⟨⟨g1,g2⟩,g3⟩,g4⟩:=k4;obtain⟨g7,g8⟩:=Qz k5;refine⟨_,_,_,_,_,h,mS rfl,rfl,dt (⟨rfl,λyK=> ?_,λyK=> ?_,[(ys.map T.enc).length*i.bytes<=Zr,(ys.map T.enc).length<=maxLen],⟨by rw[yx];exact g7,by rw[yx];exact g8,au⟩,λyK=> ?_⟩)⟩
    .unfold aX;rw[ho];dsimp only;rw[hc];dsimp only;rw[ha,ht];rfl
    .unfold bD;rw[ho];dsimp only;rw[hc]
    .unfold cu;rw[ho];dsimp only;rw[hc];dsimp only;rw[ha,ht];dsimp only;rw[hu,hv,hw,show(TD.p (TP.sl (ab ag) T0 [])).er (lk H)=Dv.p (.sl (ab ag) T0.size []) from rfl]
     dsimp only;rw[h1,g4,mO h3,yaa,yv];dsimp only;rw[yW (by simp only[yi];exact⟨g1,g2⟩),kC (iU rfl),ZB];simp only[ai.er,TD.er,TP.pe,AT,yx,g3]
   .cases h
  split at h
  .split at h
   .rename_i e hu;obtain⟨i,h1,h⟩:=yf.1 h;obtain⟨T,h2,h⟩:=yf.1 h;obtain⟨ys,h3,h⟩:=yf.1 h;obtain⟨k4,h⟩:=Za h;obtain⟨k5,h⟩:=Za h;simp only[yi,yP]at k4;obtain⟨⟨⟨⟨⟨g1,g2⟩,g3⟩,g4⟩,g5⟩,g6⟩:=k4;obtain⟨g7,g8⟩:=Qz k5;refine⟨_,_,_,_,_,h,mT g5,rfl,dt (⟨rfl,λyK=> ?_,λyK=> ?_,[(ys.map T.enc).length*i.bytes<=Zr,(ys.map T.enc).length<=maxLen],⟨by rw[yx];exact g7,by rw[yx];exact g8,au⟩,λyK=> ?_⟩)⟩
    .unfold aX;rw[ho];dsimp only;rw[hc];dsimp only;rw[ha,ht];rfl
    .unfold bD;rw[ho];dsimp only;rw[hc]
    .unfold cu;rw[ho];dsimp only;rw[hc];dsimp only;rw[ha,ht];dsimp only;rw[hu,hv,hw,show(TD.p (TP.sl (ab ag) T0 [])).er (lk H)=Dv.p (.sl (ab ag) T0.size []) from rfl]
     dsimp only;rw[h1,g4,mO h3,yaa,yv];dsimp only;rw[yW (by simp only[yi];exact⟨g1,g2⟩),ZGq g6,ZB,TD.er,mU,g3]
   .cases h
  .cases h
 .cases h
def DX(P:yg)(t:yc)(all:yL TD)(H:yL ai)(K:Kn O):TD->yO O
 |.rv id v s lo n=>match P.underlying t,H[id]? with
  |some (.slice e),ab (.row w s' af e' d)=>(P.info? e).bind λi=>(lx P e).bind λz=>d.inner.bind λy=>y.dF.bind λr=>(TP.to iQ z r.t).bind λz'=>
   if(cf i&&ah (i.size=s)&&ah (s'=s)&&ah (r.t.size=s)&&w==v&&s !=0&&z.pe.size==s&&ah (n=1))=af then if ah (lo+1<=r.n)=af then
    K all (.bj []) (H.set id (.row v s af e' (.p (.v (.arr r.n r.t) (r.l.set lo z'))))) [] 2 else ae else ae
  |_,_=>ae
 |_=>ae
theorem ZCv{t:yc}{x:yn}{c:Call}{xd:TD}(ho:o.op=.call c)(hc:c.callee=.builtin .clear)(ha:c.args.toList=[x])(ht:c.argTypes.toList=[t])
 (hx:aW P ts t x=ab xd) (h:DX P t all H K xd=ab out):∃a d H' hs c,K a d H' hs c=ab out/\Good P o ts all H a d H' hs c:=by
 have hv:=Zq (L:=lk H) hx;unfold DX at h;split at h
 .rename_i id v s lo n;split at h
  .rename_i e w s' e' d hu hd;obtain⟨i,h1,h⟩:=yf.1 h;obtain⟨z,h2,h⟩:=yf.1 h;obtain⟨y,p1,q1⟩:=yf.1 h;obtain⟨r,p2,q2⟩:=yf.1 q1;obtain⟨z',p3,q3⟩:=yf.1 q2;obtain⟨p4,q4⟩:=Za q3;obtain⟨p5,k1⟩:=Za q4;clear q1 q2 q3 q4 h;simp only[yi,yP]at p4;obtain⟨⟨⟨⟨⟨⟨⟨g1,g2⟩,g3⟩,g4⟩,g5⟩,g6⟩,g7⟩,g8⟩:=p4;have g8':=g8;subst g8;have p5:=yF p5;have esub:d.er (lk H)=.p (.arr r.n r.t.size (r.l.map r.t.enc)):=by rw[YQ p1,TD.er,WY p2]
   refine⟨_,_,_,_,_,k1,QA hd rfl rfl,rfl,dt (⟨rfl,λyK=> ?_,λyK=> ?_,[1=1,lo+1<=r.n],⟨rfl,p5,au⟩,λyK=> ?_⟩)⟩
   .unfold aX;rw[ho];dsimp only;rw[hc]
   .unfold bD;rw[ho];dsimp only;rw[hc]
   .unfold cu;rw[ho];dsimp only;rw[hc];dsimp only;rw[ha,ht];dsimp only;rw[hu,hv];dsimp only[TD.er];rw[h1,om h2,ZJ hd,ai.er,esub];dsimp only;rw[yW (by simp only[yi,yP];exact⟨⟨⟨⟨⟨⟨g1,g2⟩,g3⟩,g4⟩,g5⟩,g6⟩,g7⟩),YF (X8 hd rfl rfl),kz z r.t z' p3];have eset:(r.l.set lo z').map r.t.enc=(r.l.map r.t.enc).set lo (r.t.enc z'):=ybi ..;show ab ([1=1,lo+1<=r.n],Dv.bj [],(aB H).set id (ax.row v s af e' (.p (.arr r.n s ((r.l.map r.t.enc).set lo (r.t.enc z'))))),yK)=ab ([1=1,lo+1<=r.n],Dv.bj [],(aB H).set id (ax.row v s af e' (.p (.arr r.n r.t.size ((r.l.set lo z').map r.t.enc)))),yK);rw[eset,g4]
  .cases h
 .cases h
def DY(P:yg)(t u:yc)(all:yL TD)(H:yL ai)(K:Kn O)(y:TD):TD->yO O
 |.view id yQ s lo n=>match P.underlying t,H[id]? with
  |some (.slice e),ab (.var d af)=>eQ (lk H) yQ d λsub hs put=>sub.inner.bind λy0=>y0.dF.bind λr=>(kB (lk H) P r.t u y).bind λys=>
   (put (.p (.v (.arr r.n r.t) (r.l.take lo++(ys++r.l.drop (lo+ys.length)))))).bind λd'=>
     if(ah (r.t.size=s)&&ah (P.cellsOf e=s)&&(P.info? e).isSome&&ah (ys.length<=n)&&ah (lo+n<=r.n))=af then K all (.p (.v (.int .i64) (ys.length:Int))) (H.set id (.var d' af)) hs 2 else ae
  |_,_=>ae
 |_=>ae
theorem ZEO{t u:yc}{x y:yn}{c:Call}{xd yd:TD}(ho:o.op=.call c)(hc:c.callee=.builtin .copy)(ha:c.args.toList=[x,y])(ht:c.argTypes.toList=[t,u])
 (hx:aW P ts t x=ab xd) (hy:aW P ts u y=ab yd) (h:DY P t u all H K yd xd=ab out):∃a d H' hs c,K a d H' hs c=ab out/\Good P o ts all H a d H' hs c:=by
 have hv:=Zq (L:=lk H) hx;have hw:=Zq (L:=lk H) hy;unfold DY at h;split at h
 .rename_i id yQ s lo n;split at h
  .rename_i e d hu hd;obtain⟨sub,hs,put,C,k1,k2,k3,k4⟩:=Xf _ _ _ _ h;obtain⟨y0,p1,k1⟩:=yf.1 k1;obtain⟨r,p2,k1⟩:=yf.1 k1;obtain⟨ys,p3,k1⟩:=yf.1 k1;obtain⟨d',p4,k1⟩:=yf.1 k1;obtain⟨p5,k1⟩:=Za k1;simp only[yi,yP]at p5;obtain⟨⟨⟨⟨g1,g2⟩,g3⟩,g4⟩,g5⟩:=p5;have esub:sub.er (lk H)=.p (.arr r.n r.t.size (r.l.map r.t.enc)):=by rw[YQ p1,TD.er,WY p2]
   refine⟨_,_,_,_,_,k1,QA hd rfl rfl,rfl,dt (⟨rfl,λyK=> ?_,λyK=> ?_,C++[QW yQ=XZ yQ,(ys.map r.t.enc).length<=n,lo+n<=r.n],Zk.2 ⟨k2,(XC _).symm,by rw[yx];exact g4,g5,au⟩,λyK=> ?_⟩)⟩
   .unfold aX;rw[ho];dsimp only;rw[hc]
   .unfold bD;rw[ho];dsimp only;rw[hc]
   .unfold cu;rw[ho];dsimp only;rw[hc];dsimp only;rw[ha,ht];dsimp only;rw[hu,hv,hw];dsimp only[TD.er];rw[<-g1,mO p3,ZJ hd];dsimp only[ai.er];rw[k3 yK,esub];dsimp only;have:=k4 _ _ p4 yK
    have e1:(TD.p (.v (.arr r.n r.t) (r.l.take lo++(ys++r.l.drop (lo+ys.length))))).er (lk H)=.p (.arr r.n r.t.size (nO (r.l.map r.t.enc) (ys.map r.t.enc) lo)):=by
     show Dv.p (Pl.arr r.n r.t.size ((r.l.take lo++(ys++r.l.drop (lo+ys.length))).map r.t.enc))=_;unfold nO;rw[yal,yal,yce,List.map_drop,yx]
    rw[e1]at this;rw[this];dsimp only;rw[yW (by simp only[yi,yP];exact⟨⟨zP,by rw[g1];exact g2⟩,g3⟩),YF (X8 hd rfl rfl),yx];rfl
  .cases h
 .cases h
def DZ(H:yL ai)(id:Nat):Bool:=
 match H[id]? with
 |some (.var _ ag)=>af
 |_=>ag
def EA(P:yg)(t:yc)(lo hi:yO Int)(all:yL TD)(H:yL ai)(K:Kn O):TD->yO O
 |.ak id yQ=>match P.underlying t with
  |some (.array n e)=>(mQ H id).bind λd=>eQ (lk H) yQ d λsub hs _=>sub.inner.bind λy=>y.dF.bind λr=>
   if(ah (n=r.n)&&okB P e r.t.size&&ah (n<=maxLen))=af then if ei n lo hi=af then(if DZ H id=af then K all (.p (.sl (ab af) r.t (WU r.l lo hi))) H (.cW::hs) 1 else
    K all (.p (.sl (ab af) r.t (WU r.l lo hi))) (H.set id (.var d ag)) (.cW::hs) 2) else ae else ae
  |_=>ae
 |_=>ae
theorem ZHW{t:yc}{x:yn}{lo hi:yO yn}{l h':yO Int}{xd:TD}(ho:o.op=.slice t x lo hi ae)(hx:aW P ts t x=ab xd)(hl:fg P ts lo=ab l)(hh:fg P ts hi=ab h')
 (h:EA P t l h' all H K xd=ab out):∃a d H' hs c,K a d H' hs c=ab out/\Good P o ts all H a d H' hs c:=by
 have hv:=Zq (L:=lk H) hx;have hl:=iR (L:=lk H) hl;have hh:=iR (L:=lk H) hh;unfold EA at h;split at h
 .rename_i id yQ;split at h
  .rename_i n e hu;obtain⟨d,h1,h⟩:=yf.1 h;obtain⟨st,h2,h3⟩:=qQ h1;obtain⟨sub,hs,put,C,k1,k2,k3,_⟩:=Xf _ _ _ _ h;obtain⟨y,p1,k1⟩:=yf.1 k1;obtain⟨r,p2,k1⟩:=yf.1 k1;obtain⟨p4,k1⟩:=Za k1;obtain⟨p5,k1⟩:=Za k1;have esub:sub.er (lk H)=.p (.arr r.n r.t.size (r.l.map r.t.enc)):=by rw[YQ p1,TD.er,WY p2]
   have nN:∀yK,aX P o (TD.ay (lk H) ts) (.cW::hs++yK)=ae:=λyK=>by
    unfold aX;rw[ho];dsimp only;rw[hu,hv,hl,hh];rfl
   split at k1
   .rename_i hst
    have hst':st=ag:=by
     unfold DZ at hst;rw[h2]at hst
     cases st with
     |false=>rfl
     |true=>cases hst
    subst hst';refine⟨_,_,_,_,_,k1,rfl,rfl,.inr (.inl ⟨rfl,rfl,nN,C++[QW yQ=XZ yQ]++YT n l h',Zk.2 ⟨Zk.2 ⟨k2,(XC _).symm,au⟩,mL p5⟩,λyK=> ?_⟩)⟩;unfold bD;rw[ho];dsimp only;rw[hu,hv,hl,hh];dsimp only[TD.er];rw[yaa];dsimp only;rw[h3];dsimp only;rw[k3 yK,esub];dsimp only;rw[yW (by simpa[okB,and_assoc] using p4),TP.pe,ur]
   rename_i hst
   have hst':st=af:=by
    unfold DZ at hst;rw[h2]at hst
    cases st with
    |true=>rfl
    |false=>exact absurd rfl hst
   subst hst';refine⟨_,_,_,_,_,k1,QA h2 rfl rfl,rfl,dt (⟨rfl,nN,λyK=> ?_,C++[QW yQ=XZ yQ]++YT n l h',Zk.2 ⟨Zk.2 ⟨k2,(XC _).symm,au⟩,mL p5⟩,λyK=> ?_⟩)⟩
   .unfold bD;rw[ho];dsimp only;rw[hu,hv,hl,hh];dsimp only[TD.er];rw[yaa];dsimp only;rw[h3]
   .unfold cu;rw[ho];dsimp only;rw[hu,hv,hl,hh];dsimp only[TD.er];rw[yaa];dsimp only;rw[h3];dsimp only;rw[k3 yK,esub];dsimp only;rw[yW (by simpa[okB,and_assoc] using p4),YF (X8 h2 rfl rfl),TP.pe,ur];rfl
  .cases h
 .cases h
def uG(dst:Tmp)(all:yL TD)(H:yL ai)(K:Kn O):TD->yO O
 |.view id yQ s lo n=>(mQ H id).bind λd=>eQ (lk H) yQ d λsub hs _=>sub.inner.bind λy=>y.dF.bind λr=>
  if(ah (r.t.size=s))=af then if(ah (lo+n<=r.n))=af then K all (.p (.sl (ab af) r.t ((r.l.drop lo).take n))) (H.set id (.var d ag)) (.still dst::hs) 2 else ae else ae
 |.rv id v s lo n=>match H[id]? with
  |some (.row w s' _ e d)=>d.inner.bind λy=>y.dF.bind λr=>
   if(ah (r.t.size=s)&&ah (s'=s)&&w==v)=af then if(ah (lo+n<=r.n))=af then K all (.p (.sl ae r.t ((r.l.drop lo).take n))) (H.set id (.row v s ag e d)) [.still dst] 2 else ae else ae
  |_=>ae
 |_=>ae
theorem ZCw{dst:Tmp}{xd:TD}(h:uG dst all H K xd=ab out):∃a d H' hs,K a d H' (.still dst::hs) 2=ab out/\TD.ay (lk H') a=TD.ay (lk H) all/\a.length=all.length/\
 ∃C,bc C/\∀yK,iM (xd.er (lk H)) (aB H) (hs++yK)=ab (C,d.er (lk H'),aB H',yK):=by
 unfold uG at h;split at h
 .rename_i id yQ s lo n;obtain⟨d,h1,h⟩:=yf.1 h;obtain⟨st,h2,h3⟩:=qQ h1;obtain⟨sub,hs,put,C,k1,k2,k3,_⟩:=Xf _ _ _ _ h;obtain⟨y,p1,k1⟩:=yf.1 k1;obtain⟨r,p2,k1⟩:=yf.1 k1;obtain⟨p4,k1⟩:=Za k1;obtain⟨p5,k1⟩:=Za k1;have p4:=yF p4;have p5:=yF p5;have esub:sub.er (lk H)=.p (.arr r.n r.t.size (r.l.map r.t.enc)):=by rw[YQ p1,TD.er,WY p2]
  refine⟨_,_,_,_,k1,QA h2 rfl rfl,rfl,C++[QW yQ=XZ yQ,lo+n<=r.n],Zk.2 ⟨k2,(XC _).symm,p5,au⟩,λyK=> ?_⟩;unfold iM;rw[show(TD.view id yQ s lo n).er (lk H)=Dv.view id (XZ yQ) (yQ.map ca.i) s lo n from rfl]
  try dsimp only
  rw[h3]
  try dsimp only
  rw[k3 yK,esub]
  try dsimp only
  rw[yW p4,YF (X8 h2 rfl rfl),TD.er,TP.pe,yce,List.map_drop,p4]
  try rfl
 .rename_i id v s lo n;split at h
  .rename_i w s' st e d hd;obtain⟨y,p1,k1⟩:=yf.1 h;obtain⟨r,p2,k1⟩:=yf.1 k1;obtain⟨p4,k1⟩:=Za k1;obtain⟨p5,k1⟩:=Za k1;simp only[yi,yP]at p4;have p5:=yF p5;have esub:d.er (lk H)=.p (.arr r.n r.t.size (r.l.map r.t.enc)):=by rw[YQ p1,TD.er,WY p2]
   refine⟨_,_,_,[],k1,QA hd rfl rfl,rfl,[lo+n<=r.n],⟨p5,au⟩,λyK=> ?_⟩;rw[yv];unfold iM;rw[show(TD.rv id v s lo n).er (lk H)=Dv.rv id v s lo n from rfl]
   dsimp only;rw[ZJ hd,ai.er,esub];dsimp only;rw[yW (by simp[p4]),YF (X8 hd rfl rfl),ai.er,esub,TD.er,TP.pe,yce,List.map_drop,p4.1.1]
  .cases h
 .cases h
theorem ZCx{x:yn}{dst:Tmp}{xd:TD}(ho:o.op=.assign x\/o.op=.move x)(hd:o.dst=ab dst)(hx:aW P ts o.type x=ab xd)(h:uG dst all H K xd=ab out):
 ∃a d H' hs c,K a d H' hs c=ab out/\Good P o ts all H a d H' hs c:=by
 have hv:=Zq (L:=lk H) hx;obtain⟨a,d,H',hs,k1,k2,k3,C,k4,k5⟩:=ZCw h;refine⟨_,_,_,_,_,k1,k2,k3,dt (⟨rfl,λyK=> ?_,λyK=> ?_,C,k4,λyK=> ?_⟩)⟩
 .rcases ho with ho|ho <;> (unfold aX;rw[ho];rfl)
 .rcases ho with ho|ho <;> (unfold bD;rw[ho])
 .rcases ho with ho|ho
  .unfold cu;rw[ho];dsimp only;rw[yaa];dsimp only;rw[yW hd,hv];exact k5 yK
  .unfold cu;rw[ho];dsimp only;rw[yaa];dsimp only;rw[yW hd,hv];exact k5 yK
def TD.iZ:TD->Bool
 |.rw _=>af
 |_=>ag
def TD.rm:TD->Bool
 |.rp _ _=>af
 |_=>ag
theorem ZGs{id:Nat}{T:Ty}{v:yL Unit}{st st':Bool}{e e':yc}{l l':yL T.aN}(hd:H[id]? =ab (.aQ T v st e l))(hl:l'.length=l.length):lk (H.set id (.aQ T v st' e' l'))=lk H:=by
 funext j;unfold lk;by_cases hj:id=j
 .subst hj;rw[aj hd,hd];show ab _=ab _;rw[hl]
 .rw[aF hj]
def EB(P:yg)(t:yc)(i:Int)(all:yL TD)(H:yL ai)(K:Kn O):TD->yO O
 |.rw id=>match P.underlying t,H[id]? with
  |some (.slice e),ab (.aQ T v st e' l)=>if okB P e T.size=af then if ba i l.length=af then K all (.rp id [.ix i.toNat T.size]) H [] 0 else ae else ae
  |_,_=>ae
 |_=>ae
theorem ZzR{t:yc}{x ix:yn}{xd:TD}{q:IntKind×Int}{ip:TP}(ho:o.op=.indexAddr t x ix)(hx:aW P ts t x=ab xd)(hi:aW P ts 0 ix=ab (.p ip))(hq:iz ip=ab q)(h:EB P t q.2 all H K xd=ab out):
 ∃a d H' hs c,K a d H' hs c=ab out/\Good P o ts all H a d H' hs c:=by
 have hv:=Zq (L:=lk H) hx;have hw:=Zq (L:=lk H) hi;rw[TD.er,(og hq).1]at hw;unfold EB at h;split at h
 .rename_i id;split at h
  .rename_i e T v st e' l hu hd;obtain⟨h3,h⟩:=Za h;obtain⟨h4,h⟩:=Za h;refine⟨_,_,_,_,_,h,rfl,rfl,.inl ⟨rfl,rfl,[0<=q.2,q.2 < (l.length:Int)],⟨(Vu h4).1,(Vu h4).2,au⟩,λyK=> ?_⟩⟩;simp only[yv];unfold aX;rw[ho];dsimp only;rw[hu,hv,hw,(fC hd).1,(fC hd).2];dsimp only;rw[yW (by simpa[okB] using h3)];simp[XZ,ca.o,ca.i]
  .cases h
 .cases h
def EC(P:yg)(t:yc)(all:yL TD)(H:yL ai)(K:Kn O):TD->yO O
 |.rw id=>match P.underlying t,H[id]? with
  |some (.slice _),ab (.aQ T v st e' l)=>K all (.p (.v (.int .i64) (l.length:Int))) H [] 0
  |_,_=>ae
 |_=>ae
theorem ZEQ{t:yc}{x:yn}{c:Call}{xd:TD}(ho:o.op=.call c)(hc:c.callee=.builtin .len)(ha:c.args.toList=[x])(ht:c.argTypes.toList=[t])(hx:aW P ts t x=ab xd)(h:EC P t all H K xd=ab out):
 ∃a d H' hs c,K a d H' hs c=ab out/\Good P o ts all H a d H' hs c:=by
 have hv:=Zq (L:=lk H) hx;unfold EC at h;split at h
 .rename_i id;split at h
  .rename_i e T v st e' l hu hd;refine⟨_,_,_,_,_,h,rfl,rfl,.inl ⟨rfl,rfl,[],zP,λyK=> ?_⟩⟩;simp only[yv];unfold aX;rw[ho];dsimp only;rw[hc];dsimp only;rw[ha,ht];dsimp only;rw[hu,hv,(fC hd).1];rfl
  .cases h
 .cases h
def ED(P:yg)(t:yc)(all:yL TD)(H:yL ai)(K:Kn O):TD->yO O
 |.rp id yQ=>match H[id]? with
  |some (.aQ T v st e l)=>eQ (lk H) yQ (.p (.v (.arr l.length T) l)) λsub hs _=>if gu P t (sub.er (lk H))=af then K all sub H hs 1 else ae
  |_=>ae
 |_=>ae
theorem ZCy{t:yc}{x:yn}{xd:TD}(ho:o.op=.load t x)(hx:aW P ts 0 x=ab xd)(h:ED P t all H K xd=ab out):∃a d H' hs c,K a d H' hs c=ab out/\Good P o ts all H a d H' hs c:=by
 have hv:=Zq (L:=lk H) hx;unfold ED at h;split at h
 .rename_i id yQ;split at h
  .rename_i T v st e l hd;obtain⟨sub,hs,put,C,k1,k2,k3,_⟩:=Xf _ _ _ _ h;obtain⟨k4,k5⟩:=Za k1;refine⟨_,_,_,_,_,k5,rfl,rfl,.inr (.inl ⟨rfl,rfl,λyK=> ?_,C++[QW yQ=XZ yQ],Zk.2 ⟨k2,(XC _).symm,au⟩,λyK=> ?_⟩)⟩
   .unfold aX;rw[ho];dsimp only;rw[hv];rfl
   .unfold bD;rw[ho];dsimp only;rw[hv,(fC hd).2];dsimp only;rw[ZJ hd];dsimp only[ai.er];have k6:Yf (.p (.arr l.length T.size (l.map T.enc))) (yQ.map ca.i) (hs++yK)=ab (C,QW yQ,sub.er (lk H),yK):=k3 yK;rw[k6];dsimp only;rw[yW (by rw[yi];exact⟨k4,by simp⟩)]
  .cases h
 .cases h
def EE(P:yg)(t:yc)(all:yL TD)(H:yL ai)(K:Kn O)(v:TD):TD->yO O
 |.rp id (.ix i s::r)=>match H[id]? with
  |some (.aQ T u af e l)=>if s=T.size then(l[i]?).bind λy=>eQ (lk H) r (.p (.v T y)) λsub hs put=>(put (v.cJ (lk H))).bind λd1=>d1.inner.bind λz=>(TP.to iQ z T).bind λy'=>
   if lA P t ((v.cJ (lk H)).er (lk H)) (sub.er (lk H))=af then K all .ao (H.set id (.aQ T u af e (l.set i y'))) (.el (T.enc y)::hs) 2 else ae else ae
  |_=>ae
 |_=>ae
theorem ZzT{t:yc}{x y:yn}{xd yd:TD}(ho:o.op=.store t x y)(hx:aW P ts 0 x=ab xd)(hy:aW P ts t y=ab yd)(h:EE P t all H K yd xd=ab out):
 ∃a d H' hs c,K a d H' hs c=ab out/\Good P o ts all H a d H' hs c:=by
 have hv:=Zq (L:=lk H) hx;have hw:=Zq (L:=lk H) hy;unfold EE at h;split at h
 .rename_i id i s r;split at h
  .rename_i T u e l hd;split at h
   .rename_i hs0;obtain⟨y0,h2,h⟩:=yf.1 h;obtain⟨sub,hs,put,C,k1,k2,k3,k4⟩:=Xf r (.p (.v T y0)) _ out h;obtain⟨d1,p1,k1⟩:=yf.1 k1;obtain⟨z,p2,k1⟩:=yf.1 k1;obtain⟨y',p3,k1⟩:=yf.1 k1;obtain⟨h4,k1⟩:=Za k1;have h4':=h4;unfold lA at h4';have hL:lk (H.set id (.aQ T u af e (l.set i y')))=lk H:=ZGs hd (by rw[List.length_set])
    have hg:∀yK,Yf (.p (.arr l.length T.size (l.map T.enc))) (i::r.map ca.i) (.el (T.enc y0)::(hs++yK))=ab (((l.map T.enc)[i]? =ab (T.enc y0))::C,i*T.size+QW r,sub.er (lk H),yK):=by
     intro yK;unfold Yf;dsimp only;have:=k3 yK;rw[TD.er,TP.pe]at this;rw[this,yab]
    have hp:∀yK,XW ((yd.cJ (lk H)).er (lk H)) (.p (.arr l.length T.size (l.map T.enc))) (i::r.map ca.i) (.el (T.enc y0)::(hs++yK))=ab (.p (.arr l.length T.size ((l.set i y').map T.enc))):=by
     intro yK;have:=k4 _ d1 p1 yK;rw[TD.er,TP.pe]at this;unfold XW;dsimp only;rw[this,YQ p2,TD.er];dsimp only;rw[kz z T y' p3, <-ybi]
    refine⟨_,_,_,_,_,k1,by rw[hL],rfl,dt (⟨rfl,λyK=> ?_,λyK=> ?_,(((l.map T.enc)[i]? =ab (T.enc y0))::C)++[i*T.size+QW r=XZ (.ix i s::r)],
     Zk.2 ⟨⟨qu h2,k2⟩,by rw[XC,QW,ca.o,hs0],au⟩,λyK=> ?_⟩)⟩
    .unfold aX;rw[ho]
    .unfold bD;rw[ho]
    .unfold cu;rw[ho];dsimp only;rw[hv,hw,(fC hd).2];dsimp only;rw[ZJ hd];dsimp only[ai.er];rw[yad,show(ca.ix i s).i=i from rfl,yaa,hg yK]
     dsimp only;have hst:ir (i::r.map ca.i) (.p (.arr l.length T.size (l.map T.enc))) (yd.er (lk H))=ab ((yd.cJ (lk H)).er (lk H)):=DO (yQ:=.ix i s::r) (d:=.p (.v (.arr l.length T) l)) (v:=yd) (new:=yd.cJ (lk H)) (L:=lk H) rfl;rw[hst];dsimp only;rw[hp yK];dsimp only;rw[yW (by simp only[yi]at h4' ⊢;exact⟨⟨h4',by simp⟩,by simp[aO]⟩),YF hL];simp only[ai.er,List.length_set];rfl
   .cases h
  .cases h
 .cases h
def EF(dst:Tmp)(all:yL TD)(H:yL ai)(K:Kn O):TD->yO O
 |.rw id=>match H[id]? with
  |some (.aQ T v st e l)=>K all (.p (.sl ae T l)) (H.set id (.aQ T v ag e l)) [.still dst] 2
  |_=>ae
 |_=>ae
theorem ZzV{x:yn}{dst:Tmp}{xd:TD}(ho:o.op=.assign x\/o.op=.move x)(hd:o.dst=ab dst)(hx:aW P ts o.type x=ab xd)(h:EF dst all H K xd=ab out):
 ∃a d H' hs c,K a d H' hs c=ab out/\Good P o ts all H a d H' hs c:=by
 have hv:=Zq (L:=lk H) hx;unfold EF at h;split at h
 .rename_i id;split at h
  .rename_i T v st e l hr;have hL:lk (H.set id (.aQ T v ag e l))=lk H:=ZGs hr rfl
   have k5:∀yK,iM ((TD.rw id).er (lk H)) (aB H) yK=ab ([0+l.length<=l.length],.p (.sl ae T.size (l.map T.enc)),aB (H.set id (.aQ T v ag e l)),yK):=by
    intro yK;unfold iM;rw[(fC hr).1];dsimp only;rw[ZJ hr,ai.er];dsimp only;rw[yW (by simp),YF hL,ai.er,List.drop_zero, <-yx (f:=T.enc),ybd]
   refine⟨_,_,_,_,_,h,by rw[hL],rfl,dt (⟨rfl,λyK=> ?_,λyK=> ?_,[0+l.length<=l.length],⟨by omega,au⟩,λyK=> ?_⟩)⟩
   .rcases ho with ho|ho <;> (unfold aX;rw[ho];rfl)
   .rcases ho with ho|ho <;> (unfold bD;rw[ho])
   .rcases ho with ho|ho
    .unfold cu;rw[ho];dsimp only;rw[yaa];dsimp only;rw[yW hd,hv];exact k5 yK
    .unfold cu;rw[ho];dsimp only;rw[yaa];dsimp only;rw[yW hd,hv];exact k5 yK
  .cases h
 .cases h
theorem EG{L M:Lk}{n:Nat}(h:∀id t,id≠n->Z3 L id t ae=Z3 M id t ae)(x:ai)(hf:x.free n=af):x.er L=x.er M:=by
 cases x with
 |var d st=>rw[ai.er,ai.er,iT h d hf]
 |row v s st e d=>rw[ai.er,ai.er,iT h d hf]
 |bJ t np v st e pre d post=>rw[ai.er,ai.er,iT h d hf]
 |_=>rfl
theorem ru{T:Ty}{v:yL Unit}{st:Bool}{e:yc}{l:yL T.aN}(h:H.all (ai.free H.length)=af):aB (H++[.aQ T v st e l])=aB H++[.row v.length T.size st e (.p (.arr l.length T.size (l.map T.enc)))]:=by
 unfold aB;rw[yal];congr 1;refine ycl λx hx=> ?_;have hf:=ybc.1 h x hx;exact(EG (λid t hn=>kD id t hn) x hf).symm
theorem rx{T:Ty}{v:yL Unit}{st:Bool}{e:yc}{l:yL T.aN}:(TD.rw H.length).er (lk (H++[.aQ T v st e l]))=.rv H.length v.length T.size 0 l.length:=
 (fC (H:=H++[.aQ T v st e l]) (List.getElem?_concat_length ..)).1
def EH(P:yg)(row:Bool)(t u:yc)(all:yL TD)(H:yL ai)(K:Kn O)(y:TD):TD->yO O
 |.rw id=>match P.underlying t,H[id]? with
  |some (.slice e),ab (.aQ T v st e' l)=>(P.info? e).bind λi=>rj P T u H (λys hs=>
   if(cf i&&ah (i.size=T.size)&&ah (P.cellsOf e=T.size)&&ah (e'=e)&&ah (T.size≠0))=af then if cO l.length ys.length i.bytes=af then
    K (TD.co (lk H) id all) (.rw id) ((H.map (ai.stale (lk H) id)).set id (.aQ T (()::v) st e (l++ys))) (.raw::hs) 2 else ae else ae) y
  |_,_=>ae
 |.p (.sl (ab ag) _ [])=>match P.underlying t with
  |some (.slice e)=>(P.info? e).bind λi=>(fJ P gj e).bind λT=>(kB (lk H) P T u y).bind λys=>
   if(cf i&&i.size !=0&&ah (i.size=T.size)&&ah (P.cellsOf e=T.size)&&TD.frees H.length all&&H.all (ai.free H.length))=af then if lm ys.length i.bytes=af then
    K all (.rw H.length) (H++[.aQ T [] af e ys]) [.arr] 2 else ae else ae
  |_=>ae
 |_=>ae
theorem ZwR{row:Bool}{t u:yc}{x y:yn}{c:Call}{xd yd:TD}(ho:o.op=.call c)(hc:c.callee=.builtin .append)(ha:c.args.toList=[x,y])(ht:c.argTypes.toList=[t,u])
 (hv:Zs P (TD.ay (lk H) ts) t x=xd.er (lk H)) (hy:aW P ts u y=ab yd) (h:EH P row t u all H K yd xd=ab out):∃a d H' hs c,K a d H' hs c=ab out/\Good P o ts all H a d H' hs c:=by
 have hw:=Zq (L:=lk H) hy;unfold EH at h;split at h
 .rename_i id;split at h
  .rename_i e T v st e' l hu hd;obtain⟨i,h1,h⟩:=yf.1 h;obtain⟨ys,hs,C,k1,k2,k3⟩:=DT h;obtain⟨k4,k6⟩:=Za k1;obtain⟨k5,kk⟩:=Za k6;clear k1 k6;simp only[yi,yP]at k4;obtain⟨⟨⟨⟨g1,g2⟩,g3⟩,g4⟩,g5⟩:=k4;subst g4;simp only[cO,yi,yP]at k5;have hlt:id < H.length:=(yo.1 hd).1
   refine⟨_,_,_,_,_,kk,bT (λid' t hn=>Vk (lk H) id' t hn) all,oq all,dt (⟨rfl,λyK=> ?_,λyK=> ?_,
    C++[l.length<=l.length,(l.length+(ys.map T.enc).length)*i.bytes<=Zr,l.length+(ys.map T.enc).length<=maxLen,st=af\/l.length=l.length],Zk.2 ⟨k2,ym _,by simpa using k5.1,by simpa using k5.2,.inr rfl,au⟩,λyK=> ?_⟩)⟩
   .unfold aX;rw[ho];dsimp only;rw[hc];dsimp only;rw[ha,ht,yaa]
   .unfold bD;rw[ho];dsimp only;rw[hc]
   .unfold cu;rw[ho];dsimp only;rw[hc];dsimp only;rw[ha,ht];dsimp only;rw[hu,hv,hw,(fC hd).1];rw[yaa];dsimp only;rw[h1,k3 yK,ZJ hd];dsimp only[ai.er]
    have hnew:((H.map (ai.stale (lk H) id)).set id (.aQ T (()::v) st e' (l++ys)))[id]? =ab (.aQ T (()::v) st e' (l++ys)):=by
     rw[yci (by rw[yx];exact hlt)]
    have hH:aB ((H.map (ai.stale (lk H) id)).set id (.aQ T (()::v) st e' (l++ys)))=(aB H).set id (.row (v.length+1) T.size st e' (.p (.arr (l.length+ys.length) T.size (l.map T.enc++ys.map T.enc)))):=by
     unfold aB;rw[ybi,yaq]
     have:(ai.aQ T (()::v) st e' (l++ys)).er (lk ((H.map (ai.stale (lk H) id)).set id (.aQ T (()::v) st e' (l++ys))))=.row (v.length+1) T.size st e' (.p (.arr (l.length+ys.length) T.size (l.map T.enc++ys.map T.enc))):=by
      simp only[ai.er,yah,yr,yal]
     rw[this];congr 1;refine ycl λx hx=> ?_;exact qJ (λid t hn=>Vk (lk H) id t hn) x
    rw[yW (by simp[g1,g2,g5]),hH,(fC hnew).1];simp only[yx,yah,yr];rw[show(l.map T.enc).take l.length=l.map T.enc by rw[<-yx (f:=T.enc),ybd]]
  .cases h
 .rename_i T0;split at h
  .rename_i e hu;obtain⟨i,h1,h⟩:=yf.1 h;obtain⟨T,h2,h⟩:=yf.1 h;obtain⟨ys,h3,h⟩:=yf.1 h;obtain⟨k4,h⟩:=Za h;obtain⟨k5,h⟩:=Za h;simp only[yi,yP]at k4;obtain⟨⟨⟨⟨⟨g1,g2⟩,g3⟩,g4⟩,g5⟩,g6⟩:=k4;obtain⟨g7,g8⟩:=Qz k5;refine⟨_,_,_,_,_,h,mT g5,rfl,dt (⟨rfl,λyK=> ?_,λyK=> ?_,[(ys.map T.enc).length*i.bytes<=Zr,(ys.map T.enc).length<=maxLen],⟨by rw[yx];exact g7,by rw[yx];exact g8,au⟩,λyK=> ?_⟩)⟩
   .unfold aX;rw[ho];dsimp only;rw[hc];dsimp only;rw[ha,ht];rfl
   .unfold bD;rw[ho];dsimp only;rw[hc]
   .unfold cu;rw[ho];dsimp only;rw[hc];dsimp only;rw[ha,ht];dsimp only;rw[hu,hv,hw,show(TD.p (TP.sl (ab ag) T0 [])).er (lk H)=Dv.p (.sl (ab ag) T0.size []) from rfl]
    dsimp only;rw[h1,g4,mO h3,yaa,yv];dsimp only;rw[yW (by simp only[yi];exact⟨g1,g2⟩),ru g6,ZB,rx,g3];simp only[yx,ycn]
  .cases h
 .cases h
def EI(P:yg)(ts:yL TD)(t:yc)(len:Nat)(parts:yL (Nat×yn))(all:yL TD)(H:yL ai)(K:Kn O):yO O:=
 mN (lk H) P ts t len parts λT l e=>if(ah (l.length=len)&&TD.frees H.length all&&H.all (ai.free H.length))=af then K all (.rw H.length) (H++[.aQ T [] af e l]) [.arr] 2 else ae
theorem ZES{t:yc}{len:Nat}{parts:Array (Nat×yn)}(ho:o.op=.buildSlice t len parts)(h:EI P ts t len parts.toList all H K=ab out):
 ∃a d H' hs c,K a d H' hs c=ab out/\Good P o ts all H a d H' hs c:=by
 unfold EI at h;obtain⟨e,T,l,i,xs,h1,hu,hi,hl,hz,hs,hx⟩:=qF h;obtain⟨h2,h1⟩:=Za h1;simp only[yi,yP]at h2;obtain⟨⟨h2,g5⟩,g6⟩:=h2;refine⟨_,_,_,_,_,h1,mT g5,rfl,dt (⟨rfl,λyK=> ?_,λyK=> ?_,[],zP,λyK=> ?_⟩)⟩
 .unfold aX;rw[ho];rfl
 .unfold bD;rw[ho]
 .unfold cu;rw[ho];dsimp only;rw[yaa,yv];dsimp only;rw[hu];dsimp only;rw[hi,hl];dsimp only;rw[yW (by simpa using hz),hx,ru g6,rx,ZB,hs,h2];rfl
def EJ(P:yg)(ts:yL TD)(t:yc)(len:Nat)(parts:yL (Nat×yn))(id:Nat)(all:yL TD)(H:yL ai)(K:Kn O):yO O:=
 mN (lk H) P ts t len parts λT l e=>match H[id]? with
  |some (.aQ T' v _ e' _)=>if(ah (l.length=len)&&ah (e'=e)&&ah (T'.size=T.size))=af then K (TD.co (lk H) id all) (.rw id) ((H.map (ai.stale (lk H) id)).set id (.aQ T (()::v) af e l)) [.fresh id] 2 else ae
  |_=>ae
theorem ZCz{t:yc}{len id:Nat}{parts:Array (Nat×yn)}(ho:o.op=.buildSlice t len parts)(h:EJ P ts t len parts.toList id all H K=ab out):
 ∃a d H' hs c,K a d H' hs c=ab out/\Good P o ts all H a d H' hs c:=by
 unfold EJ at h;obtain⟨e,T,l,i,xs,h1,hu,hi,hl,hz,hs,hx⟩:=qF h;split at h1
 case h_2=>cases h1
 rename_i T0 v st e' l0 hd;obtain⟨h2,h1⟩:=Za h1;simp only[yi,yP]at h2;obtain⟨⟨h2,rfl⟩,h3⟩:=h2;have hlt:id < H.length:=(yo.1 hd).1
 have hnew:((H.map (ai.stale (lk H) id)).set id (.aQ T (()::v) af e' l))[id]? =ab (.aQ T (()::v) af e' l):=by
  rw[yci (by rw[yx];exact hlt)]
 have hH:aB ((H.map (ai.stale (lk H) id)).set id (.aQ T (()::v) af e' l))=(aB H).set id (.row (v.length+1) T.size af e' (.p (.arr l.length T.size (l.map T.enc)))):=by
  unfold aB;rw[ybi,yaq]
  have:(ai.aQ T (()::v) af e' l).er (lk ((H.map (ai.stale (lk H) id)).set id (.aQ T (()::v) af e' l)))=.row (v.length+1) T.size af e' (.p (.arr l.length T.size (l.map T.enc))):=by
   simp only[ai.er,yah]
  rw[this];congr 1;refine ycl λx hx=> ?_;exact qJ (λid t hn=>Vk (lk H) id t hn) x
 refine⟨_,_,_,_,_,h1,bT (λid' t hn=>Vk (lk H) id' t hn) all,oq all,dt (⟨rfl,λyK=> ?_,λyK=> ?_,[],zP,λyK=> ?_⟩)⟩
 .unfold aX;rw[ho];rfl
 .unfold bD;rw[ho]
 .unfold cu;rw[ho];dsimp only;rw[yaa,yv];dsimp only;rw[hu,ZJ hd];dsimp only[ai.er];rw[hi,hl];dsimp only;rw[yW (by rw[yi,yi,yT,yT];exact⟨⟨hz,rfl⟩,h3.trans hs.symm⟩),hx,hH,(fC hnew).1,hs, <-h2];simp only[yah]
def EK(P:yg)(t:yc)(n n':Int)(all:yL TD)(H:yL ai)(K:Kn O):yO O:=
 match P.underlying t with
 |some (.slice e)=>(P.info? e).bind λi=>(fJ P gj e).bind λT=>
  if(cf i&&i.size !=0&&ah (i.size=T.size)&&TD.frees H.length all&&H.all (ai.free H.length))=af then if(ah (n=0)&&iX n' i.bytes)=af then K all (.rw H.length) (H++[.aQ T [] af e []]) [.arr] 2 else ae else ae
 |_=>ae
theorem ZCA{t:yc}{l c:yn}{n n':Num}(ho:o.op=.makeSlice t l c)(hl:(aW P ts 0 l).bind TD.num=ab n)(hc:(aW P ts 0 c).bind TD.num=ab n')(hk:n.k=.i64)(hk':n'.k=.i64)
 (h:EK P t n.n n'.n all H K=ab out):∃a d H' hs c,K a d H' hs c=ab out/\Good P o ts all H a d H' hs c:=by
 obtain⟨ld,l1,l2⟩:=yf.1 hl;obtain⟨cd,c1,c2⟩:=yf.1 hc;have hv:=Zq (L:=lk H) l1;have hw:=Zq (L:=lk H) c1;rw[V7 l2,hk]at hv;rw[V7 c2,hk']at hw;unfold EK at h;have nN:∀hs,aX P o (TD.ay (lk H) ts) hs=ae:=λhs=>by unfold aX;rw[ho]
 have nR:∀hs,bD P o (TD.ay (lk H) ts) (aB H) hs=ae:=λhs=>by unfold bD;rw[ho]
 split at h
 .rename_i e hu;obtain⟨i,h1,h⟩:=yf.1 h;obtain⟨T,h2,h⟩:=yf.1 h;obtain⟨h3,h⟩:=Za h;obtain⟨h4,h⟩:=Za h;simp only[yi,yP]at h3;obtain⟨⟨⟨g0,h3⟩,g5⟩,g6⟩:=h3;simp only[iX,yi,yP]at h4;obtain⟨g1,g2⟩:=Qz h4.2.2;refine⟨_,_,_,_,_,h,mT g5,rfl,dt (⟨rfl,λyK=>nN _,λyK=>nR _,[n.n=0,0<=n'.n,n'.n.toNat*i.bytes<=Zr,n'.n.toNat<=maxLen],⟨h4.1,h4.2.1,g1,g2,au⟩,λyK=> ?_⟩)⟩;unfold cu;rw[ho];dsimp only;rw[hu,hv,hw];dsimp only;rw[h1,yaa,yv];dsimp only;rw[yW (by simpa using g0),ru g6,rx,ZB,h3];rfl
 .cases h
def EL(P:yg)(t:yc)(n n':Int)(all:yL TD)(H:yL ai)(K:Kn O):yO O:=
 match P.underlying t with
 |some (.slice e)=>(P.info? e).bind λi=>(fJ P gj e).bind λT=>(lx P e).bind λz=>(TP.to fl z T).bind λy=>
  if(cf i&&ah (i.size=1)&&z.pe.size==1&& !z.pe.isAgg&&ah (T.size=1)&&TD.frees H.length all&&H.all (ai.free H.length))=af then
   if(ah (n'=n)&&iX n i.bytes)=af then K all (.rw H.length) (H++[.aQ T [] af e (yy n.toNat y)]) [.cW] 2 else ae else ae
 |_=>ae
theorem ZzX{t:yc}{l c:yn}{n n':Num}(ho:o.op=.makeSlice t l c)(hl:(aW P ts 0 l).bind TD.num=ab n)(hc:(aW P ts 0 c).bind TD.num=ab n')(hk:n.k=.i64)(hk':n'.k=.i64)
 (h:EL P t n.n n'.n all H K=ab out):∃a d H' hs c,K a d H' hs c=ab out/\Good P o ts all H a d H' hs c:=by
 obtain⟨ld,l1,l2⟩:=yf.1 hl;obtain⟨cd,c1,c2⟩:=yf.1 hc;have hv:=Zq (L:=lk H) l1;have hw:=Zq (L:=lk H) c1;rw[V7 l2,hk]at hv;rw[V7 c2,hk']at hw;unfold EL at h;have nN:∀hs,aX P o (TD.ay (lk H) ts) hs=ae:=λhs=>by unfold aX;rw[ho]
 have nR:∀hs,bD P o (TD.ay (lk H) ts) (aB H) hs=ae:=λhs=>by unfold bD;rw[ho]
 split at h
 .rename_i e hu;obtain⟨i,h1,h⟩:=yf.1 h;obtain⟨T,h2,h⟩:=yf.1 h;obtain⟨z,z1,h⟩:=yf.1 h;obtain⟨y,z2,h⟩:=yf.1 h;obtain⟨h3,h⟩:=Za h;obtain⟨h4,h⟩:=Za h;simp only[yi,yP,yT]at h3;obtain⟨⟨⟨g0,h3⟩,g5⟩,g6⟩:=h3;simp only[iX,yi,yP]at h4;obtain⟨g1,g2⟩:=Qz h4.2.2;refine⟨_,_,_,_,_,h,mT g5,rfl,dt (⟨rfl,λyK=>nN _,λyK=>nR _,[n'.n=n.n,0<=n.n,n.n.toNat*i.bytes<=Zr,n.n.toNat<=maxLen],⟨h4.1,h4.2.1,g1,g2,au⟩,λyK=> ?_⟩)⟩;unfold cu;rw[ho];dsimp only;rw[hu,hv,hw];dsimp only;rw[h1,yaa,yv];dsimp only;rw[om z1];dsimp only;rw[yW (by simp only[yi,yP];exact g0),ru g6,rx,ZB,oe z T y z2];rw[ycn];rw[List.map_replicate,h3,ycs]
 .cases h
def EM(P:yg)(t:yc)(dst:Tmp)(all:yL TD)(H:yL ai)(K:Kn O):TD->yO O
 |.p (.sl (ab ag) T [])=>match P.underlying t with
  |some (.slice e)=>(P.info? e).bind λi=>if(cf i&&i.size !=0&&ah (i.size=T.size)&&TD.frees H.length all&&H.all (ai.free H.length))=af then K all (.rw H.length) (H++[.aQ T [] af e []]) [.iK dst] 2 else ae
  |_=>ae
 |_=>ae
theorem ZzZ{x:yn}{dst:Tmp}{xd:TD}(ho:o.op=.assign x)(hd:o.dst=ab dst)(hx:aW P ts o.type x=ab xd)(h:EM P o.type dst all H K xd=ab out):
 ∃a d H' hs c,K a d H' hs c=ab out/\Good P o ts all H a d H' hs c:=by
 have hv:=Zq (L:=lk H) hx;unfold EM at h;split at h
 .rename_i T;split at h
  .rename_i e hu;obtain⟨i,h1,h⟩:=yf.1 h;obtain⟨h2,h⟩:=Za h;simp only[yi,yP]at h2;obtain⟨⟨⟨g0,g3⟩,g5⟩,g6⟩:=h2;refine⟨_,_,_,_,_,h,mT g5,rfl,dt (⟨rfl,λyK=> ?_,λyK=> ?_,[],zP,λyK=> ?_⟩)⟩
   .unfold aX;rw[ho];rfl
   .unfold bD;rw[ho]
   .unfold cu;rw[ho];dsimp only;rw[yaa,yv];dsimp only;rw[yW hd,hu,hv,show(TD.p (TP.sl (ab ag) T [])).er (lk H)=Dv.p (.sl (ab ag) T.size []) from rfl]
    dsimp only;rw[h1];dsimp only;rw[yW (by simpa using g0),ru g6,rx,ZB,g3];rfl
  .cases h
 .cases h
def EN(P:yg)(t:yc)(lo hi:yO Int)(all:yL TD)(H:yL ai)(K:Kn O):TD->yO O
 |.rw id=>match P.underlying t,H[id]?,lo,hi with
  |some (.slice e),ab (.aQ T v af e' l),ae,ab h=>if(okB P e T.size&&ah (T.size≠0))=af then if(ah (0<=h)&&ah (h.toNat<=l.length))=af then
    K (TD.co (lk H) id all) (.rw id) ((H.map (ai.stale (lk H) id)).set id (.aQ T v af e' (l.take h.toNat))) [.arr] 2 else ae else ae
  |_,_,_,_=>ae
 |_=>ae
theorem ZwS{t:yc}{x:yn}{lo hi:yO yn}{l h':yO Int}{xd:TD}(ho:o.op=.slice t x lo hi ae)(hx:aW P ts t x=ab xd)(hl:fg P ts lo=ab l)(hh:fg P ts hi=ab h')(h:EN P t l h' all H K xd=ab out):
 ∃a d H' hs c,K a d H' hs c=ab out/\Good P o ts all H a d H' hs c:=by
 have hv:=Zq (L:=lk H) hx;have hl2:=iR (L:=lk H) hl;have hh2:=iR (L:=lk H) hh;unfold EN at h;split at h
 .rename_i id;split at h
  .rename_i e T v e' xs h2 hu hd;obtain⟨h3,h⟩:=Za h;obtain⟨h4,h⟩:=Za h;simp only[yi,yP]at h3 h4;obtain⟨h3a,h3b⟩:=ZMe h3.1;have hlt:id < H.length:=(yo.1 hd).1
   have hnew:((H.map (ai.stale (lk H) id)).set id (.aQ T v af e' (xs.take h2.toNat)))[id]? =ab (.aQ T v af e' (xs.take h2.toNat)):=by
    rw[yci (by rw[yx];exact hlt)]
   have zW:(xs.take h2.toNat).length=h2.toNat:=by rw[List.length_take];omega
   have hH:aB ((H.map (ai.stale (lk H) id)).set id (.aQ T v af e' (xs.take h2.toNat)))=(aB H).set id (.row v.length T.size af e' (.p (.arr h2.toNat T.size ((xs.map T.enc).take h2.toNat)))):=by
    unfold aB;rw[ybi,yaq]
    have:(ai.aQ T v af e' (xs.take h2.toNat)).er (lk ((H.map (ai.stale (lk H) id)).set id (.aQ T v af e' (xs.take h2.toNat))))=.row v.length T.size af e' (.p (.arr h2.toNat T.size ((xs.map T.enc).take h2.toNat))):=by
     simp only[ai.er,zW,yce]
    rw[this];congr 1;refine ycl λx hx=> ?_;exact qJ (λid t hn=>Vk (lk H) id t hn) x
   refine⟨_,_,_,_,_,h,bT (λid' t hn=>Vk (lk H) id' t hn) all,oq all,dt (⟨rfl,λyK=> ?_,λyK=> ?_,[0<=h2,h2.toNat<=xs.length],⟨h4.1,h4.2,au⟩,λyK=> ?_⟩)⟩
   .unfold aX;rw[ho];dsimp only;rw[hu,hv,(fC hd).1,hl2,hh2];rfl
   .unfold bD;rw[ho];dsimp only;rw[hu,hv,(fC hd).1,hl2,hh2];rfl
   .unfold cu;rw[ho];dsimp only;rw[hu,hv,(fC hd).1,hl2,hh2];dsimp only;rw[yaa,yv];dsimp only;rw[ZJ hd,ai.er];dsimp only;rw[yW (by simp[h3a,h3b,h3.2]),hH,(fC hnew).1,zW]
  .cases h
 .cases h
def ai.ja:ai->yO (Nat×Nat×Nat)
 |.aO t _ v _ _ pre post=>ab (v.length,t.size,pre.length+post.length)
 |.bJ t _ v _ _ pre _ post=>ab (v.length,t.size,pre.length+(post.length+1))
 |_=>ae
theorem EO{L:Lk}{id:Nat}{v:yL Unit}{s N:Nat}(h:Z3 L id aOC ae=([v,yy s (),yy N ()]:yL aOD)):
 (TD.rw id).er L=.rv id v.length s 0 N/\∀yQ,(TD.rp id yQ).er L=.aY id v.length (XZ yQ) (yQ.map ca.i):=by
 refine⟨?_,λyQ=> ?_⟩
 .rw[TD.er];unfold ew;rw[h];show Dv.rv id v.length (yy s ()).length 0 (yy N ()).length=_;rw[ycs,ycs]
 .rw[TD.er];unfold ew;rw[h];rfl
theorem kF{id:Nat}{x:ai}{q:Nat×Nat×Nat}(hd:H[id]? =ab x)(h:x.ja=ab q):(TD.rw id).er (lk H)=.rv id q.1 q.2.1 0 q.2.2/\∀yQ,(TD.rp id yQ).er (lk H)=.aY id q.1 (XZ yQ) (yQ.map ca.i):=by
 cases x <;> first|cases h|skip
 all_goals
  refine EO ?_;unfold Z3 lk;dsimp only;rw[hd];rfl
def EP(P:yg)(t:yc)(i:Int)(all:yL TD)(H:yL ai)(K:Kn O):TD->yO O
 |.rw id=>match P.underlying t,(H[id]?).bind ai.ja with
  |some (.slice e),ab q=>if okB P e q.2.1=af then if ba i q.2.2=af then K all (.rp id [.ix i.toNat q.2.1]) H [] 0 else ae else ae
  |_,_=>ae
 |_=>ae
theorem Zz2{t:yc}{x ix:yn}{xd:TD}{q:IntKind×Int}{ip:TP}(ho:o.op=.indexAddr t x ix)(hx:aW P ts t x=ab xd)(hi:aW P ts 0 ix=ab (.p ip))(hq:iz ip=ab q)(h:EP P t q.2 all H K xd=ab out):
 ∃a d H' hs c,K a d H' hs c=ab out/\Good P o ts all H a d H' hs c:=by
 have hv:=Zq (L:=lk H) hx;have hw:=Zq (L:=lk H) hi;rw[TD.er,(og hq).1]at hw;unfold EP at h;split at h
 .rename_i id;split at h
  .rename_i e w hu hd;obtain⟨x0,hd,hq0⟩:=yf.1 hd;obtain⟨h3,h⟩:=Za h;obtain⟨h4,h⟩:=Za h;refine⟨_,_,_,_,_,h,rfl,rfl,.inl ⟨rfl,rfl,[0<=q.2,q.2 < (w.2.2:Int)],⟨(Vu h4).1,(Vu h4).2,au⟩,λyK=> ?_⟩⟩;simp only[yv];unfold aX;rw[ho];dsimp only;rw[hu,hv,hw,(kF hd hq0).1,(kF hd hq0).2];dsimp only;rw[yW (by simpa[okB] using h3)];simp[XZ,ca.o,ca.i]
  .cases h
 .cases h
def EQ(P:yg)(t:yc)(all:yL TD)(H:yL ai)(K:Kn O):TD->yO O
 |.rw id=>match P.underlying t,(H[id]?).bind ai.ja with
  |some (.slice _),ab q=>K all (.p (.v (.int .i64) (q.2.2:Int))) H [] 0
  |_,_=>ae
 |_=>ae
theorem ZEV{t:yc}{x:yn}{c:Call}{xd:TD}(ho:o.op=.call c)(hc:c.callee=.builtin .len)(ha:c.args.toList=[x])(ht:c.argTypes.toList=[t])(hx:aW P ts t x=ab xd)(h:EQ P t all H K xd=ab out):
 ∃a d H' hs c,K a d H' hs c=ab out/\Good P o ts all H a d H' hs c:=by
 have hv:=Zq (L:=lk H) hx;unfold EQ at h;split at h
 .rename_i id;split at h
  .rename_i e w hu hd;obtain⟨x0,hd,hq0⟩:=yf.1 hd;refine⟨_,_,_,_,_,h,rfl,rfl,.inl ⟨rfl,rfl,[],zP,λyK=> ?_⟩⟩;simp only[yv];unfold aX;rw[ho];dsimp only;rw[hc];dsimp only;rw[ha,ht];dsimp only;rw[hu,hv,(kF hd hq0).1];rfl
  .cases h
 .cases h
theorem fe{xs:yL TP}{i:Nat}{z:TP}(h:i < xs.length):(xs.set i z)[i]? =ab z:=by rw[yci h]
def ry:yL Nat->TP->(T:Ty)->yO T.aN
 |[],x,T=>match T with
  |.sl u=>if x.iY u=af then ab [] else ae
  |_=>ae
 |i::r,x,T=>match x,T with
  |.agg xs,.st fs=>(xs[i]?).bind λz=>(fs[i]?).bind λU=>(ry r z U).bind λy=>TP.iy fl (xs.set i (.v U y)) fs
  |_,_=>ae
theorem ZCC:∀(xs:yL TP)(fs:yL Ty)(y:Ty.aI fs)(i:Nat)(U:Ty)(z:U.aN),TP.iy fl xs fs=ab y->xs[i]? =ab (.v U z)->(Ty.eP fs y)[i]? =ab (.v U z)
 |[],fs,y,i,U,z,h,k=>by simp at k
 |x::r,fs,y,i,U,z,h,k=>by
  have h':qn (TP.to fl x) r.isEmpty (TP.iy fl r) fs=ab y:=h
  match fs,y,h' with
  |[],_,h'=>cases h'
  |[t],y,h'=>
   have h2:(if r.isEmpty then TP.to fl x t else ae)=ab y:=h'
   split at h2
   .rename_i hr
    cases r with
    |nil=>
     cases i with
     |zero=>
      cases k;obtain⟨e,rfl⟩:=Vj (show Ty.cast U t z=ab y from h2)
      subst e
      rfl
     |succ i=>simp at k
    |cons _ _=>cases hr
   .cases h2
  |t::u::q,y,h'=>
   obtain⟨h1,h2⟩:=VJ (α:=t.aN) (β:=Ty.aI (u::q)) h'
   cases i with
   |zero=>
    cases k;obtain⟨e,e2⟩:=Vj (show Ty.cast U t z=ab y.1 from h1)
    subst e;show ab (TP.v U y.1)=_
    rw[e2]
   |succ i=>
    rw[List.getElem?_cons_succ]at k;exact ZCC r (u::q) y.2 i U z h2 k
theorem ZCD:∀(np:yL Nat)(x:TP)(T:Ty)(y:T.aN),ry np x T=ab y->x.pe=(Xm np (.v T y)).pe
 |[],x,T,y,h=>by
  cases T with
  |sl u=>
   simp only[ry]at h;split at h
   .rename_i hn;cases h;exact DI hn
   .cases h
  |_=>cases h
 |i::r,x,T,y,h=>by
  simp only[ry]at h;split at h
  .rename_i xs fs;obtain⟨z,h1,h⟩:=yf.1 h;obtain⟨U,h2,h⟩:=yf.1 h;obtain⟨w,h3,h⟩:=yf.1 h;have hlt:i < xs.length:=(yo.1 h1).1;have e1:=ZCD r z U w h3;have e2:=ZCC _ fs y i U w h (fe hlt);have e3:=dK _ _ _ h;have e5:(TP.v (.st fs) y).parts=ab (Ty.eP fs y):=rfl
   have key:Xm (i::r) (.v (.st fs) y)=.agg ((Ty.eP fs y).set i (Xm r (.v U w))):=by
    rw[Xm,e5];dsimp only;rw[e2]
   have e6:∀(l:yL TP)(q:TP),TP.cg (l.set i q)=(TP.cg l).set i q.pe:=λl q=>by rw[WB,ybi, <-WB]
   have e7:TP.cg (Ty.eP fs y)=(TP.cg xs).set i (TP.v U w).pe:=((uh fs y).trans e3.symm).trans (e6 _ _)
   have e8:TP.cg ((Ty.eP fs y).set i (Xm r (.v U w)))=TP.cg xs:=by
    rw[e6,e7,List.set_set, <-e1];refine List.ext_getElem? λj=> ?_;rw[List.getElem?_set];split
    .rename_i hj;subst hj;rw[yW (by rw[WB,yx];exact hlt),WB,yaj,h1];rfl
    .rfl
   rw[key];exact congrArg Pl.agg e8.symm
  .cases h
def uH(np:yL Nat)(T:Ty):yL TP->yO (yL T.aN)
 |[]=>ab []
 |x::r=>match ry np x T,uH np T r with
  |some y,ab ys=>ab (y::ys)
  |_,_=>ae
theorem Zyg{np:yL Nat}{T:Ty}:∀{xs:yL TP}{ys:yL T.aN},uH np T xs=ab ys->TP.cg xs=ys.map λy=>(Xm np (.v T y)).pe
 |[],ys,h=>by cases h;rfl
 |x::r,ys,h=>by
  simp only[uH]at h;split at h
  .rename_i y ys' h1 h2;cases h;rw[TP.cg,yad,ZCD np x T y h1,Zyg h2]
  .cases h
def uI(L:Lk)(P:yg)(ts:yL TD)(e:yc):yL (Nat×yn)->yO (yL TP)
 |[]=>ab []
 |q::r=>match (aW P ts e q.2).bind (TD.flat L),uI L P ts e r with
  |some x,ab l=>if x.pe.size=P.cellsOf e then ab (x::l) else ae
  |_,_=>ae
theorem ZCE{L:Lk}{e:yc}:∀{parts:yL (Nat×yn)}{l:yL TP},uI L P ts e parts=ab l->
 Dv.aM (parts.map λq=>Zs P (TD.ay L ts) e q.2)=ab (TP.cg l)/\(TP.cg l).all (λx=>x.size==P.cellsOf e)=af
 |[],l,h=>by cases h;exact⟨rfl,rfl⟩
 |q::r,l,h=>by
  simp only[uI]at h;split at h
  .rename_i x l' hx h2;obtain⟨d,h1,h3⟩:=yf.1 hx;split at h
   .rename_i hs;cases h;obtain⟨e1,e2⟩:=ZCE h2;refine⟨?_, ?_⟩
    .simp only[yad,Dv.aM];rw[Zq h1,uv h3,e1];rfl
    .simp only[TP.cg,List.all_cons,yi,yT];exact⟨hs,e2⟩
   .cases h
  .cases h
def ER(P:yg)(ts:yL TD)(t:yc)(len:Nat)(parts:yL (Nat×yn))(all:yL TD)(H:yL ai)(K:Kn O):yO O:=
 match P.underlying t with
 |some (.slice e)=>(P.info? e).bind λi=>(uI (lk H) P ts e parts).bind λl=>
  if(parts.map (·.1)==yq len)&&(cf i&&i.size !=0&&ah (len*i.size<=16777216)) then K all (.p (.ku (ab af) i.size l)) H [.bare] 0 else ae
 |_=>ae
theorem ZHX{t:yc}{len:Nat}{parts:Array (Nat×yn)}(ho:o.op=.buildSlice t len parts)(h:ER P ts t len parts.toList all H K=ab out):
 ∃a d H' hs c,K a d H' hs c=ab out/\Good P o ts all H a d H' hs c:=by
 unfold ER at h;split at h
 .rename_i e hu;obtain⟨i,h1,h⟩:=yf.1 h;obtain⟨l,h2,h⟩:=yf.1 h;obtain⟨h3,h⟩:=Za h;simp only[yi]at h3;obtain⟨e1,e2⟩:=ZCE h2
  have hl:XK P (TD.ay (lk H) ts) e (P.cellsOf e) len parts.toList=ab (TP.cg l):=by
   unfold XK;rw[yW h3.1,e1];dsimp only;rw[yW e2]
  refine⟨_,_,_,_,_,h,rfl,rfl,.inl ⟨rfl,rfl,[],zP,λyK=> ?_⟩⟩;unfold aX;rw[ho];dsimp only;rw[yaa,yv];dsimp only;rw[hu];dsimp only;rw[h1,hl];dsimp only;rw[yW (by simpa only[yi] using h3.2)];rfl
 .cases h
theorem ES{id:Nat}{e e':ai}(hd:H[id]? =ab e)(h:dy (ab e')=dy (ab e)):lk (H.set id e')=lk H:=by
 funext j;unfold lk;by_cases hj:id=j
 .subst hj;rw[aj hd,hd,h]
 .rw[aF hj]
def ET(P:yg)(t u:yc)(all:yL TD)(H:yL ai)(K:Kn O)(y:TD):TD->yO O
 |.rw id=>match P.underlying t,P.underlying u,H[id]?,y with
  |some (.slice e),ab (.slice _),ab (.aO T np v st e' pre post),.p (.ku _ s xs)=>(P.info? e).bind λi=>(uH np T xs).bind λys=>
   if(cf i&&ah (i.size=T.size)&&ah (P.cellsOf e=T.size)&&ah (e'=e)&&ah (T.size≠0)&&ah (s=T.size))=af then if cO (pre.length+post.length) ys.length i.bytes=af then
    K (TD.co (lk H) id all) (.rw id) ((H.map (ai.stale (lk H) id)).set id (.aO T np (()::v) st e pre (post++ys))) [.raw] 2 else ae else ae
  |_,_,_,_=>ae
 |_=>ae
theorem ZwT{t u:yc}{x y:yn}{c:Call}{xd yd:TD}(ho:o.op=.call c)(hc:c.callee=.builtin .append)(ha:c.args.toList=[x,y])(ht:c.argTypes.toList=[t,u])
 (hv:Zs P (TD.ay (lk H) ts) t x=xd.er (lk H)) (hy:aW P ts u y=ab yd) (h:ET P t u all H K yd xd=ab out):∃a d H' hs c,K a d H' hs c=ab out/\Good P o ts all H a d H' hs c:=by
 have hw:=Zq (L:=lk H) hy;unfold ET at h;split at h
 .rename_i id;split at h
  .rename_i e e2 T np v st e' pre post nn s xs hu hu2 hd;obtain⟨i,h1,h⟩:=yf.1 h;obtain⟨ys,h2,h⟩:=yf.1 h;obtain⟨k4,k6⟩:=Za h;obtain⟨k5,kk⟩:=Za k6;simp only[yi,yP]at k4;obtain⟨⟨⟨⟨⟨g1,g2⟩,g3⟩,g4⟩,g5⟩,g6⟩:=k4;subst g4;subst g6;simp only[cO,yi,yP]at k5;have hlt:id < H.length:=(yo.1 hd).1;have hys:=Zyg h2;have hyl:(TP.cg xs).length=ys.length:=by rw[hys,yx]
   have hq:=kF (q:=(v.length,T.size,pre.length+post.length)) hd rfl
   refine⟨_,_,_,_,_,kk,bT (λid' t hn=>Vk (lk H) id' t hn) all,oq all,dt (⟨rfl,λyK=> ?_,λyK=> ?_,
    [pre.length+post.length<=pre.length+post.length,(pre.length+post.length+(TP.cg xs).length)*i.bytes<=Zr,pre.length+post.length+(TP.cg xs).length<=maxLen,st=af\/pre.length+post.length=pre.length+post.length],
    ⟨ym _,by rw[hyl];exact k5.1,by rw[hyl];exact k5.2,.inr rfl,au⟩,λyK=> ?_⟩)⟩
   .unfold aX;rw[ho];dsimp only;rw[hc];dsimp only;rw[ha,ht,yaa]
   .unfold bD;rw[ho];dsimp only;rw[hc]
   .have hsrc:hJ P T.size u (aB H) yK (Zs P (TD.ay (lk H) ts) u y)=ab ([],TP.cg xs,yK):=by
     rw[hw,TD.er,TP.pe];unfold hJ gI;dsimp only;rw[hu2];dsimp only;rw[yW (.inl rfl)];rfl
    unfold cu;rw[ho];dsimp only;rw[hc];dsimp only;rw[ha,ht];dsimp only;rw[hu,hv,hq.1];rw[yaa,yv];dsimp only;rw[h1,hsrc,ZJ hd];dsimp only[ai.er]
    have hnew:((H.map (ai.stale (lk H) id)).set id (.aO T np (()::v) st e' pre (post++ys)))[id]? =ab (.aO T np (()::v) st e' pre (post++ys)):=by
     rw[yci (by rw[yx];exact hlt)]
    have hN:pre.length+(post++ys).length=pre.length+post.length+ys.length:=by rw[yr];omega
    have hH:aB ((H.map (ai.stale (lk H) id)).set id (.aO T np (()::v) st e' pre (post++ys)))=(aB H).set id (.row (v.length+1) T.size st e' (.p (.arr (pre.length+post.length+ys.length) T.size ((pre.map T.enc++post.map λx=>(Xm np (.v T x)).pe)++TP.cg xs)))):=by
     unfold aB;rw[ybi,yaq]
     have:(ai.aO T np (()::v) st e' pre (post++ys)).er (lk ((H.map (ai.stale (lk H) id)).set id (.aO T np (()::v) st e' pre (post++ys))))=.row (v.length+1) T.size st e' (.p (.arr (pre.length+post.length+ys.length) T.size ((pre.map T.enc++post.map λx=>(Xm np (.v T x)).pe)++TP.cg xs))):=by
      rw[ai.er,hN,hys,yal,yak];rfl
     rw[this];congr 1;refine ycl λx hx=> ?_;exact qJ (λid t hn=>Vk (lk H) id t hn) x
    have hq2:=kF (q:=(v.length+1,T.size,pre.length+(post++ys).length)) hnew rfl;rw[yW (by simp[g1,g2,g5]),hH,hq2.1,hyl,hN]
    have ht:(pre.map T.enc++post.map λx=>(Xm np (.v T x)).pe).take (pre.length+post.length)=pre.map T.enc++post.map λx=>(Xm np (.v T x)).pe:=by
     rw[List.take_of_length_le (by rw[yr,yx,yx];exact ym _)]
    rw[ht];rfl
  .cases h
 .cases h
theorem EU{α:Type}(a b:yL α)(x:α):(a++x::b)[a.length]? =ab x:=by rw[List.getElem?_append_right (ym _),Nat.sub_self];rfl
theorem ZGu{α:Type}(a b:yL α)(x y:α):(a++x::b).set a.length y=a++y::b:=by
 rw[List.set_append,yX (by omega),Nat.sub_self];rfl
def EV(P:yg)(t:yc)(all:yL TD)(H:yL ai)(K:Kn O):TD->yO O
 |.rp id (.ix i s::r)=>match H[id]? with
  |some (.bJ T np v st e pre mid post)=>if ah (s=T.size)=af then if ah (i=pre.length)=af then eQ (lk H) r mid λsub hs _=>if gu P t (sub.er (lk H))=af then K all sub H hs 1 else ae else ae else ae
  |_=>ae
 |_=>ae
theorem ZCF{t:yc}{x:yn}{xd:TD}(ho:o.op=.load t x)(hx:aW P ts 0 x=ab xd)(h:EV P t all H K xd=ab out):∃a d H' hs c,K a d H' hs c=ab out/\Good P o ts all H a d H' hs c:=by
 have hv:=Zq (L:=lk H) hx;unfold EV at h;split at h
 .rename_i id i s r;split at h
  .rename_i T np v st e pre mid post hd;obtain⟨h0,hh⟩:=Za h;obtain⟨h00,h9⟩:=Za hh;clear hh h;have h0:=yF h0;have h00:=yF h00;subst h0;subst h00;obtain⟨sub,hs,put,C,k1,k2,k3,_⟩:=Xf _ _ _ _ h9;obtain⟨k4,k5⟩:=Za k1;have hq:=kF (q:=(v.length,T.size,pre.length+(post.length+1))) hd rfl;refine⟨_,_,_,_,_,k5,rfl,rfl,.inr (.inl ⟨rfl,rfl,λyK=> ?_,C++[pre.length*T.size+QW r=XZ (.ix pre.length T.size::r)],Zk.2 ⟨k2,by rw[XC,QW,ca.o],au⟩,λyK=> ?_⟩)⟩
   .unfold aX;rw[ho];dsimp only;rw[hv];rfl
   .unfold bD;rw[ho];dsimp only;rw[hv,hq.2];dsimp only;rw[ZJ hd];dsimp only[ai.er]
    have k6:Yf (.arr (pre.length+(post.length+1)) T.size ((pre.map λx=>.p (T.enc x))++mid.er (lk H)::post.map λx=>.p (Xm np (.v T x)).pe)) (pre.length::r.map ca.i) (hs++yK)=ab (C,pre.length*T.size+QW r,sub.er (lk H),yK):=by
     unfold Yf;have:=EU (pre.map λx=>Dv.p (T.enc x)) (post.map λx=>.p (Xm np (.v T x)).pe) (mid.er (lk H));rw[yx]at this;rw[this];dsimp only;rw[k3 yK];rfl
    rw[yad,show(ca.ix pre.length T.size).i=pre.length from rfl,k6]
    dsimp only;rw[yW (by rw[yi];exact⟨k4,by simp⟩)]
  .cases h
 .cases h
def EW(P:yg)(t:yc)(all:yL TD)(H:yL ai)(K:Kn O)(v:TD):TD->yO O
 |.rp id (.ix i s::r)=>match H[id]? with
  |some (.bJ T np u af e pre mid post)=>if ah (s=T.size)=af then if ah (i=pre.length)=af then eQ (lk H) r mid λsub hs put=>(put v).bind λd1=>
   if lA P t (v.er (lk H)) (sub.er (lk H))=af then K all .ao (H.set id (.bJ T np u af e pre d1 post)) hs 2 else ae else ae else ae
  |_=>ae
 |_=>ae
theorem Zz7{t:yc}{x y:yn}{xd yd:TD}(ho:o.op=.store t x y)(hx:aW P ts 0 x=ab xd)(hy:aW P ts t y=ab yd)(h:EW P t all H K yd xd=ab out):
 ∃a d H' hs c,K a d H' hs c=ab out/\Good P o ts all H a d H' hs c:=by
 have hv:=Zq (L:=lk H) hx;have hw:=Zq (L:=lk H) hy;unfold EW at h;split at h
 .rename_i id i s r;split at h
  .rename_i T np u e pre mid post hd;obtain⟨h0,hh⟩:=Za h;obtain⟨h00,h9⟩:=Za hh;clear hh h;have h0:=yF h0;have h00:=yF h00;subst h0;subst h00;obtain⟨sub,hs,put,C,k1,k2,k3,k4⟩:=Xf r mid _ out h9;obtain⟨d1,p1,k1⟩:=yf.1 k1;obtain⟨h4,k1⟩:=Za k1;have h4':=h4;unfold lA at h4';have hq:=kF (q:=(u.length,T.size,pre.length+(post.length+1))) hd rfl;have hL:lk (H.set id (.bJ T np u af e pre d1 post))=lk H:=ES hd rfl;have hm:=EU (pre.map λx=>Dv.p (T.enc x)) (post.map λx=>.p (Xm np (.v T x)).pe) (mid.er (lk H));have hm2:=ZGu (pre.map λx=>Dv.p (T.enc x)) (post.map λx=>.p (Xm np (.v T x)).pe) (mid.er (lk H)) (d1.er (lk H));rw[yx]at hm hm2
   have hg:∀yK,Yf (.arr (pre.length+(post.length+1)) T.size ((pre.map λx=>.p (T.enc x))++mid.er (lk H)::post.map λx=>.p (Xm np (.v T x)).pe)) (pre.length::r.map ca.i) (hs++yK)=ab (C,pre.length*T.size+QW r,sub.er (lk H),yK):=by
    intro yK;unfold Yf;rw[hm];dsimp only;rw[k3 yK];rfl
   have hp:∀yK,XW (yd.er (lk H)) (.arr (pre.length+(post.length+1)) T.size ((pre.map λx=>.p (T.enc x))++mid.er (lk H)::post.map λx=>.p (Xm np (.v T x)).pe)) (pre.length::r.map ca.i) (hs++yK)=ab (.arr (pre.length+(post.length+1)) T.size ((pre.map λx=>.p (T.enc x))++d1.er (lk H)::post.map λx=>.p (Xm np (.v T x)).pe)):=by
    intro yK;have:=k4 _ d1 p1 yK;unfold XW;rw[hm];dsimp only;rw[this,yab,hm2]
   refine⟨_,_,_,_,_,k1,by rw[hL],rfl,dt (⟨rfl,λyK=> ?_,λyK=> ?_,C++[pre.length*T.size+QW r=XZ (.ix pre.length T.size::r)],
    Zk.2 ⟨k2,by rw[XC,QW,ca.o],au⟩,λyK=> ?_⟩)⟩
   .unfold aX;rw[ho]
   .unfold bD;rw[ho]
   .unfold cu;rw[ho];dsimp only;rw[hv,hw,hq.2];dsimp only;rw[ZJ hd];dsimp only[ai.er];rw[yad,show(ca.ix pre.length T.size).i=pre.length from rfl,hg yK]
    dsimp only;rw[show ir (pre.length::r.map ca.i) (.arr (pre.length+(post.length+1)) T.size ((pre.map λx=>.p (T.enc x))++mid.er (lk H)::post.map λx=>.p (Xm np (.v T x)).pe)) (yd.er (lk H))=ab (yd.er (lk H)) from rfl]
    dsimp only;rw[hp yK];dsimp only;rw[yW (by simp only[yi]at h4' ⊢;exact⟨⟨h4',by simp⟩,by simp[aO]⟩),YF hL];rfl
  .cases h
 .cases h
def rz(H:yL ai):TD->Bool
 |.rw id=>((H[id]?).bind ai.ja).isSome
 |.rp id _=>((H[id]?).bind ai.ja).isSome
 |_=>ag
def rnT(P:yg)(hi:HI)(o:Oper)(ts:yL TD)(H:yL ai):Bool:=
 match o.op with
 |.load t x=>match aW P ts 0 x with
  |some d=>rz H d
  |none=>ag
 |.store t x y=>match aW P ts 0 x with
  |some d=>rz H d
  |none=>ag
 |.indexAddr t x ix=>match aW P ts t x with
  |some d=>rz H d
  |none=>ag
 |.buildSlice t len parts=>match o.dst with
  |some d=>hi.lits.contains d
  |none=>ag
 |.call c=>match c.callee with
  |.builtin .len=>match c.args.toList,c.argTypes.toList with
   |[x],[t]=>match aW P ts t x with
    |some d=>rz H d
    |none=>ag
   |_,_=>ag
  |.builtin .append=>match c.args.toList,c.argTypes.toList with
   |[x,y],[t,u]=>match aW P ts t x with
    |some d=>rz H d
    |none=>ag
   |_,_=>ag
  |_=>ag
 |_=>ag
def EX(P:yg)(hi:HI)(o:Oper)(ts all:yL TD)(H:yL ai)(K:Kn O):yO O:=
 match o.op with
 |.load t x=>(aW P ts 0 x).bind λd=>EV P t all H K d
 |.store t x y=>(aW P ts 0 x).bind λa=>(aW P ts t y).bind λv=>EW P t all H K v a
 |.indexAddr t x ix=>(aW P ts t x).bind λa=>(aW P ts 0 ix).bind λb=>b.inner.bind λip=>(iz ip).bind λq=>EP P t q.2 all H K a
 |.buildSlice t len parts=>ER P ts t len parts.toList all H K
 |.call c=>match c.callee with
  |.builtin .len=>match c.args.toList,c.argTypes.toList with
   |[x],[t]=>(aW P ts t x).bind λd=>EQ P t all H K d
   |_,_=>ae
  |.builtin .append=>match c.args.toList,c.argTypes.toList with
   |[x,y],[t,u]=>(aW P ts t x).bind λa=>(aW P ts u y).bind λb=>ET P t u all H K b a
   |_,_=>ae
  |_=>ae
 |_=>ae
theorem ZHY{hi:HI}(h:EX P hi o ts all H K=ab out):∃a d H' hs c,K a d H' hs c=ab out/\Good P o ts all H a d H' hs c:=by
 unfold EX at h;split at h
 .rename_i t x ho;obtain⟨d,h1,h⟩:=yf.1 h;exact ZCF ho h1 h
 .rename_i t x y ho;obtain⟨a,h1,h⟩:=yf.1 h;obtain⟨v,h2,h⟩:=yf.1 h;exact Zz7 ho h1 h2 h
 .rename_i t x ix ho;obtain⟨a,h1,h⟩:=yf.1 h;obtain⟨b,h2,h⟩:=yf.1 h;obtain⟨ip,h3,h⟩:=yf.1 h;obtain⟨q,h4,h⟩:=yf.1 h;rw[YQ h3]at h2;exact Zz2 ho h1 h2 h4 h
 .rename_i t len parts ho;exact ZHX ho h
 .rename_i c ho;split at h
  .rename_i hc;split at h
   .rename_i x t ha ht;obtain⟨d,h1,h⟩:=yf.1 h;exact ZEV ho hc ha ht h1 h
   .cases h
  .rename_i hc;split at h
   .rename_i x y t u ha ht;obtain⟨a,h1,h⟩:=yf.1 h;obtain⟨b,h2,h⟩:=yf.1 h;exact ZwT ho hc ha ht (Zq h1) h2 h
   .cases h
  .cases h
 .cases h
end
end Go.Ev
end
section
namespace Go.Ev
abbrev TV:=Σ t:Ty,t.aN
inductive Sh where
 |v (t:Ty)
 |elem (t:Ty)
 |nil (t:Ty)
 |sl (nn:Bool) (t:Ty)
 |own (j:Nat) (t:Ty)
 |ak (j:Nat) (yQ:List ca)
 |mp (j:Nat)
 |rw(j:Nat)
 |rp (j s:Nat) (yQ:List ca)
 |view (j:Nat) (yQ:List ca) (s lo n:Nat)
 |rv (j ver s lo n:Nat)
 |fn (g:yu) (l:List Sh)
 |agg (l:List Sh)
 |arr (n s:Nat) (l:List Sh)
 |bj (l:List Sh)
 |iface (t:yc) (x:Sh)
 |rA (t u:yc) (x:Sh)
 |bf|fn0|dN|ci
 |ao
instance:Inhabited Sh:=⟨.ao⟩
def ca.beq:ca->ca->Bool
 |.fV i o,.fV j p=>ah (i=j)&&ah (o=p)
 |.ix i o,.ix j p=>ah (i=j)&&ah (o=p)
 |_,_=>ag
def ot:yL ca->yL ca->Bool
 |[],[]=>af
 |q::r,p::s=>q.beq p&&ot r s
 |_,_=>ag
theorem rB:∀{l m:yL ca},ot l m=af->l=m
 |[],[],_=>rfl
 |[],_::_,h=>by cases h
 |_::_,[],h=>by cases h
 |q::r,p::s,h=>by
  simp only[ot,yi]at h;rw[rB h.2];congr 1;cases q <;> cases p <;> simp[ca.beq]at h <;> simp[h.1]
def TD.EY(L:Lk)(t:Ty):TD->yO t.aN
 |.p x=>TP.to iQ x t
 |.own id _ u c=>match t with
  |.sl w=>Ty.br u w (Z3 L id u c)
  |_=>ae
 |_=>ae
theorem ZOL{L:Lk}{t:Ty}{d:TD}{y:t.aN}(h:d.EY L t=ab y):Wk (d.er L) (.p (t.enc y)):=by
 cases d with
 |p x=>exact Wk.p (qo (show TP.to iQ x t=ab y from h))
 |own id nn u c=>
  cases t with
  |sl w=>
   obtain⟨e,h2⟩:=ZC (show Ty.br u w (Z3 L id u c)=ab y from h)
   subst e;subst h2
   exact Wk.mv (bq.refl _)
  |_=>cases h
 |_=>cases h
def ZQa(t:Ty):TD->yO t.aN
 |.elem x=>TP.to iQ x t
 |_=>ae
theorem Wk.elem{x y:Pl}(h:bN x y):Wk (.elem x) (.elem y):=⟨rfl,rfl,λJ vs r=>by
 simp only[yH]at r ⊢;obtain⟨b,o,us,e,r1,r2⟩:=r;exact⟨b,o,us,e,h.cY _ _ _ r1,r2⟩⟩
theorem cK.fn{f:yu}{ds es:yL Dv}(h:cK ds es):Wk (.fn f ds) (.fn f es):=⟨rfl,rfl,λJ vs r=>by
 simp only[yH]at r ⊢;obtain⟨fs,cs,e,e0,r⟩:=r;exact⟨fs,cs,e,e0,h.vs r⟩⟩
theorem cK.sizes{ds es:yL Dv}(h:cK ds es)(s:Nat):(∀x,x∈ds->x.size=s)->∀x,x∈es->x.size=s:=by
 induction h with
 |nil=>intro _ x hx;cases hx
 |cons h k ih=>
  intro hh x hx;rcases List.mem_cons.1 hx with rfl|hx
  .rw[<-h.size];exact hh _ (List.mem_cons_self ..)
  .exact ih (λy hy=>hh y (List.mem_cons_of_mem _ hy)) x hx
theorem cK.arr{n s:Nat}{ds es:yL Dv}(h:cK ds es):Wk (.arr n s ds) (.arr n s es):=⟨rfl,rfl,λJ vs r=>by
 simp only[yH]at r ⊢;obtain⟨r1,r2,r3⟩:=r;have:=(cK.agg h).cY J vs (by simp only[yH];exact r3);simp only[yH]at this;exact⟨by rw[<-h.len];exact r1,h.sizes s r2,this⟩⟩
theorem Wk.iface{t:yc}{x y:Dv}(h:Wk x y):Wk (.iface t x) (.iface t y):=⟨rfl,rfl,λJ vs r=>by
 simp only[yH]at r ⊢;obtain⟨v,e,r1,r2⟩:=r;refine⟨v,e,λha=> ?_,λha=>h.cY _ _ (r2 (by rw[h.agg];exact ha))⟩;obtain⟨cs,e1,e2⟩:=r1 (by rw[h.agg];exact ha);exact⟨cs,e1,h.cY _ _ e2⟩⟩
mutual
def Sh.mt(L:Lk):Sh->TD->yO (TD×yL TV)
 |.v t,d=>(d.EY L t).map λy=>(.p (.v t y),[⟨t,y⟩])
 |.elem t,d=>(ZQa t d).map λy=>(.elem (.v t y),[⟨t,y⟩])
 |.nil t,d=>match d with
  |.p x=>if x.iY t=af then ab (.p (.sl (ab ag) t []),[]) else ae
  |_=>ae
 |.sl nn t,d=>match d with
  |.p (.sl (ab b) u xs)=>if b=nn then(Ty.br u t xs).map λy=>(.p (.sl (ab nn) t y),[⟨.sl t,y⟩]) else ae
  |_=>ae
 |.own j t,d=>match d with
  |.own id _ u ae=>if id=j/\u=t then ab (.own j ae t ae,[]) else ae
  |_=>ae
 |.ak j p,d=>match d with
  |.ak id q=>if id=j/\ot p q=af then ab (.ak j p,[]) else ae
  |_=>ae
 |.mp j,d=>match d with
  |.mp id=>if id=j then ab (.mp j,[]) else ae
  |_=>ae
 |.rw j,d=>match d with
  |.rw id=>if id=j then ab (.rw j,[]) else ae
  |_=>ae
 |.rp j s p,d=>match d with
  |.rp id (.ix i s'::q)=>if id=j/\s'=s/\ot p q=af then ab (.rp j (.ix i s::p),[⟨.int .i64,(i:Int)⟩]) else ae
  |_=>ae
 |.view j p s lo n,d=>match d with
  |.view id q s' lo' n'=>if id=j/\ot p q=af/\s=s'/\lo=lo'/\n=n' then ab (.view j p s lo n,[]) else ae
  |_=>ae
 |.rv j ver s lo n,d=>match d with
  |.rv id v' s' lo' n'=>if id=j/\ver=v'/\s=s'/\lo=lo'/\n=n' then ab (.rv j ver s lo n,[]) else ae
  |_=>ae
 |.fn g l,d=>match d with
  |.fn f ds=>if f=g then(Sh.du L l ds).map λq=>(.fn g q.1,q.2) else ae
  |_=>ae
 |.agg l,d=>match d with
  |.agg ds=>(Sh.du L l ds).map λq=>(.agg q.1,q.2)
  |.p x=>match x.parts with
   |some xs=>(Sh.du L l (xs.map TD.p)).map λq=>(.agg q.1,q.2)
   |none=>ae
  |_=>ae
 |.arr n s l,d=>match d with
  |.arr m s' ds=>if m=n/\s'=s then(Sh.du L l ds).map λq=>(.arr n s q.1,q.2) else ae
  |.p (.arr m s' xs)=>if m=n/\s'=s then(Sh.du L l (xs.map TD.p)).map λq=>(.arr n s q.1,q.2) else ae
  |_=>ae
 |.bj l,d=>match d with
  |.bj ds=>(Sh.du L l ds).map λq=>(.bj q.1,q.2)
  |_=>ae
 |.iface t x,d=>match d with
  |.iface u y=>if u=t then(Sh.mt L x y).map λq=>(.iface t q.1,q.2) else ae
  |_=>ae
 |.rA t u x,d=>match d with
  |.iface w y=>if Nat.beq w t=af then(Sh.mt L x y).map λq=>(.iface t q.1,⟨.bool,af⟩::q.2) else if Nat.beq w u=af then(Sh.mt L x y).map λq=>(.iface u q.1,⟨.bool,ag⟩::q.2) else ae
  |_=>ae
 |.bf,d=>match d with
  |.p .bf=>ab (.p .bf,[])
  |_=>ae
 |.fn0,d=>match d with
  |.p .fn0=>ab (.p .fn0,[])
  |_=>ae
 |.dN,d=>match d with
  |.p .dN=>ab (.p .dN,[])
  |_=>ae
 |.ci,d=>match d with
  |.p .ci=>ab (.p .ci,[])
  |_=>ae
 |.ao,d=>if(d.er L).size=1/\(d.er L).isAgg=ag then ab (.ao,[]) else ae
def Sh.du(L:Lk):yL Sh->yL TD->yO (yL TD×yL TV)
 |[],ds=>match ds with
  |[]=>ab ([],[])
  |_=>ae
 |s::r,ds=>match ds with
  |d::q=>match Sh.mt L s d,Sh.du L r q with
   |some a,ab b=>ab (a.1::b.1,a.2++b.2)
   |_,_=>ae
  |[]=>ae
end
mutual
def Sh.fill:Sh->yL TV->yO (TD×yL TV)
 |.v t,vs=>match vs with
  |x::r=>(Ty.cast x.1 t x.2).map λy=>(.p (.v t y),r)
  |[]=>ae
 |.elem t,vs=>match vs with
  |x::r=>(Ty.cast x.1 t x.2).map λy=>(.elem (.v t y),r)
  |[]=>ae
 |.nil t,vs=>ab (.p (.sl (ab ag) t []),vs)
 |.sl nn t,vs=>match vs with
  |x::r=>(Ty.cast x.1 (.sl t) x.2).map λ(y:yL t.aN)=>(.p (.sl (ab nn) t y),r)
  |[]=>ae
 |.own j t,vs=>ab (.own j ae t ae,vs)
 |.ak j p,vs=>ab (.ak j p,vs)
 |.mp j,vs=>ab (.mp j,vs)
 |.rw j,vs=>ab (.rw j,vs)
 |.rp j s p,vs=>match vs with
  |x::r=>(Ty.cast x.1 (.int .i64) x.2).map λ(i:Int)=>(.rp j (.ix i.toNat s::p),r)
  |[]=>ae
 |.view j p s lo n,vs=>ab (.view j p s lo n,vs)
 |.rv j ver s lo n,vs=>ab (.rv j ver s lo n,vs)
 |.fn g l,vs=>(Sh.fills l vs).map λq=>(.fn g q.1,q.2)
 |.agg l,vs=>(Sh.fills l vs).map λq=>(.agg q.1,q.2)
 |.arr n s l,vs=>(Sh.fills l vs).map λq=>(.arr n s q.1,q.2)
 |.bj l,vs=>(Sh.fills l vs).map λq=>(.bj q.1,q.2)
 |.iface t x,vs=>(Sh.fill x vs).map λq=>(.iface t q.1,q.2)
 |.rA t u x,vs=>match vs with
  |z::r=>(Ty.cast z.1 .bool z.2).bind λ(b:Bool)=>(Sh.fill x r).map λq=>(.iface (bif b then t else u) q.1,q.2)
  |[]=>ae
 |.bf,vs=>ab (.p .bf,vs)
 |.fn0,vs=>ab (.p .fn0,vs)
 |.dN,vs=>ab (.p .dN,vs)
 |.ci,vs=>ab (.p .ci,vs)
 |.ao,vs=>ab (.ao,vs)
def Sh.fills:yL Sh->yL TV->yO (yL TD×yL TV)
 |[],vs=>ab ([],vs)
 |s::r,vs=>(Sh.fill s vs).bind λa=>(Sh.fills r a.2).map λb=>(a.1::b.1,b.2)
end
theorem Yo(t:Ty)(x:t.aN):Ty.cast t t x=ab x:=by
 unfold Ty.cast;split
 .rfl
 .rename_i h _;exact absurd rfl h
mutual
theorem lB{L:Lk}:∀(s:Sh)(d:TD)(q:TD×yL TV),s.mt L d=ab q->∀yK,s.fill (q.2++yK)=ab (q.1,yK)
 |.v t,d,q,h,yK=>by
  simp only[Sh.mt]at h;obtain⟨y,_,rfl⟩:=Zb h
  simp[Sh.fill,Yo]
 |.elem t,d,q,h,yK=>by
  simp only[Sh.mt]at h;obtain⟨y,_,rfl⟩:=Zb h
  simp[Sh.fill,Yo]
 |.nil t,d,q,h,yK=>by
  simp only[Sh.mt]at h;split at h
  .split at h <;> cases h;rfl
  .cases h
 |.sl nn t,d,q,h,yK=>by
  simp only[Sh.mt]at h;split at h
  .split at h
   .obtain⟨w,h1,rfl⟩:=Zb h;exact congrArg (Option.map λ(y:yL t.aN)=>(TD.p (.sl (ab nn) t y),yK)) (Yo (.sl t) w)
   .cases h
  .cases h
 |.own j t,d,q,h,yK=>by
  simp only[Sh.mt]at h;split at h
  .split at h <;> cases h;rfl
  .cases h
 |.ak j p,d,q,h,yK=>by
  simp only[Sh.mt]at h;split at h
  .split at h <;> cases h;rfl
  .cases h
 |.mp j,d,q,h,yK=>by
  simp only[Sh.mt]at h;split at h
  .split at h <;> cases h;rfl
  .cases h
 |.rw j,d,q,h,yK=>by
  simp only[Sh.mt]at h;split at h
  .split at h <;> cases h;rfl
  .cases h
 |.rp j s p,d,q,h,yK=>by
  simp only[Sh.mt]at h;split at h
  .rename_i id i s' q';split at h
   .cases h;exact congrArg (Option.map λ(i:Int)=>(TD.rp j (.ix i.toNat s::p),yK)) (Yo (.int .i64) (i:Int))
   .cases h
  .cases h
 |.view j p s lo n,d,q,h,yK=>by
  simp only[Sh.mt]at h;split at h
  .split at h <;> cases h;rfl
  .cases h
 |.rv j ver s lo n,d,q,h,yK=>by
  simp only[Sh.mt]at h;split at h
  .split at h <;> cases h;rfl
  .cases h
 |.fn g l,d,q,h,yK=>by
  simp only[Sh.mt]at h;split at h
  .split at h
   .obtain⟨w,h1,rfl⟩:=Zb h;simp only[Sh.fill,bH l _ w h1 yK,yab]
   .cases h
  .cases h
 |.agg l,d,q,h,yK=>by
  simp only[Sh.mt]at h;split at h
  .obtain⟨w,h1,rfl⟩:=Zb h;simp only[Sh.fill,bH l _ w h1 yK,yab]
  .split at h
   .obtain⟨w,h1,rfl⟩:=Zb h;simp only[Sh.fill,bH l _ w h1 yK,yab]
   .cases h
  .cases h
 |.arr n s l,d,q,h,yK=>by
  simp only[Sh.mt]at h;split at h
  .split at h
   .obtain⟨w,h1,rfl⟩:=Zb h;simp only[Sh.fill,bH l _ w h1 yK,yab]
   .cases h
  .split at h
   .obtain⟨w,h1,rfl⟩:=Zb h;simp only[Sh.fill,bH l _ w h1 yK,yab]
   .cases h
  .cases h
 |.bj l,d,q,h,yK=>by
  simp only[Sh.mt]at h;split at h
  .obtain⟨w,h1,rfl⟩:=Zb h;simp only[Sh.fill,bH l _ w h1 yK,yab]
  .cases h
 |.iface t x,d,q,h,yK=>by
  simp only[Sh.mt]at h;split at h
  .split at h
   .obtain⟨w,h1,rfl⟩:=Zb h;simp only[Sh.fill,lB x _ w h1 yK,yab]
   .cases h
  .cases h
 |.rA t u x,d,q,h,yK=>by
  simp only[Sh.mt]at h;split at h
  .split at h
   .obtain⟨w,h1,rfl⟩:=Zb h;simp only[Sh.fill,yaa,Yo,ya,lB x _ w h1 yK,yab];rfl
   .split at h
    .obtain⟨w,h1,rfl⟩:=Zb h;simp only[Sh.fill,yaa,Yo,ya,lB x _ w h1 yK,yab];rfl
    .cases h
  .cases h
 |.bf,d,q,h,yK=>by
  simp only[Sh.mt]at h
  split at h <;> cases h;rfl
 |.fn0,d,q,h,yK=>by
  simp only[Sh.mt]at h
  split at h <;> cases h;rfl
 |.dN,d,q,h,yK=>by
  simp only[Sh.mt]at h
  split at h <;> cases h;rfl
 |.ci,d,q,h,yK=>by
  simp only[Sh.mt]at h
  split at h <;> cases h;rfl
 |.ao,d,q,h,yK=>by
  simp only[Sh.mt]at h;split at h <;> cases h;rfl
theorem bH{L:Lk}:∀(l:yL Sh)(ds:yL TD)(q:yL TD×yL TV),Sh.du L l ds=ab q->∀yK,Sh.fills l (q.2++yK)=ab (q.1,yK)
 |[],ds,q,h,yK=>by
  simp only[Sh.du]at h
  split at h <;> cases h;rfl
 |s::r,ds,q,h,yK=>by
  simp only[Sh.du]at h;split at h
  .split at h
   .rename_i a b h1 h2;cases h;simp only[Sh.fills,yak,lB s _ a h1,ya,bH r _ b h2,yab]
   .cases h
  .cases h
end
theorem ZCG(ys:yL Pl):Wk (.p (.agg ys)) (.agg (ys.map .p)):=by
 have key:∀ys:yL Pl,Dv.sizes (ys.map .p)=Pl.sizes ys:=by
  intro ys
  induction ys with
  |nil=>rfl
  |cons y r ih=>rw[yad,Dv.sizes,Pl.sizes,ih];rfl
 refine⟨?_,rfl,λJ vs r=> ?_⟩
 .first|exact key ys|exact(key ys).symm
 .simp only[yH,aw]at r ⊢;exact jz.2 r
theorem ZJM{n s:Nat}(ys:yL Pl):Wk (.p (.arr n s ys)) (.arr n s (ys.map .p)):=by
 refine⟨rfl,rfl,λJ vs r=> ?_⟩;simp only[yH,aw]at r ⊢;refine⟨by rw[yx];exact r.1,λx hx=> ?_,jz.2 r.2.2⟩;obtain⟨y,hy,rfl⟩:=List.mem_map.1 hx;exact r.2.1 y hy
mutual
theorem kG{L M:Lk}(hL:∀id t,Z3 L id t ae=Z3 M id t ae):∀(s:Sh)(d:TD)(q:TD×yL TV),s.mt L d=ab q->Wk (d.er L) (q.1.er M)
 |.v t,d,q,h=>by
  simp only[Sh.mt]at h;obtain⟨y,h1,rfl⟩:=Zb h
  exact ZOL h1
 |.elem t,d,q,h=>by
  simp only[Sh.mt]at h;obtain⟨y,h1,rfl⟩:=Zb h;cases d <;> first|cases h1|skip
  exact Wk.elem (qo h1)
 |.nil t,d,q,h=>by
  simp only[Sh.mt]at h;split at h
  .split at h
   .rename_i hn;cases h;refine Wk.of_eq ?_;rw[TD.er,DI hn];rfl
   .cases h
  .cases h
 |.sl nn t,d,q,h=>by
  simp only[Sh.mt]at h;split at h
  .split at h
   .rename_i e;subst e;obtain⟨w,h1,rfl⟩:=Zb h;obtain⟨e,h2⟩:=ZC h1;subst e;subst h2;exact Wk.refl _
   .cases h
  .cases h
 |.own j t,d,q,h=>by
  simp only[Sh.mt]at h;split at h
  .split at h
   .rename_i e;obtain⟨rfl,rfl⟩:=e;cases h;rw[TD.er,TD.er,hL];exact Wk.own rfl
   .cases h
  .cases h
 |.ak j p,d,q,h=>by
  simp only[Sh.mt]at h;split at h
  .split at h
   .rename_i e;obtain⟨rfl,e⟩:=e;cases h;rw[rB e];exact Wk.refl _
   .cases h
  .cases h
 |.mp j,d,q,h=>by
  simp only[Sh.mt]at h;split at h
  .split at h
   .rename_i e;subst e;cases h;exact Wk.refl _
   .cases h
  .cases h
 |.rw j,d,q,h=>by
  simp only[Sh.mt]at h;split at h
  .split at h
   .rename_i e;subst e;cases h;refine Wk.of_eq ?_;rw[TD.er,TD.er];simp only[ew,hL]
   .cases h
  .cases h
 |.rp j s p,d,q,h=>by
  simp only[Sh.mt]at h;split at h
  .split at h
   .rename_i e;obtain⟨rfl,rfl,e⟩:=e;cases h;rw[rB e];refine Wk.of_eq ?_;rw[TD.er,TD.er];simp only[ew,hL]
   .cases h
  .cases h
 |.view j p s lo n,d,q,h=>by
  simp only[Sh.mt]at h;split at h
  .split at h
   .rename_i e;obtain⟨rfl,e,rfl,rfl,rfl⟩:=e;cases h;rw[rB e];exact Wk.refl _
   .cases h
  .cases h
 |.rv j ver s lo n,d,q,h=>by
  simp only[Sh.mt]at h;split at h
  .split at h
   .rename_i e;obtain⟨rfl,rfl,rfl,rfl,rfl⟩:=e;cases h;exact Wk.refl _
   .cases h
  .cases h
 |.fn g l,d,q,h=>by
  simp only[Sh.mt]at h;split at h
  .split at h
   .rename_i e;subst e;obtain⟨w,h1,rfl⟩:=Zb h;exact cK.fn (cE hL l _ w h1)
   .cases h
  .cases h
 |.agg l,d,q,h=>by
  simp only[Sh.mt]at h;split at h
  .obtain⟨w,h1,rfl⟩:=Zb h;exact cK.agg (cE hL l _ w h1)
  .split at h
   .rename_i xs hp;obtain⟨w,h1,rfl⟩:=Zb h;have e:=AS hp;have k:=cK.agg (cE hL l _ w h1);rw[qK]at k;rw[TD.er,e];have k0:=ZCG (TP.cg xs);exact⟨k0.size.trans k.size,k0.agg.trans k.agg,λJ vs r=>k.cY J vs (k0.cY J vs r)⟩
   .cases h
  .cases h
 |.arr n s l,d,q,h=>by
  simp only[Sh.mt]at h;split at h
  .split at h
   .rename_i e;obtain⟨rfl,rfl⟩:=e;obtain⟨w,h1,rfl⟩:=Zb h;exact cK.arr (cE hL l _ w h1)
   .cases h
  .split at h
   .rename_i n0 s0 xs e;obtain⟨rfl,rfl⟩:=e;obtain⟨w,h1,rfl⟩:=Zb h;have k:=cK.arr (n:=n0) (s:=s0) (cE hL l _ w h1);rw[qK]at k;have k0:=ZJM (n:=n0) (s:=s0) (TP.cg xs);exact⟨k0.size.trans k.size,k0.agg.trans k.agg,λJ vs r=>k.cY J vs (k0.cY J vs r)⟩
   .cases h
  .cases h
 |.bj l,d,q,h=>by
  simp only[Sh.mt]at h;split at h
  .obtain⟨w,h1,rfl⟩:=Zb h;exact cK.bj (cE hL l _ w h1)
  .cases h
 |.iface t x,d,q,h=>by
  simp only[Sh.mt]at h;split at h
  .split at h
   .rename_i e;subst e;obtain⟨w,h1,rfl⟩:=Zb h;exact Wk.iface (kG hL x _ w h1)
   .cases h
  .cases h
 |.rA t u x,d,q,h=>by
  simp only[Sh.mt]at h;split at h
  .split at h
   .rename_i e;have e:=Nat.eq_of_beq_eq_true e;subst e;obtain⟨w,h1,rfl⟩:=Zb h;exact Wk.iface (kG hL x _ w h1)
   .split at h
    .rename_i e;have e:=Nat.eq_of_beq_eq_true e;subst e;obtain⟨w,h1,rfl⟩:=Zb h;exact Wk.iface (kG hL x _ w h1)
    .cases h
  .cases h
 |.bf,d,q,h=>by
  simp only[Sh.mt]at h
  split at h <;> cases h;exact Wk.refl _
 |.fn0,d,q,h=>by
  simp only[Sh.mt]at h
  split at h <;> cases h;exact Wk.refl _
 |.dN,d,q,h=>by
  simp only[Sh.mt]at h
  split at h <;> cases h;exact Wk.refl _
 |.ci,d,q,h=>by
  simp only[Sh.mt]at h
  split at h <;> cases h;exact Wk.refl _
 |.ao,d,q,h=>by
  simp only[Sh.mt]at h;split at h
  .rename_i e;cases h;exact Wk.ao e.2 e.1
  .cases h
theorem cE{L M:Lk}(hL:∀id t,Z3 L id t ae=Z3 M id t ae):∀(l:yL Sh)(ds:yL TD)(q:yL TD×yL TV),Sh.du L l ds=ab q->cK (TD.ay L ds) (TD.ay M q.1)
 |[],ds,q,h=>by
  simp only[Sh.du]at h
  split at h <;> cases h;exact .nil
 |s::r,ds,q,h=>by
  simp only[Sh.du]at h;split at h
  .split at h
   .rename_i a b h1 h2;cases h;exact .cons (kG hL s _ a h1) (cE hL r _ b h2)
   .cases h
  .cases h
end
inductive bi where
 |var (s:Sh) (st:Bool)
 |log (t:Ty) (e:yc)
 |map (tid:yc) (k v:Ty)
 |row (t:Ty) (st:Bool) (e:yc)
 |aO (t:Ty) (np:List Nat) (st:Bool) (e:yc)
 |bJ (t:Ty) (np:List Nat) (st:Bool) (e:yc) (s:Sh)
 |mW (ver s:Nat) (st:Bool) (e:yc) (n:Nat) (l:List Sh)
 |gone
def QX(k v:Ty):Ty:=.sl (.st [k,v])
def EZ(L:Lk)(t:Ty)(d:TD):yO t.aN:=(d.flat L).bind λx=>TP.to iQ x t
theorem ZGv{L:Lk}{t:Ty}{d:TD}{y:t.aN}(h:EZ L t d=ab y):Wk (d.er L) (.p (t.enc y)):=by
 obtain⟨x,h1,h2⟩:=yf.1 h;have hf:(d.er L).flat=ab x.pe:=by rw[qt,h1];rfl
 have hw:Wk (d.er L) (.p x.pe):=⟨(tI _ _ hf).symm,(yC hf).symm,λJ vs r=>by simp only[yH];exact pK _ _ _ hf r⟩;have hz:=qo h2;exact⟨hw.size.trans hz.size,hw.agg.trans hz.agg,λJ vs r=>(Wk.p hz).cY J vs (hw.cY J vs r)⟩
def bi.mt(L:Lk):bi->ai->yO (ai×yL TV)
 |.var s st,.var d st'=>if st=st'\/st=ag then(s.mt L d).map λq=>(.var q.1 st,q.2) else ae
 |.log t e,.log u e' xs=>if e=e' then(Ty.br u t xs).map λys=>(.log t e ys,[⟨.sl t,ys⟩]) else ae
 |.map tid k v,.map tid' k' v' l=>if tid=tid' then(Ty.cast (QX k' v') (QX k v) l).map λ(m:yL (k.aN×v.aN))=>(.map tid k v m,[⟨QX k v,m⟩]) else ae
 |.row t st e,.aQ u v st' e' xs=>if(st=st'\/st=ag)/\e=e' then(Ty.br u t xs).map λys=>(.aQ t v st e ys,[⟨.sl (.st []),v⟩,⟨.sl t,ys⟩]) else ae
 |.aO t np st e,.aO u np' v st' e' pre post=>if(st=st'\/st=ag)/\e=e'/\np=np' then(Ty.br u t pre).bind λys=>(Ty.br u t post).map λzs=>
   (.aO t np v st e ys zs,[⟨.sl (.st []),v⟩,⟨.sl t,ys⟩,⟨.sl t,zs⟩]) else ae
 |.aO t np st e,.bJ u np' v st' e' pre mid post=>if st=st'/\e=e'/\np=np' then(Ty.br u t pre).bind λys=>(Ty.br u t post).bind λzs=>(EZ L t mid).map λy=>
   (.aO t np v st e (ys++[y]) zs,[⟨.sl (.st []),v⟩,⟨.sl t,ys++[y]⟩,⟨.sl t,zs⟩]) else ae
 |.bJ t np st e s,.bJ u np' v st' e' pre mid post=>if st=st'/\e=e'/\np=np' then(Ty.br u t pre).bind λys=>(Ty.br u t post).bind λzs=>(s.mt L mid).map λq=>
   (.bJ t np v st e ys q.1 zs,[⟨.sl (.st []),v⟩,⟨.sl t,ys⟩,⟨.sl t,zs⟩]++q.2) else ae
 |.mW ver s st e n l,.row v' s' st' e' (.arr n' s2 ds)=>if ver=v'/\s=s'/\st=st'/\e=e'/\n=n'/\s=s2 then(Sh.du L l ds).map λq=>(.row ver s st e (.arr n s q.1),q.2) else ae
 |.gone,.gone=>ab (.gone,[])
 |_,_=>ae
def bi.fill:bi->yL TV->yO (ai×yL TV)
 |.var s st,vs=>(s.fill vs).map λq=>(.var q.1 st,q.2)
 |.log t e,vs=>match vs with
  |x::r=>(Ty.cast x.1 (.sl t) x.2).map λ(y:yL t.aN)=>(.log t e y,r)
  |[]=>ae
 |.map tid k v,vs=>match vs with
  |x::r=>(Ty.cast x.1 (QX k v) x.2).map λ(y:yL (k.aN×v.aN))=>(.map tid k v y,r)
  |[]=>ae
 |.row t st e,vs=>match vs with
  |x::y::r=>(Ty.cast x.1 aOC x.2).bind λ(v:yL Unit)=>(Ty.cast y.1 (.sl t) y.2).map λ(l:yL t.aN)=>(.aQ t v st e l,r)
  |_=>ae
 |.aO t np st e,vs=>match vs with
  |x::y::z::r=>(Ty.cast x.1 aOC x.2).bind λ(v:yL Unit)=>(Ty.cast y.1 (.sl t) y.2).bind λ(l:yL t.aN)=>(Ty.cast z.1 (.sl t) z.2).bind λ(m:yL t.aN)=>ab (.aO t np v st e l m,r)
  |_=>ae
 |.bJ t np st e s,vs=>match vs with
  |x::y::z::r=>(Ty.cast x.1 aOC x.2).bind λ(v:yL Unit)=>(Ty.cast y.1 (.sl t) y.2).bind λ(l:yL t.aN)=>(Ty.cast z.1 (.sl t) z.2).bind λ(m:yL t.aN)=>
   (s.fill r).map λq=>(.bJ t np v st e l q.1 m,q.2)
  |_=>ae
 |.mW ver s st e n l,vs=>(Sh.fills l vs).map λq=>(.row ver s st e (.arr n s q.1),q.2)
 |.gone,vs=>ab (.gone,vs)
def bi.du(L:Lk):yL bi->yL ai->yO (yL ai×yL TV)
 |[],[]=>ab ([],[])
 |s::r,d::q=>match bi.mt L s d,bi.du L r q with
  |some a,ab b=>ab (a.1::b.1,a.2++b.2)
  |_,_=>ae
 |_,_=>ae
def bi.fills:yL bi->yL TV->yO (yL ai×yL TV)
 |[],vs=>ab ([],vs)
 |s::r,vs=>(bi.fill s vs).bind λa=>(bi.fills r a.2).map λb=>(a.1::b.1,b.2)
theorem FA{O:Type}{t:Ty}(v:yL Unit)(a b:yL t.aN)(k:yL Unit->yL t.aN->yL t.aN->yO O):
 ((Ty.cast aOC aOC v).bind λ(v:yL Unit)=>(Ty.cast (.sl t) (.sl t) a).bind λ(l:yL t.aN)=>(Ty.cast (.sl t) (.sl t) b).bind λ(m:yL t.aN)=>k v l m)=k v a b:=by
 have e1:=Yo aOC v;have e2:=Yo (.sl t) a;have e3:=Yo (.sl t) b;rw[e1,e2,e3];rfl
theorem ZJO{L:Lk}{s:bi}{d:ai}{q:ai×yL TV}(h:s.mt L d=ab q)(yK:yL TV):s.fill (q.2++yK)=ab (q.1,yK):=by
 unfold bi.mt at h;split at h
 .split at h
  .obtain⟨w,h1,rfl⟩:=Zb h;simp only[bi.fill,lB _ _ w h1 yK,yab]
  .cases h
 .split at h
  .obtain⟨w,h1,rfl⟩:=Zb h;rename_i t e _ _ _ _;exact congrArg (Option.map λ(y:yL t.aN)=>(ai.log t e y,yK)) (Yo (.sl t) w)
  .cases h
 .split at h
  .obtain⟨w,h1,rfl⟩:=Zb h;rename_i tid k v _ _ _ _ _;exact congrArg (Option.map λ(y:yL (k.aN×v.aN))=>(ai.map tid k v y,yK)) (Yo (QX k v) w)
  .cases h
 .split at h
  .obtain⟨w,h1,rfl⟩:=Zb h;rename_i t st e _ v _ _ _ _;have e1:=Yo aOC v;have e2:=Yo (.sl t) w;show((Ty.cast aOC aOC v).bind λ(v:yL Unit)=>(Ty.cast (.sl t) (.sl t) w).map λ(l:yL t.aN)=>(ai.aQ t v st e l,yK))=_;rw[e1,e2];rfl
  .cases h
 .rename_i t np st e u np' v st' e' pre post;split at h
  .obtain⟨a,h1,h⟩:=yf.1 h;obtain⟨b,h2,rfl⟩:=Zb h;exact FA v a b (λv l m=>ab (ai.aO t np v st e l m,yK))
  .cases h
 .rename_i t np st e u np' v st' e' pre mid post;split at h
  .obtain⟨a,h1,h⟩:=yf.1 h;obtain⟨b,h2,h⟩:=yf.1 h;obtain⟨c,h3,rfl⟩:=Zb h;exact FA v (a++[c]) b (λv l m=>ab (ai.aO t np v st e l m,yK))
  .cases h
 .rename_i t np st e s u np' v st' e' pre mid post;split at h
  .obtain⟨a,h1,h⟩:=yf.1 h;obtain⟨b,h2,h⟩:=yf.1 h;obtain⟨c,h3,rfl⟩:=Zb h;have:=FA v a b (λv l m=>(s.fill (c.2++yK)).map λq=>(ai.bJ t np v st e l q.1 m,q.2));refine this.trans ?_;rw[lB _ _ c h3 yK];rfl
  .cases h
 .split at h
  .obtain⟨w,h1,rfl⟩:=Zb h;simp only[bi.fill,bH _ _ w h1 yK,yab]
  .cases h
 .cases h;rfl
 .cases h
theorem QY{L:Lk}:∀{l:yL bi}{H:yL ai}{q:yL ai×yL TV},bi.du L l H=ab q->∀yK,bi.fills l (q.2++yK)=ab (q.1,yK)
 |[],[],q,h,yK=>by cases h;rfl
 |[],_::_,q,h,yK=>by cases h
 |_::_,[],q,h,yK=>by cases h
 |s::r,d::H,q,h,yK=>by
  simp only[bi.du]at h;split at h
  .rename_i a b h1 h2;cases h;simp only[bi.fills,yak,ZJO h1,ya,QY h2,yab]
  .cases h
theorem ZON{L:Lk}{s:bi}{d:ai}{q:ai×yL TV}(h:s.mt L d=ab q):dy (ab q.1)=dy (ab d):=by
 unfold bi.mt at h;split at h
 .split at h
  .obtain⟨w,h1,rfl⟩:=Zb h;rfl
  .cases h
 .split at h
  .obtain⟨w,h1,rfl⟩:=Zb h;obtain⟨e,h2⟩:=ZC h1;subst e;subst h2;rfl
  .cases h
 .split at h
  .obtain⟨w,h1,rfl⟩:=Zb h;rfl
  .cases h
 .split at h
  .obtain⟨w,h1,rfl⟩:=Zb h;obtain⟨e,h2⟩:=ZC h1;subst e;subst h2;rfl
  .cases h
 .split at h
  .obtain⟨a,h1,h⟩:=yf.1 h;obtain⟨b,h2,rfl⟩:=Zb h;obtain⟨e,h3⟩:=ZC h1;subst e;obtain⟨_,h4⟩:=ZC h2;subst h3;subst h4;rfl
  .cases h
 .split at h
  .obtain⟨a,h1,h⟩:=yf.1 h;obtain⟨b,h2,h⟩:=yf.1 h;obtain⟨c,h3,rfl⟩:=Zb h;obtain⟨e,h4⟩:=ZC h1;subst e;obtain⟨_,h5⟩:=ZC h2;subst h4;subst h5;simp only[dy,yr,yah,ycn];rw[Nat.add_assoc,Nat.add_comm (0+1)]
  .cases h
 .split at h
  .obtain⟨a,h1,h⟩:=yf.1 h;obtain⟨b,h2,h⟩:=yf.1 h;obtain⟨c,h3,rfl⟩:=Zb h;obtain⟨e,h4⟩:=ZC h1;subst e;obtain⟨_,h5⟩:=ZC h2;subst h4;subst h5;rfl
  .cases h
 .split at h
  .obtain⟨w,h1,rfl⟩:=Zb h;rfl
  .cases h
 .cases h;rfl
 .cases h
theorem ov{L:Lk}:∀{l:yL bi}{H:yL ai}{q:yL ai×yL TV},bi.du L l H=ab q->q.1.length=H.length/\lk q.1=lk H
 |[],[],q,h=>by cases h;exact⟨rfl,rfl⟩
 |[],_::_,q,h=>by cases h
 |_::_,[],q,h=>by cases h
 |s::r,d::H,q,h=>by
  simp only[bi.du]at h;split at h
  .rename_i a b h1 h2;cases h;obtain⟨e1,e2⟩:=ov h2;refine⟨by simp[e1],funext λi=> ?_⟩
   cases i with
   |zero=>exact ZON h1
   |succ i=>exact congrFun e2 i
  .cases h
theorem ZGw:∀(l:yL Dv){m m':yL Dv},cK m m'->cK (l++m) (l++m')
 |[],_,_,h=>h
 |x::l,_,_,h=>.cons (Wk.refl x) (ZGw l h)
theorem ZGx{l m:yL Dv}{d d':Dv}(h:Wk d d'):cK (l++d::m) (l++d'::m):=ZGw l (.cons h (cK.refl m))
theorem ZJP{n s:Nat}(xs:yL Pl):Wk (.arr n s (xs.map .p)) (.p (.arr n s xs)):=⟨rfl,rfl,λJ vs r=>by
 simp only[yH,aw]at r ⊢;obtain⟨h1,h2,h3⟩:=r;exact⟨by simpa using h1,λx hx=>h2 (.p x) (List.mem_map_of_mem hx),jz.1 h3⟩⟩
theorem ZOO{n s:Nat}{d:Dv}{x:Pl}(l m:yL Pl)(h:Wk d (.p x)):Wk (.arr n s (l.map .p++d::m.map .p)) (.p (.arr n s (l++x::m))):=by
 have h1:Wk (.arr n s (l.map .p++d::m.map .p)) (.arr n s (l.map .p++.p x::m.map .p)):=cK.arr (ZGx h);have h2:=ZJP (n:=n) (s:=s) (l++x::m);rw[yal,yad]at h2;exact⟨rfl,rfl,λJ vs r=>h2.cY J vs (h1.cY J vs r)⟩
theorem ZGy{L M:Lk}{t:Ty}{np:yL Nat}{v:yL Unit}{st:Bool}{e:yc}{a b:yL t.aN}{mid:TD}{c:t.aN}(hw:Wk (mid.er L) (.p (t.enc c))):
 dX ((ai.bJ t np v st e a mid b).er L) ((ai.aO t np v st e (a++[c]) b).er M):=by
 have h:=ZOO (a.map t.enc) (b.map λx=>(Xm np (.v t x)).pe) (n:=a.length+(b.length+1)) (s:=t.size) hw;rw[yaq,yaq]at h;have e1:(a++[c]).length+b.length=a.length+(b.length+1):=by rw[yr,yah,ycn];omega
 have e2:(a++[c]).map t.enc++(b.map λx=>(Xm np (.v t x)).pe)=a.map t.enc++t.enc c::b.map λx=>(Xm np (.v t x)).pe:=by rw[yal,yak];rfl
 rw[ai.er,ai.er,e1,e2];exact .row ⟨h,rfl⟩
theorem ZOP{L M:Lk}(hL:∀id t,Z3 L id t ae=Z3 M id t ae){s:bi}{d:ai}{q:ai×yL TV}(h:s.mt L d=ab q):dX (d.er L) (q.1.er M):=by
 unfold bi.mt at h;split at h
 .split at h
  .rename_i e;obtain⟨w,h1,rfl⟩:=Zb h;rcases e with e|e
   .subst e;exact .var (kG hL _ _ w h1)
   .subst e;exact .ki (kG hL _ _ w h1)
  .cases h
 .split at h
  .rename_i e;subst e;obtain⟨w,h1,rfl⟩:=Zb h;obtain⟨e,h2⟩:=ZC h1;subst e;subst h2;exact .refl _
  .cases h
 .split at h
  .rename_i e;subst e;obtain⟨w,h1,rfl⟩:=Zb h;obtain⟨e,h2⟩:=Vj h1;unfold QX at e;simp only[Ty.sl.injEq,Ty.st.injEq,List.cons.injEq,and_true]at e;obtain⟨e1,e2⟩:=e;subst e1;subst e2;subst h2;exact .refl _
  .cases h
 .split at h
  .rename_i e;obtain⟨e0,e1⟩:=e;subst e1;obtain⟨w,h1,rfl⟩:=Zb h;obtain⟨e,h2⟩:=ZC h1;subst e;subst h2;rcases e0 with e0|e0
   .subst e0;exact .refl _
   .subst e0;exact .lock
  .cases h
 .split at h
  .rename_i e;obtain⟨e0,e1,e2⟩:=e;subst e1;subst e2;obtain⟨a,h1,h⟩:=yf.1 h;obtain⟨b,h2,rfl⟩:=Zb h;obtain⟨e,h3⟩:=ZC h1;subst e;obtain⟨_,h4⟩:=ZC h2;subst h3;subst h4;rcases e0 with e0|e0
   .subst e0;exact .refl _
   .subst e0;exact .lock
  .cases h
 .rename_i _ _ _ _ _ _ _ _ _ pre mid post;split at h
  .rename_i e;obtain⟨e0,e1,e2⟩:=e;subst e0;subst e1;subst e2;obtain⟨a,h1,h⟩:=yf.1 h;obtain⟨b,h2,h⟩:=yf.1 h;obtain⟨c,h3,rfl⟩:=Zb h;obtain⟨e,h4⟩:=ZC h1;subst e;obtain⟨_,h5⟩:=ZC h2;subst h4;subst h5;exact ZGy (ZGv h3)
  .cases h
 .split at h
  .rename_i e;obtain⟨e0,e1,e2⟩:=e;subst e0;subst e1;subst e2;obtain⟨a,h1,h⟩:=yf.1 h;obtain⟨b,h2,h⟩:=yf.1 h;obtain⟨c,h3,rfl⟩:=Zb h;obtain⟨e,h4⟩:=ZC h1;subst e;obtain⟨_,h5⟩:=ZC h2;subst h4;subst h5;rw[ai.er,ai.er];exact .row ⟨cK.arr (ZGx (kG hL _ _ c h3)),rfl⟩
  .cases h
 .split at h
  .rename_i e;obtain⟨rfl,rfl,rfl,rfl,rfl,rfl⟩:=e;obtain⟨w,h1,rfl⟩:=Zb h;rw[ai.er,ai.er,TD.er,TD.er];exact .row ⟨cK.arr (cE hL _ _ w h1),rfl⟩
  .cases h
 .cases h;exact .refl _
 .cases h
theorem oz{L M:Lk}(hL:∀id t,Z3 L id t ae=Z3 M id t ae):∀{l:yL bi}{H:yL ai}{q:yL ai×yL TV},bi.du L l H=ab q->ct (H.map (ai.er L)) (q.1.map (ai.er M))
 |[],[],q,h=>by cases h;exact .nil
 |[],_::_,q,h=>by cases h
 |_::_,[],q,h=>by cases h
 |s::r,d::H,q,h=>by
  simp only[bi.du]at h;split at h
  .rename_i a b h1 h2;cases h;exact .cons (ZOP hL h1) (oz hL h2)
  .cases h
def dT:(ts:yL Ty)->Ty.aI ts->yL TV
 |[],_=>[]
 |[t],x=>[⟨t,x⟩]
 |t::u::r,x=>⟨t,x.1⟩::dT (u::r) x.2
def gM:(ts:yL Ty)->yL TV->yO (Ty.aI ts)
 |[],[]=>ab ()
 |[t],[x]=>Ty.cast x.1 t x.2
 |t::u::r,x::l=>jG (Ty.cast x.1 t x.2) (gM (u::r) l)
 |_,_=>ae
theorem jb:∀(ts:yL Ty)(l:yL TV)(x:Ty.aI ts),gM ts l=ab x->dT ts x=l
 |[],[],x,h=>rfl
 |[],_::_,x,h=>by cases h
 |[t],[],x,h=>by cases h
 |[t],[y],x,h=>by
  obtain⟨e,h2⟩:=Vj (show Ty.cast y.1 t y.2=ab x from h)
  obtain⟨u,y⟩:=y;dsimp only at e h2;subst e;subst h2
  rfl
 |[t],_::_::_,x,h=>by cases h
 |t::u::r,[],x,h=>by cases h
 |t::u::r,y::l,x,h=>by
  obtain⟨h1,h2⟩:=VJ (α:=t.aN) (β:=Ty.aI (u::r)) (show jG (Ty.cast y.1 t y.2) (gM (u::r) l)=ab x from h)
  obtain⟨e,h3⟩:=Vj h1;obtain⟨u',y⟩:=y;dsimp only at e h3;subst e;have:=jb (u::r) l x.2 h2;show(⟨u',x.1⟩:TV)::dT (u::r) x.2=_;rw[this,h3]
abbrev cq:=yL (Nat×Sh)
def oA(sl:cq)(n:Nat):yL Sh:=(yq n).map λi=>(sl.lookup i).getD .ao
def VK(n:Nat)(sl:cq)(es:yL bi)(vs:yL TV):yO (yL TD×yL ai):=
 (Sh.fills (oA sl n) vs).bind λq=>(bi.fills es q.2).bind λw=>if w.2.isEmpty then ab (q.1,w.1) else ae
theorem uJ:∀{l:yL Sh}{vs:yL TV}{q:yL TD×yL TV},Sh.fills l vs=ab q->q.1.length=l.length
 |[],vs,q,h=>by simp only[Sh.fills]at h;cases h;rfl
 |s::r,vs,q,h=>by
  simp only[Sh.fills]at h;obtain⟨a,h1,h⟩:=yf.1 h;obtain⟨b,h2,rfl⟩:=Zb h;simp[uJ h2]
theorem uK{n:Nat}{sl:cq}{es:yL bi}{vs:yL TV}{q:yL TD×yL ai}(h:VK n sl es vs=ab q):q.1.length=n:=by
 unfold VK at h;obtain⟨a,h1,h⟩:=yf.1 h;obtain⟨b,h2,h⟩:=yf.1 h;split at h
 .cases h;rw[uJ h1];simp[oA]
 .cases h
structure bS where
 ex:Ex
 sl:cq
 es:List bi
 ty:List Ty
def bS.sum:yL bS->Type
 |[]=>Empty
 |[e]=>Ty.aI e.ty
 |e::f::r=>Ty.aI e.ty⊕bS.sum (f::r)
abbrev Kc(O:Type):=Ex->yL TD->yL ai->yO O
def xT{O:Type}(n:Nat):(l:yL bS)->bS.sum l->Kc O->yO O
 |[],_,_=>ae
 |[e],o,K=>(VK n e.sl e.es (dT e.ty o)).bind λs=>K e.ex s.1 s.2
 |e::f::r,o,K=>match (o:Ty.aI e.ty⊕bS.sum (f::r)) with
  |.inl o=>(VK n e.sl e.es (dT e.ty o)).bind λs=>K e.ex s.1 s.2
  |.inr o=>xT n (f::r) o K
def lC:(l:yL bS)->bS.sum l->bS->yL TV->Prop
 |[],_,_,_=>False
 |[e],o,x,vs=>x=e/\vs=dT e.ty o
 |e::f::r,o,x,vs=>match (o:Ty.aI e.ty⊕bS.sum (f::r)) with
  |.inl o=>x=e/\vs=dT e.ty o
  |.inr o=>lC (f::r) o x vs
theorem rC{O:Type}{n:Nat}{K:Kc O}{out:O}:∀{l:yL bS}{o:bS.sum l},xT n l o K=ab out->∃e vs s,lC l o e vs/\VK n e.sl e.es vs=ab s/\K e.ex s.1 s.2=ab out
 |[],_,h=>by cases h
 |[e],o,h=>by
  obtain⟨s,h1,h2⟩:=yf.1 (show(VK n e.sl e.es (dT e.ty o)).bind (λs=>K e.ex s.1 s.2)=ab out from h)
  exact⟨e,_,s,⟨rfl,rfl⟩,h1,h2⟩
 |e::f::r,.inl o,h=>by
  obtain⟨s,h1,h2⟩:=yf.1 (show(VK n e.sl e.es (dT e.ty o)).bind (λs=>K e.ex s.1 s.2)=ab out from h)
  exact⟨e,_,s,⟨rfl,rfl⟩,h1,h2⟩
 |e::f::r,.inr o,h=>by
  obtain⟨e',vs,s,h1,h2,h3⟩:=rC (l:=f::r) (o:=o) h;exact⟨e',vs,s,h1,h2,h3⟩
theorem FB{A B:yL ax}(hl:A.length=B.length)(h:∀(i:Nat)(a b:ax),A[i]? =ab a->B[i]? =ab b->dX a b):ct A B:=by
 induction A generalizing B with
 |nil=>cases B with
  |nil=>exact .nil
  |cons _ _=>simp at hl
 |cons a A ih=>cases B with
  |nil=>simp at hl
  |cons b B=>exact .cons (h 0 a b rfl rfl) (ih (by simpa using hl) λi a b h1 h2=>h (i+1) a b h1 h2)
def Ty.mX(f:(T:Ty)->TD->yO T.aN):(fs:yL Ty)->yL TD->yO (Ty.aI fs)
 |[],[]=>ab ()
 |[t],[d]=>f t d
 |t::u::r,d::ds=>jG (f t d) (Ty.mX f (u::r) ds)
 |_,_=>ae
def FC{T:Ty}(f:TD->yO T.aN):yL TD->yO (yL T.aN)
 |[]=>ab []
 |d::r=>(jG (f d) (FC f r)).map λq=>q.1::q.2
def FD(H:yL ai)(id:Nat)(u:Ty):yO (yL u.aN):=
 match H[id]? with
 |some (.aQ u' v ag e l)=>Ty.br u' u l
 |_=>ae
theorem ZJR{H:yL ai}{id:Nat}{u:Ty}{l:yL u.aN}(h:FD H id u=ab l):bC (aB H) ((TD.rw id).er (lk H)) ((Ty.sl u).enc l):=by
 unfold FD at h;split at h
 .rename_i u' v e l' hd;obtain⟨e1,h⟩:=ZC h;subst e1;subst h;have hE:(aB H)[id]? =ab (.row v.length u'.size ag e (.p (.arr l.length u'.size (l.map u'.enc)))):=ZJ hd;have:=bC.mI (lo:=0) (n:=l.length) hE (by omega);rw[(fC hd).1,uk];rw[List.drop_zero, <-yx (f:=u'.enc),ybd,yx]at this;exact this
 .cases h
def oB(H:yL ai):Nat->(T:Ty)->TD->yO T.aN
 |0,_,_=>ae
 |n+1,T,d=>match d with
  |.p x=>TP.to iQ x T
  |.own id nn t c=>ql af t (Z3 (lk H) id t c) T
  |.agg ds=>qm (λfs=>Ty.mX (oB H n) fs ds) T
  |.rw id=>match T with
   |.sl u=>FD H id u
   |_=>ae
  |.rv id v s lo k=>match T with
   |.sl u=>match H[id]? with
    |some (.row w s' ag e d)=>if(w==v&&s'==s&&s==u.size)=af then match d with
      |.p x=>x.dF.bind λr=>(Ty.br r.t u r.l).bind λl=>if ah (lo+k<=r.n)=af then ab ((l.drop lo).take k) else ae
      |.arr N s2 ds=>if(s2==s&&ah (lo+k<=N))=af then(FC (oB H n u) ds).map λ(l:yL u.aN)=>(l.drop lo).take k else ae
      |_=>ae
     else ae
    |_=>ae
   |_=>ae
  |.view id [] s lo k=>match T with
   |.sl u=>match H[id]? with
    |some (.var (.p x) ag)=>if(s==u.size)=af then x.dF.bind λr=>(Ty.br r.t u r.l).bind λl=>if ah (lo+k<=r.n)=af then ab ((l.drop lo).take k) else ae else ae
    |_=>ae
   |_=>ae
  |_=>ae
theorem ZGz{H:yL ax}{L:Lk}{f:(T:Ty)->TD->yO T.aN}(hf:∀T d y,f T d=ab y->bC H (d.er L) (T.enc y)):∀(fs:yL Ty)(ds:yL TD)(y:Ty.aI fs),Ty.mX f fs ds=ab y->
 (TD.ay L ds).length=(Ty.encs fs y).length/\∀(i:Nat)(d:Dv)(z:Pl),(TD.ay L ds)[i]? =ab d->(Ty.encs fs y)[i]? =ab z->bC H d z
 |[],[],y,h=>⟨rfl,λi d z h1 _=>by simp[TD.ay]at h1⟩
 |[],_::_,y,h=>by cases h
 |[t],[],y,h=>by cases h
 |[t],[d],y,h=>by
  refine⟨rfl,λi d' z h1 h2=> ?_⟩
  cases i with
  |zero=>cases h1;cases h2;exact hf t d y h
  |succ i=>simp[TD.ay]at h1
 |[t],_::_::_,y,h=>by cases h
 |t::u::r,[],y,h=>by cases h
 |t::u::r,d::ds,y,h=>by
  obtain⟨h1,h2⟩:=VJ (α:=t.aN) (β:=Ty.aI (u::r)) h;obtain⟨h3,h4⟩:=ZGz hf (u::r) ds y.2 h2;refine⟨by rw[TD.ay,Ty.encs,yah,yah,h3],λi d' z k1 k2=> ?_⟩
  cases i with
  |zero=>cases k1;cases k2;exact hf t d y.1 h1
  |succ i=>exact h4 i d' z k1 k2
theorem ZJS{H:yL ax}{L:Lk}{T:Ty}{f:TD->yO T.aN}(hf:∀d y,f d=ab y->bC H (d.er L) (T.enc y)):∀(ds:yL TD)(l:yL T.aN),FC f ds=ab l->
 (TD.ay L ds).length=(l.map T.enc).length/\∀(i:Nat)(d:Dv)(z:Pl),(TD.ay L ds)[i]? =ab d->(l.map T.enc)[i]? =ab z->bC H d z
 |[],l,h=>by cases h;exact⟨rfl,λi d z h1 _=>by simp[TD.ay]at h1⟩
 |d::ds,l,h=>by
  obtain⟨q,h1,rfl⟩:=Zb h;obtain⟨h1,h2⟩:=VJ h1;obtain⟨h3,h4⟩:=ZJS hf ds q.2 h2;refine⟨by rw[TD.ay,yad,yah,yah,h3],λi d' z k1 k2=> ?_⟩
  cases i with
  |zero=>cases k1;cases k2;exact hf d q.1 h1
  |succ i=>exact h4 i d' z k1 k2
theorem uL{H:yL ai}:∀(n:Nat)(T:Ty)(d:TD)(y:T.aN),oB H n T d=ab y->bC (aB H) (d.er (lk H)) (T.enc y)
 |0,_,_,_,h=>by cases h
 |n+1,T,d,y,h=>by
  unfold oB at h;split at h
  .exact .wk (.p _) (qo h)
  .rename_i id nn t c;obtain⟨l,_,e1,rfl⟩:=AU (nn:=ae) h;rw[e1,TD.er];exact .wk (.own id nn t.size _) (bN.gJ (bq.refl _))
  .rename_i ds;obtain⟨fs,z,h1,e1⟩:=AV h;rw[e1,TD.er];obtain⟨h2,h3⟩:=ZGz (λT d y=>uL n T d y) fs ds z h1;exact .agg h2 h3
  .rename_i id
   cases T with
   |sl u=>exact ZJR h
   |_=>cases h
  .rename_i id v s lo k;split at h
   .rename_i u;split at h
    .rename_i w s' e dd hd;obtain⟨hk,g⟩:=Za h;clear h;simp only[yi,yT]at hk;obtain⟨⟨hk1,hk2⟩,hk3⟩:=hk;have hE:=ZJ hd;rw[hk1,hk2,hk3]at hE;split at g
     .rename_i x;obtain⟨r,p1,g1⟩:=yf.1 g;obtain⟨l,p2,g2⟩:=yf.1 g1;obtain⟨p3,g3⟩:=Za g2;cases g3;obtain⟨rn,rt,rl⟩:=r;obtain⟨e1,p2⟩:=ZC p2;dsimp only at e1 p2 p3;subst e1;subst p2;rw[ai.er,TD.er,WY p1]at hE;have:=bC.mI hE (yF p3);rw[uk,yce,List.map_drop,TD.er,hk3];exact this
     .rename_i N s2 ds;obtain⟨p1,g1⟩:=Za g;simp only[yi,yT,yP]at p1;obtain⟨q1,p1⟩:=p1;obtain⟨l,p2,g2⟩:=Zb g1;subst g2;obtain⟨h2,h3⟩:=ZJS (λd y=>uL n u d y) ds l p2;rw[ai.er,TD.er,q1,hk3]at hE;have:=bC.qj hE p1 h2 h3;rw[uk,yce,List.map_drop,TD.er,hk3];exact this
     .cases g
    .cases h
   .cases h
  .rename_i id s lo k;split at h
   .rename_i u;split at h
    .rename_i x hd;obtain⟨hk,g⟩:=Za h;rw[yT]at hk;have hE:=ZJ hd;obtain⟨r,p1,g1⟩:=yf.1 g;obtain⟨l,p2,g2⟩:=yf.1 g1;obtain⟨p3,g3⟩:=Za g2;cases g3;obtain⟨rn,rt,rl⟩:=r;obtain⟨e1,p2⟩:=ZC p2;dsimp only at e1 p2 p3;subst e1;subst p2;rw[ai.er,TD.er,WY p1]at hE;have:=bC.vw hE (yF p3);rw[uk,yce,List.map_drop,TD.er,hk];exact .wk this (bN.gJ (bq.refl _))
    .cases h
   .cases h
  .cases h
def oC:ai->ai
 |.row v s _ e d=>.row v s ag e d
 |.aQ t v _ e l=>.aQ t v ag e l
 |e=>e
def mY(ids:yL Nat)(H:yL ai):yL ai:=(yq H.length).zipWith (λi e=>if ids.contains i then oC e else e) H
theorem ZJT(e:ai):dy (ab (oC e))=dy (ab e):=by cases e <;> rfl
theorem ZrD(ids:yL Nat)(H:yL ai)(i:Nat):(mY ids H)[i]? =(H[i]?).map λe=>if ids.contains i then oC e else e:=by
 unfold mY;rw[List.getElem?_zipWith];rcases ybr i H.length with h|h
 .rw[List.getElem?_range h,yac h];rfl
 .rw[yan (by simpa using h),yan h];rfl
theorem ZuD(ids:yL Nat)(H:yL ai):lk (mY ids H)=lk H:=by
 funext i;unfold lk;rw[ZrD]
 cases H[i]? with
 |none=>rfl
 |some e=>
  show dy (ab (if ids.contains i=af then oC e else e))=_
  split
  .exact ZJT e
  .rfl
theorem ZEY(ids:yL Nat)(H:yL ai):ct (aB H) (aB (mY ids H)):=by
 refine FB (by rw[ZB,ZB];unfold mY;simp) λi a b h1 h2=> ?_;unfold aB at h1 h2;rw[yaj]at h1 h2;rw[ZuD,ZrD]at h2
 cases he:H[i]? with
 |none=>rw[he]at h1;cases h1
 |some e=>
  rw[he]at h1 h2;cases h1;cases h2;show dX (e.er (lk H)) (ai.er (lk H) (if ids.contains i=af then oC e else e))
  split
  .cases e <;> first|exact .refl _|exact .lock
  .exact .refl _
def FE:yL ai->Nat->Bool
 |H,i=>match H[i]? with
  |some (.row _ _ _ _ _)=>af
  |some (.aQ _ _ _ _ _)=>af
  |_=>ag
def lD:ai->ai
 |.var d _=>.var d ag
 |e=>oC e
theorem ZJU(e:ai):dy (ab (lD e))=dy (ab e):=by cases e <;> rfl
def oD:ai->ai
 |.var d _=>.var d af
 |.row v s _ e d=>.row v s af e d
 |.aQ t v _ e l=>.aQ t v af e l
 |.aO t np v _ e a b=>.aO t np v af e a b
 |.bJ t np v _ e a d b=>.bJ t np v af e a d b
 |e=>e
def mZ(id:Nat)(H:yL ai):yL ai:=(yq H.length).zipWith (λi e=>if i=id then lD e else oD e) H
theorem ZJV(e:ai):dy (ab (oD e))=dy (ab e):=by cases e <;> rfl
theorem Zyk(id:Nat)(H:yL ai)(i:Nat):(mZ id H)[i]? =(H[i]?).map λe=>if i=id then lD e else oD e:=by
 unfold mZ;rw[List.getElem?_zipWith];rcases ybr i H.length with h|h
 .rw[List.getElem?_range h,yac h];rfl
 .rw[yan (by simpa using h),yan h];rfl
theorem ZCI(id:Nat)(H:yL ai):lk (mZ id H)=lk H:=by
 funext i;unfold lk;rw[Zyk]
 cases H[i]? with
 |none=>rfl
 |some e=>
  show dy (ab (if i=id then lD e else oD e))=_
  split
  .exact ZJU e
  .exact ZJV e
def kH:ax->ax
 |.var d _=>.var d ag
 |.row v s _ e d=>.row v s ag e d
 |e=>e
def uM:ax->Bool
 |.var _ ag=>af
 |.row _ _ ag _ _=>af
 |_=>ag
theorem ZMu(e:ax):dX e (kH e):=by cases e <;> first|exact .cW|exact .lock|exact .refl _
theorem ZOQ{e:ax}(h:uM e=af):kH e=e:=by
 cases e with
 |var d st=>cases st <;> first|rfl|cases h
 |row v s st e d=>cases st <;> first|rfl|cases h
 |_=>cases h
theorem ZHZ{L:Lk}{x:ai}(h:kH ((lD x).er L)=(lD x).er L):(lD x).er L=kH (x.er L):=by
 cases x <;> first|rfl|exact h.symm
theorem ZJW{L:Lk}(x:ai):uM ((oD x).er L)=ag:=by cases x <;> rfl
theorem ZMv{a b:ax}(h:cL (ab a)=cL (ab b)):kH a=kH b:=by
 cases a <;> cases b <;> simp_all[cL,kH]
theorem ZuF{H H':yL ax}(hh:∀(i:Nat)(e:ax),uM e=af->H[i]? =ab e->H'[i]? =ab e){d:Dv}{x:Pl}(h:bC H d x):bC H' d x:=by
 induction h with
 |p x=>exact .p x
 |own id nn s xs=>exact .own id nn s xs
 |agg hl h ih=>exact .agg hl ih
 |mI hH hle=>exact .mI (hh _ _ rfl hH) hle
 |qj hH hle hl h ih=>exact .qj (hh _ _ rfl hH) hle hl ih
 |vw hH hle=>exact .vw (hh _ _ rfl hH) hle
 |wk h k ih=>exact .wk ih k
theorem ZH0{J:Sg}(ok:Ok J){id:Nat}{H:yL ai}(hE:cL (J.H[id]?)=cL ((aB H)[id]?)):∃H2,ct J.H H2/\∀(d:Dv)(x:Pl),bC (aB (mZ id H)) d x->bC H2 d x:=by
 have key:∀(i:Nat)(e:ax),uM e=af->(aB (mZ id H))[i]? =ab e->i=id/\∃e0,(aB H)[id]? =ab e0/\e=kH e0:=by
  intro i e hf h;unfold aB at h;rw[yaj,ZCI,Zyk]at h
  cases hH:H[i]? with
  |none=>rw[hH]at h;cases h
  |some e0=>
   rw[hH]at h;have h3:(if i=id then lD e0 else oD e0).er (lk H)=e:=yax h
   clear h;by_cases hi:i=id
   .rw[yW hi]at h3;subst hi;refine⟨rfl,_,ZJ hH, ?_⟩;subst h3;exact ZHZ (ZOQ hf)
   .rw[yX hi]at h3;subst h3;rw[ZJW]at hf;cases hf
 cases hx:J.H[id]? with
 |none=>exact⟨J.H,ct.refl _,λd x h=>ZuF (λi e hf q=>by
   obtain⟨_,e0,q2,_⟩:=key i e hf q;rw[q2,hx]at hE
   cases e0 <;> simp[cL]at hE) h⟩
 |some y=>
  refine⟨J.H.set id (kH y),ct.dR hx (ZMu y),λd x h=>ZuF (λi e hf q=> ?_) h⟩;obtain⟨rfl,e0,q2,rfl⟩:=key i e hf q;rw[q2,hx]at hE;rw[yci (yo.1 hx).1,ZMv hE]
mutual
def TD.rn(f:Nat->yO Nat):TD->yO TD
 |.p x=>ab (.p x)
 |.elem x=>ab (.elem x)
 |.ak id yQ=>(f id).map λi=>.ak i yQ
 |.own id nn t c=>(f id).map λi=>.own i nn t c
 |.view id yQ s lo n=>(f id).map λi=>.view i yQ s lo n
 |.agg xs=>(TD.bz f xs).map .agg
 |.arr n s xs=>(TD.bz f xs).map (.arr n s)
 |.fn g cap=>(TD.bz f cap).map (.fn g)
 |.iface t x=>(TD.rn f x).map (.iface t)
 |.bj xs=>(TD.bz f xs).map .bj
 |.mp id=>(f id).map .mp
 |.rv id v s lo n=>(f id).map λi=>.rv i v s lo n
 |.aY id v yQ=>(f id).map λi=>.aY i v yQ
 |.rw id=>(f id).map .rw
 |.rp id yQ=>(f id).map λi=>.rp i yQ
 |.ao=>ab .ao
def TD.bz(f:Nat->yO Nat):yL TD->yO (yL TD)
 |[]=>ab []
 |x::r=>match TD.rn f x,TD.bz f r with
  |some y,ab ys=>ab (y::ys)
  |_,_=>ae
end
def ai.rn(f:Nat->yO Nat):ai->yO ai
 |.var d st=>(d.rn f).map λd'=>.var d' st
 |.row v s st e d=>(d.rn f).map λd'=>.row v s st e d'
 |.bJ t np v st e pre d post=>(d.rn f).map λd'=>.bJ t np v st e pre d' post
 |e=>ab e
def ai.bz(f:Nat->yO Nat):yL ai->yO (yL ai)
 |[]=>ab []
 |x::r=>match ai.rn f x,ai.bz f r with
  |some y,ab ys=>ab (y::ys)
  |_,_=>ae
def Rc(f:Nat->yO Nat)(L M:Lk):Prop:=∀id j t,f id=ab j->Z3 L id t ae=Z3 M j t ae
theorem ZMw{f:Nat->yO Nat}{L M:Lk}(h:Rc f L M){id j:Nat}(e:f id=ab j)(t:Ty)(c:yO (yL t.aN)):Z3 L id t c=Z3 M j t c:=by
 cases c with
 |none=>exact h id j t e
 |some _=>rfl
mutual
theorem gx{f:Nat->yO Nat}{L M:Lk}(h:Rc f L M):∀(d d':TD),d.rn f=ab d'->Dv.rn f (d.er L)=ab (d'.er M)
 |.p x,d',e=>by cases e;rfl
 |.elem x,d',e=>by cases e;rfl
 |.ak id yQ,d',e=>by
  obtain⟨i,h1,rfl⟩:=Zb e
  simp only[TD.er,Dv.rn,h1,yab]
 |.own id nn t c,d',e=>by
  obtain⟨i,h1,rfl⟩:=Zb e
  simp only[TD.er,Dv.rn,h1,yab,ZMw h h1]
 |.view id yQ s lo n,d',e=>by
  obtain⟨i,h1,rfl⟩:=Zb e
  simp only[TD.er,Dv.rn,h1,yab]
 |.agg xs,d',e=>by
  obtain⟨i,h1,rfl⟩:=Zb e
  simp only[TD.er,Dv.rn,cF h xs i h1,yab]
 |.arr n s xs,d',e=>by
  obtain⟨i,h1,rfl⟩:=Zb e
  simp only[TD.er,Dv.rn,cF h xs i h1,yab]
 |.fn g xs,d',e=>by
  obtain⟨i,h1,rfl⟩:=Zb e
  simp only[TD.er,Dv.rn,cF h xs i h1,yab]
 |.iface t x,d',e=>by
  obtain⟨i,h1,rfl⟩:=Zb e
  simp only[TD.er,Dv.rn,gx h x i h1,yab]
 |.bj xs,d',e=>by
  obtain⟨i,h1,rfl⟩:=Zb e
  simp only[TD.er,Dv.rn,cF h xs i h1,yab]
 |.mp id,d',e=>by
  obtain⟨i,h1,rfl⟩:=Zb e
  simp only[TD.er,Dv.rn,h1,yab]
 |.rv id v s lo n,d',e=>by
  obtain⟨i,h1,rfl⟩:=Zb e
  simp only[TD.er,Dv.rn,h1,yab]
 |.aY id v yQ,d',e=>by
  obtain⟨i,h1,rfl⟩:=Zb e
  simp only[TD.er,Dv.rn,h1,yab]
 |.rw id,d',e=>by
  obtain⟨i,h1,rfl⟩:=Zb e
  simp only[TD.er,Dv.rn,h1,yab,ew,h _ _ _ h1]
 |.rp id yQ,d',e=>by
  obtain⟨i,h1,rfl⟩:=Zb e
  simp only[TD.er,Dv.rn,h1,yab,ew,h _ _ _ h1]
 |.ao,d',e=>by cases e;rfl
theorem cF{f:Nat->yO Nat}{L M:Lk}(h:Rc f L M):∀(ds es:yL TD),TD.bz f ds=ab es->Dv.bz f (TD.ay L ds)=ab (TD.ay M es)
 |[],es,e=>by cases e;rfl
 |x::r,es,e=>by
  simp only[TD.bz]at e;split at e
  .rename_i y ys h1 h2;cases e;simp only[TD.ay,Dv.bz,gx h x y h1,cF h r ys h2]
  .cases e
end
theorem FF{α:Type}(f:Nat->yO Nat)(g:α->Pl):∀(l:yL α)(m:yL Dv),Dv.bz f ((l.map λx=>.p (g x))++m)=(Dv.bz f m).map λq=>(l.map λx=>.p (g x))++q
 |[],m=>by cases h:Dv.bz f m <;> simp[h]
 |x::l,m=>by
  rw[yad,yaa,Dv.bz,Dv.rn,FF f g l m];cases Dv.bz f m <;> rfl
theorem ZMx{α β:Type}{f:Nat->yO Nat}{g:α->Pl}{g':β->Pl}{l:yL α}{d d':Dv}{m:yL β}(h:Dv.rn f d=ab d'):
 Dv.bz f ((l.map λx=>.p (g x))++d::m.map λx=>.p (g' x))=ab ((l.map λx=>.p (g x))++d'::m.map λx=>.p (g' x)):=by
 have e:=FF f g' m [];rw[ybg]at e;rw[FF,Dv.bz,h,e];simp[Dv.bz]
theorem ZJX{f:Nat->yO Nat}{L M:Lk}(h:Rc f L M){e e':ai}(k:e.rn f=ab e'):ax.rn f (e.er L)=ab (e'.er M):=by
 cases e with
 |var d st=>
  obtain⟨i,h1,rfl⟩:=Zb k
  simp only[ai.er,ax.rn,gx h d i h1,yab]
 |row v s st e d=>
  obtain⟨i,h1,rfl⟩:=Zb k
  simp only[ai.er,ax.rn,gx h d i h1,yab]
 |bJ t np v st e pre d post=>
  obtain⟨i,h1,rfl⟩:=Zb k
  simp only[ai.er,ax.rn,Dv.rn,ZMx (gx h d i h1),yab]
 |_=>cases k;rfl
theorem ZGA{f:Nat->yO Nat}{L M:Lk}(h:Rc f L M):∀(ds es:yL ai),ai.bz f ds=ab es->ax.bz f (ds.map (ai.er L))=ab (es.map (ai.er M))
 |[],es,e=>by cases e;rfl
 |x::r,es,e=>by
  simp only[ai.bz]at e;split at e
  .rename_i y ys h1 h2;cases e;simp only[yad,ax.bz,ZJX h h1,ZGA h r ys h2]
  .cases e
theorem ZJY{f:Nat->yO Nat}{e e':ai}(k:e.rn f=ab e'):dy (ab e')=dy (ab e):=by
 cases e with
 |var d st=>obtain⟨i,h1,rfl⟩:=Zb k;rfl
 |row v s st e d=>obtain⟨i,h1,rfl⟩:=Zb k;rfl
 |bJ t np v st e pre d post=>obtain⟨i,h1,rfl⟩:=Zb k;rfl
 |_=>cases k;rfl
theorem ZCJ{f:Nat->yO Nat}:∀{ds es:yL ai},ai.bz f ds=ab es->es.length=ds.length/\∀(j:Nat),dy (es[j]?)=dy (ds[j]?)
 |[],es,e=>by cases e;exact⟨rfl,λ_=>rfl⟩
 |x::r,es,e=>by
  simp only[ai.bz]at e;split at e
  .rename_i y ys h1 h2;cases e;obtain⟨g1,g2⟩:=ZCJ h2;refine⟨by simp[g1],λj=> ?_⟩
   cases j with
   |zero=>exact ZJY h1
   |succ j=>exact g2 j
  .cases e
def Xr(H:yL ai)(all:yL Nat):yL Nat->yO (yL ai)
 |[]=>ab []
 |id::r=>match (H[id]?).bind (ai.rn (aT all)),Xr H all r with
  |some e,ab es=>ab (e::es)
  |_,_=>ae
theorem uN{H:yL ai}{all:yL Nat}:∀{ids:yL Nat}{Hin:yL ai},Xr H all ids=ab Hin->Hin.length=ids.length/\∀(j id:Nat),ids[j]? =ab id->id < H.length/\dy (Hin[j]?)=dy (H[id]?)
 |[],Hin,h=>by cases h;exact⟨rfl,λj id e=>by simp at e⟩
 |i::r,Hin,h=>by
  simp only[Xr]at h;split at h
  .rename_i e es h1 h2;cases h;obtain⟨g1,g2⟩:=uN h2;obtain⟨e0,h3,h4⟩:=yf.1 h1;refine⟨by simp[g1],λj id hj=> ?_⟩
   cases j with
   |zero=>
    cases hj
    exact⟨(yo.1 h3).1,by rw[h3];exact ZJY h4⟩
   |succ j=>exact g2 j id hj
  .cases h
theorem Xa{H:yL ai}{all:yL Nat}{M:Lk}(h:Rc (aT all) (lk H) M):∀{ids:yL Nat}{Hin:yL ai},Xr H all ids=ab Hin->aJ (aB H) all ids=ab (Hin.map (ai.er M))
 |[],Hin,e=>by cases e;rfl
 |i::r,Hin,e=>by
  simp only[Xr]at e;split at e
  .rename_i e0 es h1 h2;cases e;obtain⟨e1,h3,h4⟩:=yf.1 h1;simp only[aJ,ZJ h3,ya,ZJX h h4,Xa h h2,yad]
  .cases e
mutual
def TD.lay(L:Lk)(S:yL Nat):TD->TD
 |.own id nn t c=>if S.contains id then .own id nn t (ab (Z3 L id t c)) else .own id nn t c
 |.agg xs=>.agg (TD.lays L S xs)
 |.arr m s xs=>.arr m s (TD.lays L S xs)
 |.fn f xs=>.fn f (TD.lays L S xs)
 |.iface t x=>.iface t (TD.lay L S x)
 |.bj xs=>.bj (TD.lays L S xs)
 |.p x=>.p x
 |.elem x=>.elem x
 |.ak id yQ=>.ak id yQ
 |.view id yQ s lo n=>.view id yQ s lo n
 |.mp id=>.mp id
 |.rv id v s lo n=>.rv id v s lo n
 |.aY id v yQ=>.aY id v yQ
 |.rw id=>if S.contains id then .rv id (ew L id 0) (ew L id 1) 0 (ew L id 2) else .rw id
 |.rp id yQ=>if S.contains id then .aY id (ew L id 0) yQ else .rp id yQ
 |.ao=>.ao
def TD.lays(L:Lk)(S:yL Nat):yL TD->yL TD
 |[]=>[]
 |x::r=>TD.lay L S x::TD.lays L S r
end
mutual
def TD.under(n:Nat):TD->Bool
 |.own id _ _ c=>c.isSome || decide (id < n)
 |.rw id=>ah (id < n)
 |.rp id _=>ah (id < n)
 |.agg xs=>TD.dG n xs
 |.arr _ _ xs=>TD.dG n xs
 |.fn _ xs=>TD.dG n xs
 |.iface _ x=>TD.under n x
 |.bj xs=>TD.dG n xs
 |_=>af
def TD.dG(n:Nat):yL TD->Bool
 |[]=>af
 |x::r=>TD.under n x&&TD.dG n r
end
def ai.lay(L:Lk)(S:yL Nat):ai->ai
 |.var d st=>.var (d.lay L S) st
 |.row v s st e d=>.row v s st e (d.lay L S)
 |.bJ t np v st e pre d post=>.bJ t np v st e pre (d.lay L S) post
 |e=>e
def ai.under(n:Nat):ai->Bool
 |.var d _=>d.under n
 |.row _ _ _ _ d=>d.under n
 |.bJ _ _ _ _ _ _ d _=>d.under n
 |_=>af
def Lo(S:yL Nat)(n:Nat)(L M:Lk):Prop:=∀id t,S.contains id=ag->id < n->Z3 L id t ae=Z3 M id t ae
mutual
theorem rD{L M:Lk}{S:yL Nat}{n:Nat}(h:Lo S n L M):∀(d:TD),d.under n=af->(d.lay L S).er M=d.er L
 |.p _,_=>rfl
 |.elem _,_=>rfl
 |.ak _ _,_=>rfl
 |.own id nn t c,hf=>by
  rw[TD.lay];split
  .rfl
  .rename_i hn
   cases c with
   |none=>
    have:id < n:=by simpa[TD.under] using hf
    rw[TD.er,TD.er,h id t (by simpa using hn) this]
   |some _=>rfl
 |.view _ _ _ _ _,_=>rfl
 |.agg xs,hf=>by rw[TD.lay,TD.er,TD.er,dL h xs hf]
 |.arr _ _ xs,hf=>by rw[TD.lay,TD.er,TD.er,dL h xs hf]
 |.fn _ xs,hf=>by rw[TD.lay,TD.er,TD.er,dL h xs hf]
 |.iface _ x,hf=>by rw[TD.lay,TD.er,TD.er,rD h x hf]
 |.bj xs,hf=>by rw[TD.lay,TD.er,TD.er,dL h xs hf]
 |.mp _,_=>rfl
 |.rv _ _ _ _ _,_=>rfl
 |.aY _ _ _,_=>rfl
 |.rw id,hf=>by
  rw[TD.lay];split
  .rfl
  .rename_i hn;have:id < n:=by simpa[TD.under] using hf
   simp only[TD.er,ew,h id _ (by simpa using hn) this]
 |.rp id _,hf=>by
  rw[TD.lay];split
  .rfl
  .rename_i hn;have:id < n:=by simpa[TD.under] using hf
   simp only[TD.er,ew,h id _ (by simpa using hn) this]
 |.ao,_=>rfl
theorem dL{L M:Lk}{S:yL Nat}{n:Nat}(h:Lo S n L M):∀(ds:yL TD),TD.dG n ds=af->TD.ay M (TD.lays L S ds)=TD.ay L ds
 |[],_=>rfl
 |x::r,hf=>by
  simp only[TD.dG,yi]at hf;rw[TD.lays,TD.ay,TD.ay,rD h x hf.1,dL h r hf.2]
end
theorem ZCK{L:Lk}{S:yL Nat}:∀(l:yL TD),(TD.lays L S l).length=l.length
 |[]=>rfl
 |_::r=>by rw[TD.lays,yah,yah,ZCK r]
theorem ZMy{L M:Lk}{S:yL Nat}{n:Nat}(h:Lo S n L M){e:ai}(hf:e.under n=af):(e.lay L S).er M=e.er L:=by
 cases e with
 |var d st=>rw[ai.lay,ai.er,ai.er,rD h d hf]
 |row v s st e d=>rw[ai.lay,ai.er,ai.er,rD h d hf]
 |bJ t np v st e pre d post=>rw[ai.lay,ai.er,ai.er,rD h d hf]
 |_=>rfl
theorem ZMz{L:Lk}{S:yL Nat}(e:yO ai):dy (e.map (ai.lay L S))=dy e:=by
 cases e with
 |none=>rfl
 |some e=>cases e <;> rfl
theorem ZrF{α β:Type}(f:α->β):∀(ids:yL Nat)(A B:yL α),(ar A ids B).map f=ar (A.map f) ids (B.map f)
 |[],A,B=>by simp[ar]
 |id::r,A,[]=>by simp[ar]
 |id::r,A,b::B=>by simp only[ar,yad];rw[ZrF f r,ybi]
def TD.bR(L:Lk)(ids:yL Nat):TD->TD
 |.own id nn t c=>if ids.contains id then .own id nn t c else .p (.sl nn t (Z3 L id t c))
 |.agg ds=>if TD.dB ids ds then .agg ds else TD.dw L ds
 |d=>d
theorem FG{L:Lk}{ids:yL Nat}(d:TD):(d.bR L ids).er L=Dv.bR ids (d.er L):=by
 cases d with
 |own id nn t c=>
  rw[TD.bR,TD.er,Dv.bR]
  split <;> rfl
 |p _=>rfl
 |elem _=>rfl
 |ak _ _=>rfl
 |view _ _ _ _ _=>rfl
 |agg ds=>
  rw[TD.bR,TD.er,Dv.bR,fa];split
  .rw[TD.er]
  .exact US _
 |arr _ _ _=>rfl
 |fn _ _=>rfl
 |iface _ _=>rfl
 |bj _=>rfl
 |mp _=>rfl
 |rv _ _ _ _ _=>rfl
 |aY _ _ _=>rfl
 |rw _=>rfl
 |rp _ _=>rfl
 |ao=>rfl
def lE(P:yg)(ts:yL TD):yL yn->yL yc->yO (yL TD)
 |[],_=>ab []
 |_,[]=>ab []
 |x::r,t::q=>match aW P ts t x,lE P ts r q with
  |some a,ab b=>ab (a::b)
  |_,_=>ae
theorem oE{P:yg}{ts:yL TD}{L:Lk}(ids:yL Nat):∀{l:yL yn}{ty:yL yc}{ds:yL TD},lE P ts l ty=ab ds->
 ((l.zip ty).map λq=>(Zs P (TD.ay L ts) q.2 q.1).bR ids)=TD.ay L (ds.map (TD.bR L ids))
 |[],ty,ds,h=>by cases h;rfl
 |x::r,[],ds,h=>by cases h;rfl
 |x::r,t::q,ds,h=>by
  simp only[lE]at h;split at h
  .rename_i a b h1 h2;cases h;simp only[List.zip_cons_cons,yad,TD.ay,Zq (L:=L) h1,FG,oE ids h2]
  .cases h
theorem uO{L:Lk}(ids:yL Nat)(ds:yL TD):(TD.ay L ds).map (Dv.bR ids)=TD.ay L (ds.map (TD.bR L ids)):=by
 rw[Zz,Zz,yaq,yaq];exact ycl λx _=>(FG x).symm
structure Fs(P:yg)where
 g:yu
 ps:List Sh
 es:List bi
 ins:List Ty
 xs:List bS
 M:Ty.aI ins->Option (bS.sum xs)
def Fs.Ok{P:yg}(s:Fs P):Prop:=
 ∀x o,s.M x=ab o->∃args R H,Sh.fills s.ps (dT s.ins x)=ab (args,R)/\bi.fills s.es R=ab (H,[])/\
  ∀e vs s',lC s.xs o e vs->VK 1 e.sl e.es vs=ab s'->∃r,s'.1=[r]/\cR P s.g (TD.ay (lk H) args) (aB H) (r.er (lk s'.2)) (aB s'.2)
def cP{P:yg}:yL (Fs P)->Prop
 |[]=>True
 |s::r=>s.Ok/\cP r
mutual
def Sh.ids:Sh->TD->yL (Nat×Nat)
 |.own j _,d=>match d with
  |.own id _ _ ae=>[(j,id)]
  |_=>[]
 |.ak j _,d=>match d with
  |.ak id _=>[(j,id)]
  |_=>[]
 |.mp j,d=>match d with
  |.mp id=>[(j,id)]
  |_=>[]
 |.rw j,d=>match d with
  |.rw id=>[(j,id)]
  |_=>[]
 |.rp j _ _,d=>match d with
  |.rp id _=>[(j,id)]
  |_=>[]
 |.view j _ _ _ _,d=>match d with
  |.view id _ _ _ _=>[(j,id)]
  |_=>[]
 |.rv j _ _ _ _,d=>match d with
  |.rv id _ _ _ _=>[(j,id)]
  |_=>[]
 |.fn _ l,d=>match d with
  |.fn _ ds=>Sh.gy l ds
  |_=>[]
 |.agg l,d=>match d with
  |.agg ds=>Sh.gy l ds
  |_=>[]
 |.arr _ _ l,d=>match d with
  |.arr _ _ ds=>Sh.gy l ds
  |_=>[]
 |.bj l,d=>match d with
  |.bj ds=>Sh.gy l ds
  |_=>[]
 |.iface _ x,d=>match d with
  |.iface _ y=>Sh.ids x y
  |_=>[]
 |_,_=>[]
def Sh.gy:yL Sh->yL TD->yL (Nat×Nat)
 |[],_=>[]
 |s::r,ds=>match ds with
  |d::q=>Sh.ids s d++Sh.gy r q
  |[]=>[]
end
def FH(H:yL ai):yL bi->Nat->yL (Nat×Nat)->yL (Nat×Nat)
 |[],_,l=>l
 |e::r,j,l=>FH H r (j+1) (match e,(l.lookup j).bind λid=>H[id]? with
  |.var s _,ab (.var d _)=>l++Sh.ids s d
  |.mW _ _ _ _ _ sl,ab (.row _ _ _ _ (.arr _ _ ds))=>l++Sh.gy sl ds
  |_,_=>l)
def ZJZ(H:yL ai):yO Nat:=(yq H.length).reverse.find? λi=>match H[i]? with
 |some .gone=>af
 |_=>ag
def ZNU(H:yL ai)(ps:yL Sh)(es:yL bi)(ds:yL TD):yO (yL Nat):=
 match ps,es with
 |[],[.gone]=>(ZJZ H).map λi=>[i]
 |_,_=>
  let l:=FH H es 0 (Sh.gy ps ds)
  (yq es.length).mapM λj=>l.lookup j
def uP{P:yg}(s:Fs P)(H:yL ai)(args:yL TD)(ids:yL Nat):yO (Ty.aI s.ins):=
 if once ids then(TD.bz (aT ids) (args.map (TD.bR (lk H) ids))).bind λa2=>(Xr H ids ids).bind λHin=>
  (Sh.du (lk Hin) s.ps a2).bind λq=>(bi.du (lk Hin) s.es Hin).bind λw=>gM s.ins (q.2++w.2)
 else ae
theorem Ve{H Hin:yL ai}{ids:yL Nat}(h:Xr H ids ids=ab Hin):Rc (aT ids) (lk H) (lk Hin):=by
 intro id j t e;obtain⟨g1,g2⟩:=uN h;have hj:=bW e;have:=(g2 j id hj).2;unfold Z3 lk;dsimp only;rw[this]
theorem ZMA{P:yg}{s:Fs P}{H:yL ai}{args:yL TD}{ids:yL Nat}{x:Ty.aI s.ins}(h:uP s H args ids=ab x):
 once ids=af/\∃Hin a2 a3 H3 R,Xr H ids ids=ab Hin/\aJ (aB H) ids ids=ab (aB Hin)/\Dv.bz (aT ids) (TD.ay (lk H) (args.map (TD.bR (lk H) ids)))=ab (TD.ay (lk Hin) a2)/\
  Sh.fills s.ps (dT s.ins x)=ab (a3,R)/\bi.fills s.es R=ab (H3,[])/\cK (TD.ay (lk Hin) a2) (TD.ay (lk H3) a3)/\ct (aB Hin) (aB H3):=by
 unfold uP at h;split at h
 .rename_i ho;obtain⟨a2,h1,h⟩:=yf.1 h;obtain⟨Hin,h2,h⟩:=yf.1 h;obtain⟨q,h3,h⟩:=yf.1 h;obtain⟨w,h4,h⟩:=yf.1 h;obtain⟨g1,g2⟩:=ov h4;have e:=jb _ _ _ h;have hc:∀id t,Z3 (lk Hin) id t ae=Z3 (lk w.1) id t ae:=λid t=>by rw[g2]
  refine⟨ho,Hin,a2,q.1,w.1,w.2,h2,Xa (Ve h2) h2,cF (Ve h2) _ _ h1, ?_, ?_,cE hc _ _ _ h3,oz hc h4⟩
  .rw[e];exact bH _ _ _ h3 _
  .have:=QY h4 []
   rwa [ybg]at this
 .cases h
section
variable{P:yg}{o:Oper}{ts all:yL TD}{H:yL ai}{O:Type}{K:Kn O}{out:O}
def uQ(all:yL TD)(H:yL ai)(K:Kn O)(ids:yL Nat)(r:TD)(Hn:yL ai):yO O:=
 if(ids.isEmpty&&Hn.isEmpty)=af then(r.rn λ_=>ae).bind λr'=>K all r' H [.call (r.er (lk [])) [] []] 0 else
 (r.rn (aP ids H.length)).bind λr'=>(ai.bz (aP ids H.length) Hn).bind λHb=>
   if(ah (ids.length<=Hn.length)&&TD.dG H.length all&&H.all (ai.under H.length))=af then
    K (TD.lays (lk H) ids all) r' (ar (H.map (ai.lay (lk H) ids)) ids Hb) [.call (r.er (lk Hn)) (aB Hn) ids] 2
   else ae
def FJ(s:Fs P)(all:yL TD)(H:yL ai)(K:Kn O)(args:yL TD)(ids:yL Nat)(x:Ty.aI s.ins):yO O:=
 (s.M x).bind λy=>xT 1 s.xs y λ_ rs Hn=>match rs with
   |[r]=>uQ all H K ids r Hn
   |_=>ae
def oF(g:yu)(all:yL TD)(H:yL ai)(K:Kn O)(args:yL TD)(yS:yO O):yL (Fs P)->yO O
 |[]=>yS
 |s::yK=>if s.g=g then match (ZNU H s.ps s.es args).bind λids=>(uP s H args ids).map λx=>(ids,x) with
   |some q=>FJ s all H K args q.1 q.2
   |none=>oF g all H K args yS yK
  else oF g all H K args yS yK
mutual
def Sh.gz:Sh->TD->Bool
 |.v t,d=>match d with
  |.p (.v u _)=>match Ty.dec u t with
   |isTrue _=>af
   |isFalse _=>ag
  |_=>ag
 |.own _ _,d=>match d with
  |.own _ ae _ ae=>af
  |_=>ag
 |.ak _ _,d=>match d with
  |.ak _ _=>af
  |_=>ag
 |.mp _,d=>match d with
  |.mp _=>af
  |_=>ag
 |.rw _,d=>match d with
  |.rw _=>af
  |_=>ag
 |.agg l,d=>match d with
  |.agg ds=>Sh.gA l ds
  |_=>ag
 |.arr _ _ l,d=>match d with
  |.arr _ _ ds=>Sh.gA l ds
  |_=>ag
 |.bf,_=>af
 |.fn0,_=>af
 |.dN,_=>af
 |.ci,_=>af
 |_,_=>ag
def Sh.gA:yL Sh->yL TD->Bool
 |[],[]=>af
 |s::r,d::q=>Sh.gz s d&&Sh.gA r q
 |_,_=>ag
end
theorem ZQZ{L:Lk}{t:Ty}{d:TD}{q:TD×yL TV}(h:Sh.gz (.v t) d=af)(k:Sh.mt L (.v t) d=ab q):q.1=d:=by
 unfold Sh.gz at h;split at h
 .rename_i u y;split at h
  .rename_i e _;subst e;unfold Sh.mt TD.EY TP.to at k;dsimp only at k;rw[Yo,yab]at k;cases k;rfl
  .cases h
 .cases h
theorem ZOS{L:Lk}{j:Nat}{t:Ty}{d:TD}{q:TD×yL TV}(h:Sh.gz (.own j t) d=af)(k:Sh.mt L (.own j t) d=ab q):q.1=d:=by
 unfold Sh.gz at h;split at h
 .unfold Sh.mt at k;dsimp only at k;split at k
  .rename_i e;obtain⟨rfl,rfl⟩:=e;cases k;rfl
  .cases k
 .cases h
theorem ZOT{L:Lk}{j:Nat}{p:yL ca}{d:TD}{q:TD×yL TV}(h:Sh.gz (.ak j p) d=af)(k:Sh.mt L (.ak j p) d=ab q):q.1=d:=by
 unfold Sh.gz at h;split at h
 .unfold Sh.mt at k;dsimp only at k;split at k
  .rename_i e;obtain⟨rfl,e2⟩:=e;have:=rB e2;subst this;cases k;rfl
  .cases k
 .cases h
theorem ZQb{L:Lk}{j:Nat}{d:TD}{q:TD×yL TV}(h:Sh.gz (.mp j) d=af)(k:Sh.mt L (.mp j) d=ab q):q.1=d:=by
 unfold Sh.gz at h;split at h
 .unfold Sh.mt at k;dsimp only at k;split at k
  .rename_i e;subst e;cases k;rfl
  .cases k
 .cases h
theorem ZQc{L:Lk}{j:Nat}{d:TD}{q:TD×yL TV}(h:Sh.gz (.rw j) d=af)(k:Sh.mt L (.rw j) d=ab q):q.1=d:=by
 unfold Sh.gz at h;split at h
 .unfold Sh.mt at k;dsimp only at k;split at k
  .rename_i e;subst e;cases k;rfl
  .cases k
 .cases h
mutual
theorem ZNV{L:Lk}:∀(s:Sh)(d:TD)(q:TD×yL TV),Sh.gz s d=af->Sh.mt L s d=ab q->q.1=d
 |.v t,d,q,h,k=>ZQZ h k
 |.own j t,d,q,h,k=>ZOS h k
 |.ak j p,d,q,h,k=>ZOT h k
 |.mp j,d,q,h,k=>ZQb h k
 |.rw j,d,q,h,k=>ZQc h k
 |.agg l,.agg ds,q,h,k=>by
  have k:(Sh.du L l ds).map (λq=>(TD.agg q.1,q.2))=ab q:=by unfold Sh.mt at k;exact k
  have h:Sh.gA l ds=af:=by unfold Sh.gz at h;exact h
  obtain⟨w,k1,k2⟩:=Zb k;rw[<-k2]
  exact congrArg TD.agg (fK l ds w h k1)
 |.arr n s l,.arr m s2 ds,q,h,k=>by
  have k:(if m=n/\s2=s then(Sh.du L l ds).map (λq=>(TD.arr n s q.1,q.2)) else ae)=ab q:=by unfold Sh.mt at k;exact k
  have h:Sh.gA l ds=af:=by unfold Sh.gz at h;exact h
  split at k
  .rename_i e;obtain⟨w,k1,k2⟩:=Zb k;rw[<-k2,e.1,e.2];exact congrArg (TD.arr n s) (fK l ds w h k1)
  .cases k
 |.bf,d,q,h,k=>by
  unfold Sh.mt at k
  split at k <;> first|(cases k;rfl)|cases k
 |.fn0,d,q,h,k=>by
  unfold Sh.mt at k
  split at k <;> first|(cases k;rfl)|cases k
 |.dN,d,q,h,k=>by
  unfold Sh.mt at k
  split at k <;> first|(cases k;rfl)|cases k
 |.ci,d,q,h,k=>by
  unfold Sh.mt at k;split at k <;> first|(cases k;rfl)|cases k
theorem fK{L:Lk}:∀(l:yL Sh)(ds:yL TD)(q:yL TD×yL TV),Sh.gA l ds=af->Sh.du L l ds=ab q->q.1=ds
 |[],[],q,_,k=>by
  simp only[Sh.du]at k;cases k
  rfl
 |[],_::_,_,h,_=>by cases h
 |_::_,[],_,h,_=>by cases h
 |s::r,d::ds,q,h,k=>by
  simp only[Sh.gA,yi]at h;simp only[Sh.du]at k;split at k
  .rename_i a b k1 k2;cases k;rw[ZNV s d a h.1 k1,fK r ds b h.2 k2]
  .cases k
end
def bi.FK:bi->ai->Bool
 |.var s st,.var d st'=>(st==st')&&s.gz d
 |.log t _,.log u _ _=>match Ty.dec u t with
  |isTrue _=>af
  |isFalse _=>ag
 |.gone,.gone=>af
 |_,_=>ag
theorem ZOU{L:Lk}{s:bi}{d:ai}{q:ai×yL TV}(h:s.FK d=af)(k:s.mt L d=ab q):q.1=d:=by
 unfold bi.FK at h;split at h
 .simp only[yi,yT]at h;obtain⟨rfl,h⟩:=h;simp only[bi.mt]at k;split at k
  .obtain⟨w,k1,rfl⟩:=Zb k;show ai.var w.1 _=_;rw[ZNV _ _ w h k1]
  .cases k
 .split at h
  .rename_i e _;subst e;simp only[bi.mt]at k;split at k
   .rename_i e;subst e;obtain⟨w,k1,rfl⟩:=Zb k;obtain⟨e1,e2⟩:=ZC k1;cases e1;subst e2;rfl
   .cases k
  .cases h
 .simp only[bi.mt]at k;cases k;rfl
 .cases h
def bi.uR:yL bi->yL ai->Bool
 |[],[]=>af
 |s::r,d::q=>s.FK d&&bi.uR r q
 |_,_=>ag
theorem ZCL{L:Lk}:∀{l:yL bi}{ds:yL ai}{q:yL ai×yL TV},bi.uR l ds=af->bi.du L l ds=ab q->q.1=ds
 |[],[],q,_,k=>by
  simp only[bi.du]at k;cases k
  rfl
 |[],_::_,_,h,_=>by cases h
 |_::_,[],_,h,_=>by cases h
 |s::r,d::ds,q,h,k=>by
  simp only[bi.uR,yi]at h;simp only[bi.du]at k;split at k
  .rename_i a b k1 k2;cases k;rw[ZOU h.1 k1,ZCL h.2 k2]
  .cases k
structure Rs(P:yg)where
 g:yu
 ps:List Sh
 es:List bi
 ins:List Ty
 r:Sh
 t:List Ty
 M:Ty.aI ins->Option (Ty.aI t)
def Rs.Ok{P:yg}(s:Rs P):Prop:=
 ∀x o,s.M x=ab o->∃args R H,Sh.fills s.ps (dT s.ins x)=ab (args,R)/\bi.fills s.es R=ab (H,[])/\
  ∀q,Sh.fill s.r (dT s.t o)=ab q->cR P s.g (TD.ay (lk H) args) (aB H) (q.1.er (lk H)) (aB H)
def gN{P:yg}:yL (Rs P)->Prop
 |[]=>True
 |s::r=>s.Ok/\gN r
mutual
theorem uS{f g:Nat->yO Nat}(hfg:∀i j,f i=ab j->g j=ab i):∀(d d':Dv),d.rn f=ab d'->d'.rn g=ab d
 |.p x,d',h=>by cases h;rfl
 |.elem x,d',h=>by cases h;rfl
 |.ak id o p,d',h=>by
  simp only[Dv.rn,yp]at h;obtain⟨i,h1,rfl⟩:=h
  simp only[Dv.rn,hfg _ _ h1,yab]
 |.own id nn s xs,d',h=>by
  simp only[Dv.rn,yp]at h;obtain⟨i,h1,rfl⟩:=h
  simp only[Dv.rn,hfg _ _ h1,yab]
 |.view id o p s lo n,d',h=>by
  simp only[Dv.rn,yp]at h;obtain⟨i,h1,rfl⟩:=h
  simp only[Dv.rn,hfg _ _ h1,yab]
 |.agg xs,d',h=>by
  simp only[Dv.rn,yp]at h;obtain⟨i,h1,rfl⟩:=h
  simp only[Dv.rn,dH hfg _ _ h1,yab]
 |.arr n s xs,d',h=>by
  simp only[Dv.rn,yp]at h;obtain⟨i,h1,rfl⟩:=h
  simp only[Dv.rn,dH hfg _ _ h1,yab]
 |.fn k xs,d',h=>by
  simp only[Dv.rn,yp]at h;obtain⟨i,h1,rfl⟩:=h
  simp only[Dv.rn,dH hfg _ _ h1,yab]
 |.iface t x,d',h=>by
  simp only[Dv.rn,yp]at h;obtain⟨i,h1,rfl⟩:=h
  simp only[Dv.rn,uS hfg _ _ h1,yab]
 |.bj xs,d',h=>by
  simp only[Dv.rn,yp]at h;obtain⟨i,h1,rfl⟩:=h
  simp only[Dv.rn,dH hfg _ _ h1,yab]
 |.mp id,d',h=>by
  simp only[Dv.rn,yp]at h;obtain⟨i,h1,rfl⟩:=h
  simp only[Dv.rn,hfg _ _ h1,yab]
 |.rv id v s lo n,d',h=>by
  simp only[Dv.rn,yp]at h;obtain⟨i,h1,rfl⟩:=h
  simp only[Dv.rn,hfg _ _ h1,yab]
 |.aY id v o p,d',h=>by
  simp only[Dv.rn,yp]at h;obtain⟨i,h1,rfl⟩:=h
  simp only[Dv.rn,hfg _ _ h1,yab]
 |.ao,d',h=>by cases h;rfl
theorem dH{f g:Nat->yO Nat}(hfg:∀i j,f i=ab j->g j=ab i):∀(d d':yL Dv),Dv.bz f d=ab d'->Dv.bz g d'=ab d
 |[],d',h=>by cases h;rfl
 |x::r,d',h=>by
  simp only[Dv.bz]at h;split at h
  .rename_i y ys h1 h2;cases h;simp only[Dv.bz,uS hfg x y h1,dH hfg r ys h2]
  .cases h
end
theorem ZJ0{f g:Nat->yO Nat}(hfg:∀i j,f i=ab j->g j=ab i){e e':ax}(h:e.rn f=ab e'):e'.rn g=ab e:=by
 cases e with
 |var d st=>
  simp only[ax.rn,yp]at h;obtain⟨y,h1,rfl⟩:=h
  simp only[ax.rn,uS hfg _ _ h1,yab]
 |row v s st t d=>
  simp only[ax.rn,yp]at h;obtain⟨y,h1,rfl⟩:=h
  simp only[ax.rn,uS hfg _ _ h1,yab]
 |log _ _ _=>cases h;rfl
 |map _ _=>cases h;rfl
 |gone=>cases h;rfl
theorem ZJ1{H:yL ax}{ids:yL Nat}{Hin:yL ax}(ho:once ids=af)(h:aJ H ids ids=ab Hin):∃Hb,ax.bz (aP ids H.length) Hin=ab Hb/\ar H ids Hb=H:=by
 have hfg:∀i j,aT ids i=ab j->aP ids H.length j=ab i:=by
  intro i j e;have hj:=bW e;unfold aP;rw[yW (yo.1 hj).1,hj]
 have key:∀(l:yL Nat)(A:yL ax),aJ H ids l=ab A->∃B,ax.bz (aP ids H.length) A=ab B/\B.length=l.length/\∀(j id:Nat),l[j]? =ab id->B[j]? =H[id]? /\id < H.length:=by
  intro l
  induction l with
  |nil=>
   intro A hA;simp only[aJ,yj]at hA;subst hA
   exact⟨[],rfl,rfl,λj id hj=>by simp at hj⟩
  |cons x r ih=>
   intro A hA;simp only[aJ]at hA;split at hA
   .rename_i e es h1 h2;cases hA;obtain⟨B,b1,b2,b3⟩:=ih es h2;obtain⟨e0,g1,g2⟩:=yf.1 h1;refine⟨e0::B, ?_,by simp[b2],λj id hj=> ?_⟩
    .simp only[ax.bz,ZJ0 hfg g2,b1]
    .cases j with
     |zero=>
      simp only[ybb,yj]at hj;subst hj
      exact⟨by rw[ybb,g1],(yo.1 g1).1⟩
     |succ j=>exact b3 j id (by simpa using hj)
   .cases hA
 obtain⟨Hb,b1,b2,b3⟩:=key ids Hin h
 have hlt:∀i,i∈ids->i < H.length:=λi hi=>by
  obtain⟨j,hj⟩:=List.getElem?_of_mem hi;exact(b3 j i hj).2
 refine⟨Hb,b1, ?_⟩;have hle:ids.length<=Hb.length:=by omega
 apply List.ext_getElem?;intro i;have zW:(ar H ids Hb).length=H.length:=by rw[tR _ _ _ hle];omega
 by_cases hi:i < H.length
 .by_cases hm:i∈ids
  .obtain⟨j,hj⟩:=List.getElem?_of_mem hm;rw[pY H ids Hb j i ho hle hlt hj,(b3 j i hj).1]
  .exact Vi H ids Hb i hle hi hm
 .rw[yan (by omega),yan (by omega)]
structure Sp(P:yg)where
 l:List (Fs P):=[]
 hd:(O:Type)->yu->List TD->List ai->(TD->List ai->Option O)->Option O:=λ_ _ _ _ _=>ae
 mt:List (yc×String×yu):=[]
 ro:List (Rs P):=[]
def na(P:yg)(hd:(O:Type)->yu->yL TD->yL ai->(TD->yL ai->yO O)->yO O):Prop:=
 ∀(O:Type)(g:yu)(args:yL TD)(H:yL ai)(K:TD->yL ai->yO O)(out:O),hd O g args H K=ab out->
  ∃r H',K r H'=ab out/\cR P g (TD.ay (lk H) args) (aB H) (r.er (lk H')) (aB H')
def gb(P:yg):yL (yc×String×yu)->Prop
 |[]=>True
 |q::r=>nI P q.1 q.2.1 q.2.2/\gb P r
def rE:yL (yc×String×yu)->yc->String->yO yu
 |[],_,_=>ae
 |q::r,t,n=>if q.1=t then if q.2.1=n then ab q.2.2 else rE r t n else rE r t n
theorem FL:∀{l:yL (yc×String×yu)}{t:yc}{n:String}{g:yu},gb P l->rE l t n=ab g->nI P t n g
 |[],_,_,_,_,h=>by cases h
 |q::r,t,n,g,hk,h=>by
  unfold rE at h;split at h
  .rename_i e1;split at h
   .rename_i e2;cases h;rw[<-e1, <-e2];exact hk.1
   .exact FL hk.2 h
  .exact FL hk.2 h
structure dx(s:Sp P):Prop where
 l:cP s.l
 hd:na P s.hd
 mt:gb P s.mt
 ro:gN s.ro
theorem ZGB:na P (λ_ _ _ _ _=>ae):=λ_ _ _ _ _ _ h=>by cases h
theorem jc{l:yL (Fs P)}(h:cP l):dx ({ l:=l}:Sp P):=⟨h,ZGB,zP,au⟩
theorem FM{l:yL (Fs P)}{mt:yL (yc×String×yu)}{ro:yL (Rs P)}(h:cP l)(k:gb P mt)(r:gN ro):dx ({ l:=l,mt:=mt,ro:=ro}:Sp P):=⟨h,ZGB,k,r⟩
mutual
def TD.look:TD->yL Nat
 |.ak id _=>[id]
 |.own id _ _ _=>[id]
 |.view id _ _ _ _=>[id]
 |.mp id=>[id]
 |.rv id _ _ _ _=>[id]
 |.aY id _ _=>[id]
 |.rw id=>[id]
 |.rp id _=>[id]
 |.agg xs=>TD.looks xs
 |.arr _ _ xs=>TD.looks xs
 |.fn _ xs=>TD.looks xs
 |.iface _ x=>TD.look x
 |.bj xs=>TD.looks xs
 |_=>[]
def TD.looks:yL TD->yL Nat
 |[]=>[]
 |x::r=>TD.look x++TD.looks r
end
def ai.look:ai->yL Nat
 |.var d _=>d.look
 |.row _ _ _ _ d=>d.look
 |.bJ _ _ _ _ _ _ d _=>d.look
 |_=>[]
def lF(h:yL ai):Nat->yL Nat->yL Nat->yL Nat
 |0,_,got=>got
 |_+1,[],got=>got
 |k+1,id::r,got=>if got.contains id then lF h k r got else lF h k (((h[id]?).map ai.look).getD []++r) (id::got)
def uT(sp:Sp P)(g:yu)(all:yL TD)(H:yL ai)(K:Kn O)(args:yL TD):yO O:=
 let ids:=lF H 100000 (TD.looks args) []
 if once ids then(TD.bz (aT ids) (args.map (TD.bR (lk H) ids))).bind λa2=>(Xr H ids ids).bind λHin=>
  sp.hd O g a2 Hin λr Hn=>uQ all H K ids r Hn
 else ae
def rF(g:yu)(all:yL TD)(H:yL ai)(K:Kn O)(args:yL TD)(yS:yO O):yL (Rs P)->yO O
 |[]=>yS
 |s::yK=>if s.g=g then(ZNU H s.ps s.es args).bind λids=>(Xr H ids ids).bind λHin=>if(once ids&& !ids.isEmpty&&bi.uR s.es Hin)=af then
   (TD.bz (aT ids) (args.map (TD.bR (lk H) ids))).bind λa2=>(Sh.du (lk Hin) s.ps a2).bind λq=>(bi.du (lk Hin) s.es Hin).bind λw=>(gM s.ins (q.2++w.2)).bind λx=>
     (s.M x).bind λy=>(Sh.fill s.r (dT s.t y)).bind λq=>(q.1.rn λ_=>ae).bind λr'=>K all r' H [.call (q.1.er (lk Hin)) (aB Hin) ids] 3
   else ae
  else rF g all H K args yS yK
def ZNW(sp:Sp P)(g:yu)(all:yL TD)(H:yL ai)(K:Kn O)(args:yL TD):yO O:=rF g all H K args (oF g all H K args (uT sp g all H K args) sp.l) sp.ro
def eL(h:yL ai):yL Sh->yL TD->yO (yL TV×yL Pl)
 |[],[]=>ab ([],[])
 |.v t::r,d::q=>(oB h 100 t d).bind λy=>(eL h r q).map λw=>(⟨t,y⟩::w.1,t.enc y::w.2)
 |_,_=>ae
def TD.lG:TD->yO Pl
 |.p (.v t x)=>if t.flat=af then ab (t.enc x) else ae
 |_=>ae
mutual
theorem uU:∀(t:Ty)(x:t.aN),t.flat=af->(t.enc x).flat=af
 |.int _,_,_=>rfl
 |.u8,_,_=>rfl
 |.u32,_,_=>rfl
 |.u64,_,_=>rfl
 |.bool,_,_=>rfl
 |.str,_,h=>by cases h
 |.sl _,_,h=>by cases h
 |.arr n t,x,h=>by
  have key:∀l:yL t.aN,Pl.aM (l.map t.enc)=af:=by
   intro l
   induction l with
   |nil=>rfl
   |cons y r ih=>rw[yad,Pl.aM,uU t y h,ih];rfl
  exact key x
 |.st fs,x,h=>fD fs x h
theorem fD:∀(fs:yL Ty)(x:Ty.aI fs),Ty.aM fs=af->Pl.aM (Ty.encs fs x)=af
 |[],_,_=>rfl
 |[t],x,h=>by
  simp only[Ty.aM,Bool.and_true]at h;rw[Ty.encs,Pl.aM,uU t x h]
  rfl
 |t::u::r,x,h=>by
  have h':(t.flat&&Ty.aM (u::r))=af:=h;rw[yi]at h';rw[Ty.encs,Pl.aM,uU t x.1 h'.1,fD (u::r) x.2 h'.2];rfl
end
theorem ZuI{d:TD}{p:Pl}{L:Lk}(h:d.lG=ab p):d.er L=.p p/\p.flat=af:=by
 cases d with
 |p x=>
  cases x with
  |v t y=>
   replace h:(if t.flat=af then ab (t.enc y) else ae)=ab p:=h
   split at h
   .rename_i hf;cases h;exact⟨rfl,uU t y hf⟩
   .cases h
  |_=>cases h
 |_=>cases h
def rG(g:yu)(all:yL TD)(H:yL ai)(K:Kn O)(args:yL TD)(yS:yO O):yL (Fs P)->yO O
 |[]=>yS
 |s::yK=>if s.g=g/\s.es.isEmpty=af then match (Dv.eU (TD.ay (lk H) (args.map (TD.bR (lk H) [])))).bind λid=>eL (mZ id H) s.ps (args.map (TD.bR (lk H) [])) with
   |some q=>(gM s.ins q.1).bind λx=>(s.M x).bind λy=>xT 1 s.xs y λ_ rs Hn=>match rs,Hn with
    |[r],[]=>r.lG.bind λp=>K all r H [.el (.agg q.2),.call (.p p) [] []] 1
    |_,_=>ae
   |none=>rG g all H K args yS yK
  else rG g all H K args yS yK
def ZNX(sp:Sp P)(g:yu)(all:yL TD)(H:yL ai)(K:Kn O)(args:yL TD):yO O:=rF g all H K args (oF g all H K args (rG g all H K args (uT sp g all H K args) sp.l) sp.l) sp.ro
structure dh(P:yg)(g:yu)(all args:List TD)(H:List ai)(a':List TD)(d:TD)(H':List ai)(hs:List al)(bF:Nat):Prop where
 same:TD.ay (lk H') a'=TD.ay (lk H) all
 len:a'.length=all.length
 op:∃(ids:List Nat)(Hin Hn Hb:List ax)(az:List Dv)(r:Dv),once ids=af/\ids.length<=Hn.length/\aJ (aB H) ids ids=ab Hin/\
  Dv.bz (aT ids) (TD.ay (lk H) (args.map (TD.bR (lk H) ids)))=ab az/\cR P g az Hin r Hn/\r.rn (aP ids H.length)=ab (d.er (lk H'))/\ax.bz (aP ids H.length) Hn=ab Hb/\
  aB H'=ar (aB H) ids Hb/\hs=[.call r Hn ids]/\(bF=2/\¬(ids=[]/\Hn=[])\/(bF=3/\aB H'=aB H/\¬(ids=[]/\Hn=[]))\/bF=0/\ids=[]/\Hn=[]/\H'=H/\a'=all/\r=d.er (lk H')/\r.rn (λ_=>ae)=ab r)
theorem Zym{g:yu}{args:yL TD}{ids:yL Nat}{Hin:yL ai}{az:yL Dv}{r4:TD}{Hn:yL ai}(honce:once ids=af)(p1:Xr H ids ids=ab Hin)(p2:aJ (aB H) ids ids=ab (aB Hin))
 (p3:Dv.bz (aT ids) (TD.ay (lk H) (args.map (TD.bR (lk H) ids)))=ab az) (hcon':cR P g az (aB Hin) (r4.er (lk Hn)) (aB Hn)) (h9:uQ all H K ids r4 Hn=ab out):
 ∃a d H' hs c,K a d H' hs c=ab out/\dh P g all args H a d H' hs c:=by
 unfold uQ at h9;split at h9
 .rename_i hem;rw[yi]at hem;have i1:ids=[]:=by simpa using hem.1
  have i2:Hn=[]:=by simpa using hem.2
  subst i1;subst i2;obtain⟨r',hr',h9⟩:=yf.1 h9;have f1:=gx (L:=lk []) (M:=lk H) (λid j t e=>by cases e) _ _ hr';have f2:=QU (f:=λ_=>ae) _ _ f1;have f3:r4.er (lk [])=r'.er (lk H):=yax (f2.symm.trans f1);have hin0:Hin=[]:=by cases p1;rfl
  subst hin0;refine⟨_,_,_,_,_,h9,rfl,rfl,[],[],[],[],az,r4.er (lk []),rfl,ym _,rfl,p3,hcon', ?_,rfl, ?_,rfl,.inr (.inr ⟨rfl,rfl,rfl,rfl,rfl,f3,f2⟩)⟩
  .rw[<-f3];exact QU _ _ f1
  .rw[RF]
 rename_i hne;obtain⟨r',hr',h9⟩:=yf.1 h9;obtain⟨Hb,hHb,h9⟩:=yf.1 h9;obtain⟨hk,h9⟩:=Za h9;simp only[yi,yP]at hk;obtain⟨⟨k1,k2⟩,k3⟩:=hk;obtain⟨b1,b2⟩:=ZCJ hHb;obtain⟨s1,s2⟩:=uN p1
 have hlt:∀i,i∈ids->i < H.length:=λi hi=>by
  obtain⟨j,hj⟩:=List.getElem?_of_mem hi;exact(s2 j i hj).1
 have hlo:Lo ids H.length (lk H) (lk (ar (H.map (ai.lay (lk H) ids)) ids Hb)):=by
  intro id t hn hl;unfold Z3 lk;dsimp only
  rw[Vi _ _ _ id (by rw[b1];exact k1) (by rw[yx];exact hl) (λhm=>by
   rw[List.contains_eq_any_beq]at hn;simp at hn;exact hn id hm rfl),yaj,ZMz]
 have hrc:Rc (aP ids H.length) (lk Hn) (lk (ar (H.map (ai.lay (lk H) ids)) ids Hb)):=by
  intro j i t e
  have key:lk (ar (H.map (ai.lay (lk H) ids)) ids Hb) i=lk Hn j:=by
   show dy ((ar (H.map (ai.lay (lk H) ids)) ids Hb)[i]?)=dy (Hn[j]?);rw[<-b2 j];unfold aP at e;split at e
   .rw[pY _ _ _ j i honce (by rw[b1];exact k1) (λi hi=>by rw[yx];exact hlt i hi) e]
   .rename_i hj;cases e;have:=tS (H.map (ai.lay (lk H) ids)) ids Hb j (by rw[b1];exact k1) (by omega);rw[yx]at this;rw[this]
  unfold Z3;rw[key]
 have e2:(ar (H.map (ai.lay (lk H) ids)) ids Hb).map (ai.er (lk (ar (H.map (ai.lay (lk H) ids)) ids Hb)))=ar (aB H) ids (Hb.map (ai.er (lk (ar (H.map (ai.lay (lk H) ids)) ids Hb)))):=by
  rw[ZrF,yaq];congr 1;refine ycl λe he=> ?_;exact ZMy hlo (ybc.1 k3 e he)
 have f1:=gx hrc _ _ hr';have f2:=ZGA hrc _ _ hHb;refine⟨_,_,_,_,_,h9,dL hlo all k2,ZCK all,ids,aB Hin,aB Hn,_,az,r4.er (lk Hn),honce,by rw[ZB];exact k1,p2,p3,hcon',f1,f2,e2,rfl,.inl ⟨rfl,λhh=>hne ?_⟩⟩;have i2:Hn=[]:=by have:=hh.2;unfold aB at this;simpa using this
 rw[i2,hh.1];rfl
theorem ZwU{args:yL TD}{s:Fs P}{ids:yL Nat}{x:Ty.aI s.ins}(ok:s.Ok)(hp:uP s H args ids=ab x)(h:FJ s all H K args ids x=ab out):
 ∃a d H' hs c,K a d H' hs c=ab out/\dh P s.g all args H a d H' hs c:=by
 unfold FJ at h;obtain⟨y,hM,h0⟩:=yf.1 h;obtain⟨e,vs,s',hsel,hfs,h9⟩:=rC h0;clear h0 h;obtain⟨honce,Hin,a2,a3,H3,R,p1,p2,p3,p4,p5,p6,p7⟩:=ZMA hp;obtain⟨args,R1,H4,q1,q2,hcon⟩:=ok x y hM;obtain⟨r4,hr4,hcon⟩:=hcon e vs s' hsel hfs;rw[hr4]at h9;dsimp only at h9;rw[p4]at q1;cases q1;rw[p5]at q2;cases q2;generalize s'.2=Hn at h9 hcon;exact Zym honce p1 p2 p3 (TZ hcon p6 p7) h9
theorem uV{Q:yL TD->TD->yL ai->yL al->Nat->Prop}{g:yu}{args:yL TD}{yS:yO O}(hQ:∀{a d H' hs c},dh P g all args H a d H' hs c->Q a d H' hs c)(ho:yS=ab out->∃a d H' hs c,K a d H' hs c=ab out/\Q a d H' hs c):∀{l:yL (Fs P)},cP l->oF g all H K args yS l=ab out->
 ∃a d H' hs c,K a d H' hs c=ab out/\Q a d H' hs c
 |[],_,h=>ho h
 |s::r,ok,h=>by
  unfold oF at h;split at h
  .rename_i hg;split at h
   .rename_i q hq;obtain⟨ids,h1,hq⟩:=yf.1 hq;obtain⟨x,h2,rfl⟩:=Zb hq;obtain⟨a,d,H',hs,c,k1,k2⟩:=ZwU ok.1 h2 h;exact⟨a,d,H',hs,c,k1,hQ (hg ▸ k2)⟩
   .exact uV hQ ho ok.2 h
  .exact uV hQ ho ok.2 h
theorem ZCO{sp:Sp P}{g:yu}{args:yL TD}(ok:dx sp)(h:uT sp g all H K args=ab out):∃a d H' hs c,K a d H' hs c=ab out/\dh P g all args H a d H' hs c:=by
 unfold uT at h;dsimp only at h;generalize lF H 100000 (TD.looks args) []=ids at h;obtain⟨ho,h⟩:=Za h;obtain⟨a2,h1,h⟩:=yf.1 h;obtain⟨Hin,h2,h⟩:=yf.1 h;obtain⟨r,Hn,h3,h4⟩:=ok.hd _ _ _ _ _ _ h;exact Zym ho h2 (Xa (Ve h2) h2) (cF (Ve h2) _ _ h1) h4 h3
theorem FN{Q:yL TD->TD->yL ai->yL al->Nat->Prop}{g:yu}{args:yL TD}{yS:yO O}(hQ:∀{a d H' hs c},dh P g all args H a d H' hs c->Q a d H' hs c)(ho:yS=ab out->∃a d H' hs c,K a d H' hs c=ab out/\Q a d H' hs c):∀{l:yL (Rs P)},gN l->rF g all H K args yS l=ab out->
 ∃a d H' hs c,K a d H' hs c=ab out/\Q a d H' hs c
 |[],_,h=>ho h
 |s::r,ok,h=>by
  unfold rF at h;split at h
  .rename_i hg;obtain⟨ids,_,h⟩:=yf.1 h;obtain⟨Hin,h2,h⟩:=yf.1 h;obtain⟨hk,h⟩:=Za h;simp only[yi,Bool.not_eq_true',List.isEmpty_eq_false_iff]at hk;obtain⟨⟨k1,k2⟩,k3⟩:=hk;obtain⟨a2,h3,h⟩:=yf.1 h;obtain⟨q,h4,h⟩:=yf.1 h;obtain⟨⟨w1,w2⟩,h5,h⟩:=yf.1 h;obtain⟨x,h6,h⟩:=yf.1 h;obtain⟨y,h7,h⟩:=yf.1 h;obtain⟨z,h8,h⟩:=yf.1 h;obtain⟨r',h9,h⟩:=yf.1 h;have hw:w1=Hin:=ZCL k3 h5;subst hw;obtain⟨az,R,H3,q1,q2,hcon⟩:=ok.1 x y h7;have e:=jb _ _ _ h6;rw[e,bH _ _ _ h4 _]at q1;cases q1;have q3:=QY h5 [];rw[ybg]at q3;rw[q3]at q2;cases q2;have hcon:=hcon z h8;have p2:=Xa (Ve h2) h2;have p3:=cF (Ve h2) _ _ h3;have hcon:=TZ hcon (cE (λ_ _=>rfl) _ _ _ h4) (ct.refl _);have f1:=gx (f:=λ_=>ae) (L:=lk w1) (M:=lk H) (λid j t e=>by cases e) _ _ h9;have f2:=QU (f:=λ_=>ae) _ _ f1;have f3:z.1.er (lk w1)=r'.er (lk H):=yax (f2.symm.trans f1);obtain⟨Hb,b1,b2⟩:=ZJ1 k1 p2;have zW:=(uN h2).1;refine⟨_,_,_,_,_,h,hQ ⟨rfl,rfl,ids,aB w1,aB w1,Hb,TD.ay (lk w1) a2,z.1.er (lk w1),k1,by rw[ZB];omega,p2,p3,hg ▸ hcon, ?_,by rw[<-ZB H];exact b1,b2.symm,rfl,.inr (.inl ⟨rfl,rfl,λhh=>k2 hh.1⟩)⟩⟩;rw[<-f3];exact QU _ _ f1
  .exact FN hQ ho ok.2 h
theorem ZJ3{sp:Sp P}{g:yu}{args:yL TD}(ok:dx sp)(h:ZNW sp g all H K args=ab out):∃a d H' hs c,K a d H' hs c=ab out/\dh P g all args H a d H' hs c:=
 FN (λh=>h) (λh=>uV (λh=>h) (λh=>ZCO ok h) ok.l h) ok.ro h
structure jd(P:yg)(g:yu)(all args:List TD)(H:List ai)(a':List TD)(d:TD)(H':List ai)(hs:List al)(bF:Nat):Prop where
 zU:a'=all
 hH:H'=H
 kI:bF=1
 op:∃(id:Nat)(ps:List Pl)(p:Pl),Dv.eU (TD.ay (lk H) (args.map (TD.bR (lk H) [])))=ab id/\d.er (lk H)=.p p/\p.flat=af/\hs=[.el (.agg ps),.call (.p p) [] []]/\jZ id (cL ((aB H)[id]?)) (TD.ay (lk H) (args.map (TD.bR (lk H) []))) ps/\cR P g (ps.map Dv.p) [] (.p p) []
theorem ZGC{h:yL ai}:∀{ps:yL Sh}{ds:yL TD}{q:yL TV×yL Pl},eL h ps ds=ab q->∃es,Sh.fills ps q.1=ab (es,[])/\(∀L,TD.ay L es=q.2.map Dv.p)/\ds.length=q.2.length/\
 ∀(i:Nat)(d:Dv)(y:Pl),(TD.ay (lk h) ds)[i]? =ab d->q.2[i]? =ab y->bC (aB h) d y
 |[],[],q,k=>by cases k;exact⟨[],rfl,λ_=>rfl,rfl,λi d y k=>by simp[TD.ay]at k⟩
 |.v t::r,d::ds,q,k=>by
  unfold eL at k;obtain⟨y,h1,k⟩:=yf.1 k;obtain⟨w,h2,rfl⟩:=Zb k;obtain⟨es,f1,f2,f3,f4⟩:=ZGC h2;refine⟨.p (.v t y)::es, ?_,λL=> ?_,by simp[f3],λi d' z k1 k2=> ?_⟩
  .have e1:Sh.fill (.v t) (⟨t,y⟩::w.1)=ab (.p (.v t y),w.1):=congrArg (Option.map λz:t.aN=>(TD.p (.v t z),w.1)) (Yo t y);simp only[Sh.fills,e1,ya,f1,yab]
  .rw[TD.ay,f2];rfl
  .cases i with
   |zero=>cases k1;cases k2;exact uL _ _ _ _ h1
   |succ i=>exact f4 i d' z k1 k2
 |[],_::_,_,k=>by simp[eL]at k
 |.v _::_,[],_,k=>by simp[eL]at k
 |.elem _::_,_,_,k=>by simp[eL]at k
 |.nil _::_,_,_,k=>by simp[eL]at k
 |.sl _ _::_,_,_,k=>by simp[eL]at k
 |.own _ _::_,_,_,k=>by simp[eL]at k
 |.ak _ _::_,_,_,k=>by simp[eL]at k
 |.mp _::_,_,_,k=>by simp[eL]at k
 |.rw _::_,_,_,k=>by simp[eL]at k
 |.rp _ _ _::_,_,_,k=>by simp[eL]at k
 |.view _ _ _ _ _::_,_,_,k=>by simp[eL]at k
 |.rv _ _ _ _ _::_,_,_,k=>by simp[eL]at k
 |.fn _ _::_,_,_,k=>by simp[eL]at k
 |.agg _::_,_,_,k=>by simp[eL]at k
 |.arr _ _ _::_,_,_,k=>by simp[eL]at k
 |.bj _::_,_,_,k=>by simp[eL]at k
 |.iface _ _::_,_,_,k=>by simp[eL]at k
 |.bf::_,_,_,k=>by simp[eL]at k
 |.fn0::_,_,_,k=>by simp[eL]at k
 |.dN::_,_,_,k=>by simp[eL]at k
 |.ci::_,_,_,k=>by simp[eL]at k
 |.ao::_,_,_,k=>by simp[eL]at k
theorem Zyn{J:Sg}(ok:Ok J):∀{ds:yL Dv}{ps:yL Pl}{vs:yL Value},ds.length=ps.length->(∀(i:Nat)(d:Dv)(y:Pl),ds[i]? =ab d->ps[i]? =ab y->bC J.H d y)->aE J ds vs->aE (gZ J) (ps.map Dv.p) vs
 |[],[],vs,_,_,h=>by simpa[aE] using h
 |[],_::_,_,hl,_,_=>by simp at hl
 |_::_,[],_,hl,_,_=>by simp at hl
 |d::ds,y::ps,vs,hl,hk,h=>by
  simp only[aE]at h;obtain⟨v,vs',rfl,h2,h3⟩:=h;have h4:=UG ok (hk 0 d y rfl rfl) (v:=v) h2
  have mono:∀(b o:Nat)(v:Value),J.w.cell? ⟨b,o,ae⟩=ab v->J.aV b o->(gZ J).w.cell? ⟨b,o,ae⟩=ab v/\(gZ J).aV b o:=λb o v h _=>⟨h,by
   rcases ybr b J.w.heap.size with q|q
   .exact .inl q
   .exact .inr q,λid e q=>by simp[gZ]at q⟩
  rw[yad];simp only[aE];refine⟨v,vs',rfl,⟨λq=> ?_,λq=> ?_⟩,Zyn ok (by simpa using hl) (λi d y h5 h6=>hk (i+1) d y (by simpa using h5) (by simpa using h6)) h3⟩
  .obtain⟨cs,e1,e2⟩:=h4.1 q;refine⟨cs,e1, ?_⟩;simp only[yH]at e2 ⊢;exact Vh mono y _ e2
  .have:=h4.2 q;simp only[yH]at this ⊢;exact Vh mono y _ this
theorem FO{g:yu}{args:yL TD}{yS:yO O}{Q:yL TD->TD->yL ai->yL al->Nat->Prop}(hQ:∀{a d H' hs c},jd P g all args H a d H' hs c->Q a d H' hs c)(ho:yS=ab out->∃a d H' hs c,K a d H' hs c=ab out/\Q a d H' hs c):∀{l:yL (Fs P)},cP l->rG g all H K args yS l=ab out->
 ∃a d H' hs c,K a d H' hs c=ab out/\Q a d H' hs c
 |[],_,h=>ho h
 |s::r,ok,h=>by
  unfold rG at h;split at h
  .rename_i hg;obtain⟨hg,hes⟩:=hg;split at h
   .rename_i q hq;obtain⟨id,hid,hq⟩:=yf.1 hq;obtain⟨x,h6,h⟩:=yf.1 h;obtain⟨y,h7,h⟩:=yf.1 h;obtain⟨e,vs,s',hsel,hfs,h9⟩:=rC h;split at h9
    .rename_i rr hr1 hr2;obtain⟨p,hp,h9⟩:=yf.1 h9;obtain⟨az,R,H3,q1,q2,hcon⟩:=ok.1 x y h7;obtain⟨r4,hr4,hcon⟩:=hcon e vs s' hsel hfs;rw[hr1]at hr4;cases hr4;obtain⟨es,f1,f2,f3,f4⟩:=ZGC hq;rw[jb _ _ _ h6,f1]at q1;cases q1;have hes':s.es=[]:=by simpa using hes
     rw[hes']at q2
     have:H3=[]:=by
      simp only[bi.fills,yj,Prod.mk.injEq]at q2;exact q2.1.symm
     subst this;rw[hr2,f2]at hcon;obtain⟨hrr,hfl⟩:=ZuI (L:=lk s'.2) hp;obtain⟨hrr2,_⟩:=ZuI (L:=lk H) hp;rw[hr2]at hrr;rw[hrr]at hcon;refine⟨_,_,_,_,_,h9,hQ ⟨rfl,rfl,rfl,id,q.2,p,hid,hrr2,hfl,rfl, ?_,hg ▸ hcon⟩⟩;intro J vs okJ hH hv;obtain⟨H2,hw,hdeep⟩:=ZH0 okJ hH;obtain⟨to,ok'⟩:=jA (H':=H2) okJ hw;have zW:(TD.ay (lk H) (args.map (TD.bR (lk H) []))).length=q.2.length:=by rw[iP];exact f3
     have hv':aE { J with H:=H2} (TD.ay (lk H) (args.map (TD.bR (lk H) []))) vs:=cw to.leaf _ _ hv;have hlk:lk (mZ id H)=lk H:=ZCI _ _;exact Zyn (J:={ J with H:=H2}) ok' zW (λi d y k1 k2=>hdeep _ _ (f4 i d y (by rw[hlk];exact k1) k2)) hv'
    .cases h9
   .exact FO hQ ho ok.2 h
  .exact FO hQ ho ok.2 h
theorem ZJ4{sp:Sp P}{g:yu}{args:yL TD}(ok:dx sp)(h:ZNX sp g all H K args=ab out):∃a d H' hs c,K a d H' hs c=ab out/\(dh P g all args H a d H' hs c\/jd P g all args H a d H' hs c):=
 FN .inl (λh=>uV .inl (λh=>FO .inr (λh=>by
  obtain⟨a,d,H',hs,c,k1,k2⟩:=ZCO ok h;exact⟨a,d,H',hs,c,k1,.inl k2⟩) ok.l h) ok.l h) ok.ro h
theorem ZH1{c:Call}{f:yn}{g:yu}{cap az:yL TD}{a:yL TD}{d:TD}{H':yL ai}{hs:yL al}{bF:Nat}(ho:o.op=.call c)(hc:c.callee=.value f)(hf:aW P ts 0 f=ab (.fn g cap))
 (hb:(Qt P (eA g)&&c.args.size==c.argTypes.size)=af) (ha:lE P ts c.args.toList c.argTypes.toList=ab az) (h:dh P (eA g) all (if g < big then az++cap else cap++az) H a d H' hs bF):Good P o ts all H a d H' hs bF:=by
 have hfv:=Zq (L:=lk H) hf;obtain⟨ids,Hin,Hn,Hb,az',r,honce,hle,p2,p3,hcon,f1,f2,e2,rfl,hcl⟩:=h.op
 have ea:ZU P ids (TD.ay (lk H) ts) c g (TD.ay (lk H) cap)=TD.ay (lk H) ((if g < big then az++cap else cap++az).map (TD.bR (lk H) ids)):=by
  unfold ZU;split
  .rw[oE ids ha,uO,yal,Zz,Zz,Zz,yal]
  .rw[oE ids ha,uO,yal,Zz,Zz,Zz,yal]
 have ge:¬(ids=[]/\Hn=[])->iV P o ts H d H' [.call r Hn ids]:=λhne=>by
  refine⟨λyK=> ?_,λyK=> ?_,[cR P (eA g) az' Hin r Hn],⟨hcon,au⟩,λyK=> ?_⟩
  .unfold aX;rw[ho];dsimp only;rw[hc];dsimp only;rw[hfv];dsimp only[TD.er];rw[yaa,yv];split
   .rename_i e1 e2;exfalso;simp only[List.cons.injEq,al.call.injEq]at e2;exact hne ⟨e2.1.2.2,e2.1.2.1⟩
   .rename_i e2;cases e2
   .rfl
  .unfold bD;rw[ho];dsimp only;rw[hc];dsimp only;rw[hfv];rfl
  .unfold cu;rw[ho];dsimp only;rw[hc];dsimp only;rw[hfv];dsimp only[TD.er];rw[yaa,yv];dsimp only;rw[yW (by simp only[yi,yP]at hb ⊢;exact⟨⟨hb,honce⟩,hle⟩)];rw[ea,p3,p2,ZB,f1,f2];dsimp only;rw[e2]
 rcases hcl with⟨rfl,hne⟩|⟨rfl,hsm,hne⟩|⟨rfl,rfl,rfl,rfl,rfl,rfl,hrn⟩
 .exact⟨h.same,h.len,dt ⟨rfl,ge hne⟩⟩
 .exact⟨h.same,h.len,.inr (.inr (.inr ⟨rfl,hsm,ge hne⟩))⟩
 .refine⟨h.same,h.len,.inl ⟨rfl,rfl,[cR P (eA g) az' [] (d.er (lk H')) []],⟨?_,au⟩,λyK=> ?_⟩⟩
  .cases p2;exact hcon
  .unfold aX;rw[ho];dsimp only;rw[hc];dsimp only;rw[hfv];dsimp only[TD.er];rw[yaa,yv];dsimp only;rw[yW hb,ea, <-pZ,p3,pZ,hrn]
theorem ZJ5{c:Call}{f:yn}{g:yu}{cap az:yL TD}{a:yL TD}{d:TD}{H':yL ai}{hs:yL al}{bF:Nat}(ho:o.op=.call c)(hc:c.callee=.value f)(hf:aW P ts 0 f=ab (.fn g cap))
 (hb:(Qt P (eA g)&&c.args.size==c.argTypes.size)=af) (ha:lE P ts c.args.toList c.argTypes.toList=ab az) (h:jd P (eA g) all (if g < big then az++cap else cap++az) H a d H' hs bF):Good P o ts all H a d H' hs bF:=by
 have hfv:=Zq (L:=lk H) hf;obtain⟨rfl,rfl,rfl,id,ps,p,hid,e1,e2,rfl,hl,hcon⟩:=h
 have ea:ZU P [] (TD.ay (lk H') ts) c g (TD.ay (lk H') cap)=TD.ay (lk H') ((if g < big then az++cap else cap++az).map (TD.bR (lk H') [])):=by
  unfold ZU;split
  .rw[oE [] ha,uO,yal,Zz,Zz,Zz,yal]
  .rw[oE [] ha,uO,yal,Zz,Zz,Zz,yal]
 refine⟨rfl,rfl,.inr (.inl ⟨rfl,rfl,λyK=> ?_,[jZ id (cL ((aB H')[id]?)) (ZU P [] (TD.ay (lk H') ts) c g (TD.ay (lk H') cap)) ps,cR P (eA g) (ps.map Dv.p) [] (.p p) []],⟨by rw[ea];exact hl,hcon,au⟩,λyK=> ?_⟩)⟩
 .unfold aX;rw[ho];dsimp only;rw[hc];dsimp only;rw[hfv];rfl
 .unfold bD;rw[ho];dsimp only;rw[hc];dsimp only;rw[hfv];dsimp only[TD.er];rw[yaa,yaa,yv];dsimp only;rw[show Dv.eU (ZU P [] (TD.ay (lk H') ts) c g (TD.ay (lk H') cap))=ab id by rw[ea];exact hid];dsimp only;rw[yW (by simp only[yi]at hb ⊢;exact⟨hb,e2⟩),e1]
theorem ZH2{c:Call}{recv:yn}{name:String}{t:yc}{x:TD}{g:yu}{az:yL TD}{a:yL TD}{d:TD}{H':yL ai}{hs:yL al}{bF:Nat}(ho:o.op=.call c)(hc:c.callee=.invoke recv name)(hf:aW P ts 0 recv=ab (.iface t x))
 (hm:nI P t name g) (hb:(Qt P g&&c.args.size==c.argTypes.size)=af) (ha:lE P ts c.args.toList c.argTypes.toList=ab az) (h:dh P g all (x::az) H a d H' hs bF):Good P o ts all H a d H' (.gV g::hs) 2:=by
 have hfv:=Zq (L:=lk H) hf;obtain⟨ids,Hin,Hn,Hb,az',r,honce,hle,p2,p3,hcon,f1,f2,e2,rfl,hcl⟩:=h.op
 have ea:(x.er (lk H)).bR ids::ZU P ids (TD.ay (lk H) ts) c 0 []=TD.ay (lk H) ((x::az).map (TD.bR (lk H) ids)):=by
  unfold ZU;rw[yW (by decide),oE ids ha,List.map_nil,ybg,yad,TD.ay,FG]
 refine⟨h.same,h.len,dt (⟨rfl,λyK=> ?_,λyK=> ?_,[nI P t name g,cR P g az' Hin r Hn],⟨hm,hcon,au⟩,λyK=> ?_⟩)⟩
 .unfold aX;rw[ho];dsimp only;rw[hc]
 .unfold bD;rw[ho];dsimp only;rw[hc]
 .unfold cu;rw[ho];dsimp only;rw[hc];dsimp only;rw[hfv];dsimp only[TD.er];rw[yaa,yaa,yv];dsimp only;rw[yW (by simp only[yi,yP]at hb ⊢;exact⟨⟨hb,honce⟩,hle⟩)];rw[ea,p3,p2,ZB,f1,f2];dsimp only;rw[e2]
end
end Go.Ev
end
