/- Parts of the proof, in one file. -/
import Derived.Test.YtekdgjajmennjaaGreatKc
open Option renaming some → ab, none → ae
open Bool renaming true → af, false → ag
open Decidable renaming decide → ah
open Bool renaming and_eq_true → yi, false_eq_true → yce, or_eq_true → yct
open Go renaming TypeId → yc, Program → yg, Operand → ym, FuncId → yq
open List renaming length_append → yl, getElem?_eq_some_iff → yo, range → yu, replicate → yw, nil_append → yy, length_map → yab, getElem?_eq_getElem → yac, append_assoc → yad, cons_append → yae, map_cons → yag, take_length → yai, getElem?_map → yak, length_cons → yam, map_append → yao, append_nil → yar, map_map → ybf, getElem?_eq_none → ybl, getElem?_cons_zero → ybm, map_set → ybp, all_eq_true → ybx, getElem?_set_self → ycj, map_take → yck, map_congr_left → ycn, length_replicate → ycs
open Nat renaming le_refl → yj, lt_or_ge → ych
open Option renaming bind_some → ya, bind_eq_some_iff → yf, map_eq_some_iff → yn, map_some → yaa
open Option.some renaming injEq → yp, inj → yaw
set_option linter.unusedVariables false
set_option linter.unusedSimpArgs false
section
namespace Go.Ev
mutual
theorem so{L M:Lk}(h:∀id t,Yg L id t ae=Yg M id t ae):∀(d:TD),d.er L=d.er M
 |.p _=>rfl
 |.elem _=>rfl
 |.am _ _=>rfl
 |.own id nn t c=>by
  cases c with
  |none=>rw[TD.er,TD.er,h]
  |some _=>rfl
 |.view _ _ _ _ _=>rfl
 |.agg xs=>by rw[TD.er,TD.er,bZ h xs]
 |.arr _ _ xs=>by rw[TD.er,TD.er,bZ h xs]
 |.fn _ xs=>by rw[TD.er,TD.er,bZ h xs]
 |.iface _ x=>by rw[TD.er,TD.er,so h x]
 |.bi xs=>by rw[TD.er,TD.er,bZ h xs]
 |.mp _=>rfl
 |.rv _ _ _ _ _=>rfl
 |.aZ _ _ _=>rfl
 |.rw _=>by simp only[TD.er,dU,h]
 |.rp _ _=>by simp only[TD.er,dU,h]
 |.aA=>rfl
theorem bZ{L M:Lk}(h:∀id t,Yg L id t ae=Yg M id t ae):∀(ds:yL TD),TD.aE L ds=TD.aE M ds
 |[]=>rfl
 |x::r=>by rw[TD.aE,TD.aE,so h x,bZ h r]
end
theorem ZNr{L M:Lk}(h:∀id t,Yg L id t ae=Yg M id t ae)(e:ak):e.er L=e.er M:=by
 cases e with
 |var d st=>rw[ak.er,ak.er,so h]
 |row v s st e d=>rw[ak.er,ak.er,so h]
 |bR t np v st e pre mid post=>rw[ak.er,ak.er,so h]
 |_=>rfl
mutual
def TD.free(n:Nat):TD->Bool
 |.own id _ _ c=>c.isSome || id !=n
 |.rw id=>id !=n
 |.rp id _=>id !=n
 |.agg xs=>TD.frees n xs
 |.arr _ _ xs=>TD.frees n xs
 |.fn _ xs=>TD.frees n xs
 |.iface _ x=>TD.free n x
 |.bi xs=>TD.frees n xs
 |_=>af
def TD.frees(n:Nat):yL TD->Bool
 |[]=>af
 |x::r=>TD.free n x&&TD.frees n r
end
def ak.free(n:Nat):ak->Bool
 |.var d _=>d.free n
 |.row _ _ _ _ d=>d.free n
 |.bR _ _ _ _ _ _ d _=>d.free n
 |_=>af
mutual
theorem la{L M:Lk}{n:Nat}(h:∀id t,id≠n->Yg L id t ae=Yg M id t ae):∀(d:TD),d.free n=af->d.er L=d.er M
 |.p _,_=>rfl
 |.elem _,_=>rfl
 |.am _ _,_=>rfl
 |.own id nn t c,hf=>by
  cases c with
  |none=>
   have:id≠n:=by simpa[TD.free] using hf
   rw[TD.er,TD.er,h id t this]
  |some _=>rfl
 |.view _ _ _ _ _,_=>rfl
 |.agg xs,hf=>by rw[TD.er,TD.er,cA h xs hf]
 |.arr _ _ xs,hf=>by rw[TD.er,TD.er,cA h xs hf]
 |.fn _ xs,hf=>by rw[TD.er,TD.er,cA h xs hf]
 |.iface _ x,hf=>by rw[TD.er,TD.er,la h x hf]
 |.bi xs,hf=>by rw[TD.er,TD.er,cA h xs hf]
 |.mp _,_=>rfl
 |.rv _ _ _ _ _,_=>rfl
 |.aZ _ _ _,_=>rfl
 |.rw id,hf=>by
  have:id≠n:=by simpa[TD.free] using hf
  simp only[TD.er,dU,h id _ this]
 |.rp id _,hf=>by
  have:id≠n:=by simpa[TD.free] using hf
  simp only[TD.er,dU,h id _ this]
 |.aA,_=>rfl
theorem cA{L M:Lk}{n:Nat}(h:∀id t,id≠n->Yg L id t ae=Yg M id t ae):∀(ds:yL TD),TD.frees n ds=af->TD.aE L ds=TD.aE M ds
 |[],_=>rfl
 |x::r,hf=>by
  simp only[TD.frees,yi]at hf;rw[TD.aE,TD.aE,la h x hf.1,cA h r hf.2]
end
mutual
def TD.stale(L:Lk)(n:Nat):TD->TD
 |.own id nn t c=>if id=n then .own id nn t (ab (Yg L id t c)) else .own id nn t c
 |.agg xs=>.agg (TD.cl L n xs)
 |.arr m s xs=>.arr m s (TD.cl L n xs)
 |.fn f xs=>.fn f (TD.cl L n xs)
 |.iface t x=>.iface t (TD.stale L n x)
 |.bi xs=>.bi (TD.cl L n xs)
 |.p x=>.p x
 |.elem x=>.elem x
 |.am id yM=>.am id yM
 |.view id yM s lo n=>.view id yM s lo n
 |.mp id=>.mp id
 |.rv id v s lo n=>.rv id v s lo n
 |.aZ id v yM=>.aZ id v yM
 |.rw id=>if id=n then .rv id (dU L id 0) (dU L id 1) 0 (dU L id 2) else .rw id
 |.rp id yM=>if id=n then .aZ id (dU L id 0) yM else .rp id yM
 |.aA=>.aA
def TD.cl(L:Lk)(n:Nat):yL TD->yL TD
 |[]=>[]
 |x::r=>TD.stale L n x::TD.cl L n r
end
def ak.stale(L:Lk)(n:Nat):ak->ak
 |.var d st=>.var (d.stale L n) st
 |.row v s st e d=>.row v s st e (d.stale L n)
 |.bR t np v st e pre d post=>.bR t np v st e pre (d.stale L n) post
 |e=>e
mutual
theorem sq{L M:Lk}{n:Nat}(h:∀id t,id≠n->Yg L id t ae=Yg M id t ae):∀(d:TD),(d.stale L n).er M=d.er L
 |.p _=>rfl
 |.elem _=>rfl
 |.am _ _=>rfl
 |.own id nn t c=>by
  rw[TD.stale];split
  .rfl
  .rename_i hn
   cases c with
   |none=>rw[TD.er,TD.er,h id t hn]
   |some _=>rfl
 |.view _ _ _ _ _=>rfl
 |.agg xs=>by rw[TD.stale,TD.er,TD.er,bT h xs]
 |.arr _ _ xs=>by rw[TD.stale,TD.er,TD.er,bT h xs]
 |.fn _ xs=>by rw[TD.stale,TD.er,TD.er,bT h xs]
 |.iface _ x=>by rw[TD.stale,TD.er,TD.er,sq h x]
 |.bi xs=>by rw[TD.stale,TD.er,TD.er,bT h xs]
 |.mp _=>rfl
 |.rv _ _ _ _ _=>rfl
 |.aZ _ _ _=>rfl
 |.rw id=>by
  rw[TD.stale];split
  .rfl
  .rename_i hn
   simp only[TD.er,dU,h id _ hn]
 |.rp id _=>by
  rw[TD.stale];split
  .rfl
  .rename_i hn
   simp only[TD.er,dU,h id _ hn]
 |.aA=>rfl
theorem bT{L M:Lk}{n:Nat}(h:∀id t,id≠n->Yg L id t ae=Yg M id t ae):∀(ds:yL TD),TD.aE M (TD.cl L n ds)=TD.aE L ds
 |[]=>rfl
 |x::r=>by rw[TD.cl,TD.aE,TD.aE,sq h x,bT h r]
end
theorem wn{L M:Lk}{n:Nat}(h:∀id t,id≠n->Yg L id t ae=Yg M id t ae)(e:ak):(e.stale L n).er M=e.er L:=by
 cases e with
 |var d st=>rw[ak.stale,ak.er,ak.er,sq h]
 |row v s st e d=>rw[ak.stale,ak.er,ak.er,sq h]
 |bR t np v st e pre d post=>rw[ak.stale,ak.er,ak.er,sq h]
 |_=>rfl
def ak.eY:ak->Bool
 |.log _ _ _=>af
 |.aW _ _ _ _ _=>af
 |.aY _ _ _ _ _ _ _=>af
 |.bR _ _ _ _ _ _ _ _=>af
 |_=>ag
theorem HM{e:ak}(h:e.eY=ag):dt (ab e)=ae:=by
 cases e <;> first|rfl|cases h
theorem nU{H:yL ak}{e:ak}(h:e.eY=ag):lk (H++[e])=lk H:=by
 funext id;unfold lk;rcases Nat.lt_trichotomy id H.length with hl|hl|hl
 .grind
 .subst hl;rw[List.getElem?_concat_length,HM h,ybl (yj _)];rfl
 grind
theorem gE{H:yL ak}{id:Nat}{e x:ak}(hx:H[id]? =ab x)(h1:x.eY=ag)(h2:e.eY=ag):lk (H.set id e)=lk H:=by
 funext j;unfold lk;by_cases hj:id=j
 .subst hj;rw[an hx,hx,HM h1,HM h2]
 grind
theorem pj{H:yL ak}{e:ak}(h:lk (H++[e])=lk H):aG (H++[e])=aG H++[e.er (lk H)]:=by
 unfold aG;grind
theorem Ql{H:yL ak}{id:Nat}{e:ak}(h:lk (H.set id e)=lk H):aG (H.set id e)=(aG H).set id (e.er (lk H)):=by
 unfold aG;simp_all
theorem wo{H:yL ak}{T:Ty}{e:yc}(id:Nat)(t:Ty):Yg (lk H) id t ae=Yg (lk (H++[.log T e []])) id t ae:=by
 unfold Yg lk;dsimp only;rcases Nat.lt_trichotomy id H.length with hl|hl|hl
 .grind
 .subst hl;rw[List.getElem?_concat_length,ybl (yj _)];show[]=(Ty.bn T t []).getD []
  cases h:Ty.bn T t [] with
  |none=>rfl
  |some y=>
   obtain⟨e,h2⟩:=ZI h;subst e;subst h2;rfl
 grind
theorem HN{H:yL ak}{T:Ty}{e:yc}:aG (H++[.log T e []])=aG H++[.log T.size e []]:=by
 unfold aG;rw[yao];congr 1;exact ycn λx _=>(ZNr (λid t=>wo id t) x).symm
theorem mh{H:yL ak}{e:ak}(id:Nat)(t:Ty)(h:id≠H.length):Yg (lk H) id t ae=Yg (lk (H++[e])) id t ae:=by
 unfold Yg lk
 all_goals grind
theorem ZJ1{H:yL ak}{T:Ty}{e:yc}{l:yL T.aQ}(h:H.all (ak.free H.length)=af):aG (H++[.log T e l])=aG H++[.log T.size e (l.map T.enc)]:=by
 unfold aG;rw[yao];congr 1;refine ycn λx hx=> ?_
 cases x with
 |var d st=>
  rw[ak.er,ak.er];congr 1
  exact(la (λid t hn=>mh id t hn) d (ybx.1 h _ hx)).symm
 |row v s st e d=>
  rw[ak.er,ak.er];congr 1
  exact(la (λid t hn=>mh id t hn) d (ybx.1 h _ hx)).symm
 |bR t np v st e pre d post=>
  rw[ak.er,ak.er,la (λid t hn=>mh id t hn) d (ybx.1 h _ hx)]
 |_=>rfl
theorem mq{H:yL ak}{n:Nat}{e:ak}(L:Lk)(id:Nat)(t:Ty)(h:id≠n):Yg (lk H) id t ae=Yg (lk ((H.map (ak.stale L n)).set n e)) id t ae:=by
 have h1:lk ((H.map (ak.stale L n)).set n e) id=lk H id:=by
  unfold lk;rw[ck (Ne.symm h),yak]
  cases H[id]? with
  |none=>rfl
  |some x=>cases x <;> rfl
 unfold Yg;rw[h1]
theorem ZNs{H:yL ak}{n:Nat}{T:Ty}{e:yc}{l:yL T.aQ}:aG ((H.map (ak.stale (lk H) n)).set n (.log T e l))=(aG H).set n (.log T.size e (l.map T.enc)):=by
 unfold aG;rw[ybp,ybf];congr 1;refine ycn λx hx=> ?_;exact wn (λid t hn=>mq (lk H) id t hn) x
def TP.isV:TP->yO (Σ t:Ty,t.aQ)
 |.v t x=>ab ⟨t,x⟩
 |_=>ae
def TP.nV:TP->Nat->TP->yO TP
 |.v (.st fs) x,i,z=>match z.isV with
  |some q=>(Ty.upd fs x i q.1 q.2).map (.v (.st fs))
  |none=>ab (.agg ((Ty.gD fs x).set i z))
 |.agg l,i,z=>ab (.agg (l.set i z))
 |_,_,_=>ae
theorem ZQd{x y z:TP}{i:Nat}(h:x.nV i z=ab y):∀xs,x.pe=.agg xs->y.pe=.agg (xs.set i z.pe):=by
 cases x with
 |v u a=>
  cases u with
  |st fs=>
   intro xs hx;have hx':Pl.agg (Ty.encs fs a)=.agg xs:=hx;injection hx' with hx';subst hx';simp only[TP.nV]at h;split at h
   .rename_i q hq;obtain⟨x',h1,rfl⟩:=Zd h
    have hz:z=.v q.1 q.2:=by
     unfold TP.isV at hq
     all_goals grind
    show Pl.agg (Ty.encs fs x')=_;rw[ZJP fs a i q.1 q.2 x' h1,hz];rfl
   .cases h;show Pl.agg (TP.cO ((Ty.gD fs a).set i z))=_;rw[jr,ybp, <-jr]
    exact congrArg (λl=>Pl.agg (l.set i z.pe)) (FF fs a)
  |_=>cases h
 |agg l=>
  intro xs hx;cases h;rw[TP.pe]at hx;injection hx with hx;subst hx
  rw[TP.pe,jr,jr,ybp]
 |_=>cases h
def ZTY(x:Pl)(i o:Nat):Bool:=
 match x with
 |.agg xs=>o==Pl.sizes (xs.take i)
 |_=>ag
def ZRE(x:TP)(i:Nat):TD->yO TD
 |.p y=>(x.nV i y).map .p
 |d=>x.parts.map λl=>.agg ((l.map .p).set i d)
def HO(a:nS)(i:Nat):TD->yO TD
 |.p z=>(TP.to kW z a.t).map λy'=>.p (.v (.arr a.n a.t) (a.l.set i y'))
 |d=>ab (.arr a.n a.t.size ((a.l.map λy=>TD.p (.v a.t y)).set i d))
theorem HP{L:Lk}(l:yL TP):TD.aE L (l.map .p)=(TP.cO l).map .p:=by
 rw[ZH,jr,ybf,ybf];rfl
def ZRF(n s:Nat)(xs:yL TP)(i:Nat):TD->yO TD
 |.p _=>ae
 |d=>ab (.arr n s ((xs.map .p).set i d))
abbrev Kg(O:Type):=TD->yL ar->(TD->yO TD)->yO O
def eZ{O:Type}(L:Lk):yL bX->TD->Kg O->yO O
 |[],d,K=>K d [] ab
 |.fZ i o::r,.p x,K=>(x.fZ i).bind λz=>if ZTY x.pe i o=af then eZ L r (.p z) λsub hs put=>K sub hs λnew=>(put new).bind λd=>ZRE x i d else ae
 |.ix i s::r,.p (.arr n s' xs),K=>(xs[i]?).bind λz=>if s=s' then eZ L r (.p z) λsub hs put=>K sub (.el z.pe::hs) λnew=>(put new).bind λd=>ZRF n s' xs i d else ae
 |.ix i s::r,.p x,K=>x.dy.bind λa=>if s=a.t.size then(a.l[i]?).bind λy=>eZ L r (.p (.v a.t y)) λsub hs put=>K sub (.el (a.t.enc y)::hs) λnew=>
   (put new).bind λd=>HO a i d else ae
 |.fZ i o::r,.agg ds,K=>(ds[i]?).bind λz=>if o=Dv.sizes ((TD.aE L ds).take i) then eZ L r z λsub hs put=>K sub hs λnew=>(put new).map λy=>.agg (ds.set i y) else ae
 |.ix i s::r,.arr n s' ds,K=>(ds[i]?).bind λz=>if s=s' then eZ L r z λsub hs put=>K sub hs λnew=>(put new).map λy=>.arr n s' (ds.set i y) else ae
 |_,_,_=>ae
def eI:yL bX->Nat
 |[]=>0
 |q::r=>q.o+eI r
theorem VN(l:yL bX):Qj l=eI l:=by
 have:∀(l:yL bX)(n:Nat),l.foldl (λn q=>n+q.o) n=n+eI l:=by
  intro l
  induction l with
  |nil=>intro n;rfl
  |cons q r ih=>intro n;rw[List.foldl_cons,ih,eI];omega
 rw[Qj,this];omega
theorem WZ{O:Type}{L:Lk}:∀(yM:yL bX)(d:TD)(K:Kg O)(out:O),eZ L yM d K=ab out->
 ∃sub hs put C,K sub hs put=ab out/\ba C/\(∀yJ,Yy (d.er L) (yM.map bX.i) (hs++yJ)=ab (C,eI yM,sub.er L,yJ))/\
  ∀new d',put new=ab d'->∀yJ,VS (new.er L) (d.er L) (yM.map bX.i) (hs++yJ)=ab (d'.er L)
 |[],d,K,out,h=>⟨d,[],ab,[],h,zZ,λ_=>rfl,λnew d' h _=>by cases h;rfl⟩
 |q::r,d,K,out,h=>by
  cases q with
  |fZ i o=>
   cases d with
   |p x=>
    simp only[eZ]at h;obtain⟨z,h1,h⟩:=yf.1 h;obtain⟨h2,h⟩:=Za h;obtain⟨sub,hs,put,C,k1,k2,k3,k4⟩:=WZ r (.p z) _ out h;obtain⟨xs,e1,e2⟩:=ZM9 h1
    have h3:o=Pl.sizes (xs.take i):=by
     unfold ZTY at h2;grind
    refine⟨sub,hs,_,C,k1,k2,λyJ=> ?_,λnew d' hp yJ=> ?_⟩
    .rw[TD.er,e1];show Yy (.p (.agg xs)) (i::r.map bX.i) (hs++yJ)=_;unfold Yy;rw[e2];dsimp only;have:=k3 yJ;rw[TD.er]at this;rw[this,yaa,eI,h3];rfl
    .obtain⟨d1,p1,hp⟩:=yf.1 hp;have:=k4 new d1 p1 yJ;unfold ZRE at hp;rw[TD.er]at this;rw[TD.er,e1];show VS (new.er L) (.p (.agg xs)) (i::r.map bX.i) (hs++yJ)=_;unfold VS;rw[e2];dsimp only;rw[this];split at hp
     .obtain⟨x',p3,rfl⟩:=Zd hp;rw[TD.er,TD.er,ZQd p3 xs e1]
     .rename_i hne;obtain⟨l,p3,rfl⟩:=Zd hp
      have e3:TP.cO l=xs:=by
       have:=FG p3;grind
      rw[TD.er,ZH,ybp, <-ZH,HP,e3]
      cases d1 <;> first|rfl|exact absurd rfl (hne _)
   |agg ds=>
    simp only[eZ]at h;obtain⟨z,h1,h⟩:=yf.1 h;split at h
    .rename_i h2;obtain⟨sub,hs,put,C,k1,k2,k3,k4⟩:=WZ r z _ out h;refine⟨sub,hs,_,C,k1,k2,λyJ=> ?_,λnew d' hp yJ=> ?_⟩
     .rw[TD.er];show Yy (.agg (TD.aE L ds)) (i::r.map bX.i) (hs++yJ)=_;unfold Yy;rw[lW h1];dsimp only;rw[k3 yJ,yaa,eI,h2];rfl
     .obtain⟨y,p1,rfl⟩:=Zd hp;rw[TD.er];show VS (new.er L) (.agg (TD.aE L ds)) (i::r.map bX.i) (hs++yJ)=_;unfold VS;rw[lW h1];dsimp only;rw[k4 new y p1 yJ,yaa,TD.er,ZH,ZH,ybp]
    .cases h
   |_=>cases h
  |ix i s=>
   cases d with
   |p x=>
    by_cases hx:∃n s' xs,x=.arr n s' xs
    .obtain⟨n,s',xs,rfl⟩:=hx;simp only[eZ]at h;obtain⟨z,h1,h⟩:=yf.1 h;split at h
     .rename_i h2;obtain⟨sub,hs,put,C,k1,k2,k3,k4⟩:=WZ r (.p z) _ out h;have hz:(TP.cO xs)[i]? =ab z.pe:=by rw[jr,yak,h1];rfl
      refine⟨sub,_,_,((TP.cO xs)[i]? =ab z.pe)::C,k1,⟨hz,k2⟩,λyJ=> ?_,λnew d' hp yJ=> ?_⟩
      .rw[TD.er,TP.pe];show Yy (.p (.arr n s' (TP.cO xs))) (i::r.map bX.i) (_::(hs++yJ))=_;unfold Yy;dsimp only;have:=k3 yJ;rw[TD.er]at this;rw[this,yaa,eI, <-h2];rfl
      .obtain⟨d1,p1,hp⟩:=yf.1 hp;have:=k4 new d1 p1 yJ;rw[TD.er]at this;rw[TD.er,TP.pe];show VS (new.er L) (.p (.arr n s' (TP.cO xs))) (i::r.map bX.i) (_::(hs++yJ))=_;unfold VS;dsimp only;rw[this];by_cases hd:∃y,d1=.p y
       .obtain⟨y,rfl⟩:=hd;cases hp
       .have e:ZRF n s' xs i d1=ab (.arr n s' ((xs.map .p).set i d1)):=by cases d1 <;> first|rfl|exact absurd ⟨_,rfl⟩ hd
        rw[e]at hp;cases hp;rw[TD.er,ZH,ybp, <-ZH,HP];cases d1 <;> first|rfl|exact absurd ⟨_,rfl⟩ hd
     .cases h
    have hg:eZ L (.ix i s::r) (.p x) K=x.dy.bind λa=>if s=a.t.size then(a.l[i]?).bind λy=>eZ L r (.p (.v a.t y)) λsub hs put=>K sub (.el (a.t.enc y)::hs) λnew=>(put new).bind λd=>HO a i d else ae:=by
     cases x <;> first|rfl|exact absurd ⟨_,_,_,rfl⟩ hx
    rw[hg]at h;obtain⟨a,h1,h⟩:=yf.1 h;split at h
    .rename_i hs0;obtain⟨y,h2,h⟩:=yf.1 h;obtain⟨sub,hs,put,C,k1,k2,k3,k4⟩:=WZ r (.p (.v a.t y)) _ out h;refine⟨sub,_,_,((a.l.map a.t.enc)[i]? =ab (a.t.enc y))::C,k1,⟨rT h2,k2⟩,λyJ=> ?_,λnew d' hp yJ=> ?_⟩
     .rw[TD.er,gY h1];show Yy (.p (.arr a.n a.t.size _)) (i::r.map bX.i) (_::(hs++yJ))=_;unfold Yy;dsimp only;have:=k3 yJ;rw[TD.er,TP.pe]at this;rw[this,yaa,eI,hs0];rfl
     .obtain⟨d1,p1,hp⟩:=yf.1 hp;have:=k4 new d1 p1 yJ;unfold HO at hp;rw[TD.er,TP.pe]at this;rw[TD.er,gY h1];show VS (new.er L) (.p (.arr a.n a.t.size _)) (i::r.map bX.i) (_::(hs++yJ))=_;unfold VS;dsimp only;rw[this];split at hp
      .rename_i z;obtain⟨y',p3,rfl⟩:=Zd hp;rw[TD.er];dsimp only;rw[nO z a.t y' p3, <-ybp];rfl
      .rename_i hne;cases hp;rw[TD.er,ZH,ybp,ybf,ybf];cases d1 <;> first|rfl|exact absurd rfl (hne _)
    .cases h
   |arr n s' ds=>
    simp only[eZ]at h;obtain⟨z,h1,h⟩:=yf.1 h;split at h
    .rename_i h2;obtain⟨sub,hs,put,C,k1,k2,k3,k4⟩:=WZ r z _ out h;refine⟨sub,hs,_,C,k1,k2,λyJ=> ?_,λnew d' hp yJ=> ?_⟩
     .rw[TD.er];show Yy (.arr n s' (TD.aE L ds)) (i::r.map bX.i) (hs++yJ)=_;unfold Yy;rw[lW h1];dsimp only;rw[k3 yJ,yaa,eI, <-h2];rfl
     .obtain⟨y,p1,rfl⟩:=Zd hp;rw[TD.er];show VS (new.er L) (.arr n s' (TD.aE L ds)) (i::r.map bX.i) (hs++yJ)=_;unfold VS;rw[lW h1];dsimp only;rw[k4 new y p1 yJ,yaa,TD.er,ZH,ZH,ybp]
    .cases h
   |_=>cases h
theorem gj{H:yL ak}{id:Nat}{T:Ty}{v:yL Unit}{st:Bool}{e:yc}{l:yL T.aQ}(hd:H[id]? =ab (.aW T v st e l)):(TD.rw id).er (lk H)=.rv id v.length T.size 0 l.length/\
 ∀yM,(TD.rp id yM).er (lk H)=.aZ id v.length (Qj yM) (yM.map bX.i):=by
 have h:Yg (lk H) id aSo ae=([v,yw T.size (),yw l.length ()]:yL aSp):=by
  unfold Yg lk;dsimp only;rw[hd];rfl
 refine⟨?_,λyM=> ?_⟩
 .rw[TD.er];unfold dU;rw[h];show Dv.rv id v.length (yw T.size ()).length 0 (yw l.length ()).length=_;grind
 .rw[TD.er];unfold dU;rw[h];rfl
abbrev Kn(O:Type):=yL TD->TD->yL ak->yL ar->Nat->yO O
def sr(P:yg)(o:Oper)(ts:yL TD)(H:yL ak)(d:TD)(hs:yL ar):Prop:=
 (∀yJ,be P o (TD.aE (lk H) ts) (hs++yJ)=ae)/\∃C,ba C/\∀yJ,bB P o (TD.aE (lk H) ts) (aG H) (hs++yJ)=ab (C,d.er (lk H),yJ)
def jt(P:yg)(o:Oper)(ts:yL TD)(H:yL ak)(d:TD)(H':yL ak)(hs:yL ar):Prop:=
 (∀yJ,be P o (TD.aE (lk H) ts) (hs++yJ)=ae)/\(∀yJ,bB P o (TD.aE (lk H) ts) (aG H) (hs++yJ)=ae)/\
   ∃C,ba C/\∀yJ,cx P o (TD.aE (lk H) ts) (aG H) (hs++yJ)=ab (C,d.er (lk H'),aG H',yJ)
theorem dK{a b c d:Prop}(h:c):a\/b\/c\/d:=.inr (.inr (.inl h))
structure Good(P:yg)(o:Oper)(ts all:List TD)(H:List ak)(all':List TD)(d:TD)(H':List ak)(hs:List ar)(bC:Nat):Prop where
 same:TD.aE (lk H') all'=TD.aE (lk H) all
 len:all'.length=all.length
 op:(bC=0/\H'=H/\di (lk H) P o ts d hs)\/(bC=1/\H'=H/\sr P o ts H d hs)\/(bC=2/\jt P o ts H d H' hs)\/(bC=3/\aG H'=aG H/\jt P o ts H d H' hs)
section
variable{P:yg}{o:Oper}{ts all:yL TD}{H:yL ak}{O:Type}{K:Kn O}{out:O}
def nW(H:yL ak)(id:Nat):yO TD:=
 match H[id]? with
 |some (.var d _)=>ab d
 |_=>ae
theorem ss{id:Nat}{d:TD}(h:nW H id=ab d):∃st,H[id]? =ab (.var d st)/\(aG H)[id]? =ab (.var (d.er (lk H)) st):=by
 unfold nW at h;split at h
 .rename_i d' st hd;cases h;exact⟨st,hd,Yq hd⟩
 .cases h
def HQ(H:yL ak)(id v:Nat):yO TD:=
 match H[id]? with
 |some (.row w _ _ _ d)=>if(w==v)=af then ab d else ae
 |_=>ae
theorem ZGg{id v:Nat}{d:TD}(h:HQ H id v=ab d):∃w s st e,H[id]? =ab (.row w s st e d)/\(w==v)=af:=by
 unfold HQ at h
 all_goals grind
def HR(P:yg)(t:yc)(all:yL TD)(H:yL ak)(K:Kn O):TD->yO O
 |.am id yM=>(nW H id).bind λd=>eZ (lk H) yM d λsub hs _=>if gR P t (sub.er (lk H))=af then K all sub H hs 1 else ae
 |.aZ id v yM=>(HQ H id v).bind λd=>eZ (lk H) yM d λsub hs _=>if gR P t (sub.er (lk H))=af then K all sub H hs 1 else ae
 |_=>ae
theorem ZIm{t:yc}{x:ym}{xd:TD}(ho:o.op=.load t x)(hx:bo P ts 0 x=ab xd)(h:HR P t all H K xd=ab out):∃a d H' hs c,K a d H' hs c=ab out/\Good P o ts all H a d H' hs c:=by
 have hv:=Zz (L:=lk H) hx;unfold HR at h;split at h
 .rename_i id yM;obtain⟨d,h1,h⟩:=yf.1 h;obtain⟨st,h2,h3⟩:=ss h1;obtain⟨sub,hs,put,C,k1,k2,k3,_⟩:=WZ _ _ _ _ h;obtain⟨k4,k5⟩:=Za k1;refine⟨_,_,_,_,_,k5,rfl,rfl,.inr (.inl ⟨rfl,rfl,λyJ=> ?_,C++[eI yM=Qj yM],Zr.2 ⟨k2,(VN _).symm,ao⟩,λyJ=> ?_⟩)⟩
  .unfold be;rw[ho];dsimp only;rw[hv];rfl
  .unfold bB;rw[ho];dsimp only;rw[hv];dsimp only[TD.er];grind
 .rename_i id v yM;obtain⟨d,h1,h⟩:=yf.1 h;obtain⟨w,s,st,e,h2,h3⟩:=ZGg h1;obtain⟨sub,hs,put,C,k1,k2,k3,_⟩:=WZ _ _ _ _ h;obtain⟨k4,k5⟩:=Za k1;refine⟨_,_,_,_,_,k5,rfl,rfl,.inr (.inl ⟨rfl,rfl,λyJ=> ?_,C++[eI yM=Qj yM],Zr.2 ⟨k2,(VN _).symm,ao⟩,λyJ=> ?_⟩)⟩
  .unfold be;rw[ho];dsimp only;rw[hv];rfl
  .unfold bB;rw[ho];dsimp only;rw[hv];dsimp only[TD.er];rw[Yq h2];dsimp only[ak.er];grind
 .cases h
def HS(P:yg)(t:yc)(lo hi:yO Int)(all:yL TD)(H:yL ak)(K:Kn O):TD->yO O
 |.rv id v s l0 n=>match P.underlying t,H[id]? with
  |some (.slice e),ab (.row w s' _ _ d)=>hi.bind λh=>(aY (d.er (lk H)) s').bind λN=>if(P.cellsOf e=s&&(P.info? e).isSome&&w==v&&s'==s&&s' !=0)=af then
    if(ah (0<=lo.getD 0)&&ah (lo.getD 0<=h)&&ah (l0+h.toNat<=N))=af then K all (.rv id v s (l0+(lo.getD 0).toNat) (h.toNat - (lo.getD 0).toNat)) H [.raw] 1 else ae else ae
  |_,_=>ae
 |_=>ae
theorem ZGh{t:yc}{x:ym}{lo hi:yO ym}{l h':yO Int}{xd:TD}(ho:o.op=.slice t x lo hi ae)(hx:bo P ts t x=ab xd)(hl:fh P ts lo=ab l)(hh:fh P ts hi=ab h')(h:HS P t l h' all H K xd=ab out):
 ∃a d H' hs c,K a d H' hs c=ab out/\Good P o ts all H a d H' hs c:=by
 have hv:=Zz (L:=lk H) hx;have hl:=js (L:=lk H) hl;have hh:=js (L:=lk H) hh;unfold HS at h;split at h
 .rename_i id v s l0 n;split at h
  .rename_i e w s' st e' d hu hd;obtain⟨h2,q1,g1⟩:=yf.1 h;obtain⟨N,q2,g2⟩:=yf.1 g1;obtain⟨h3,g3⟩:=Za g2;obtain⟨h4,g4⟩:=Za g3;clear h g1 g2 g3;simp only[yi,yP]at h4;subst q1;refine⟨_,_,_,_,_,g4,rfl,rfl,.inr (.inl ⟨rfl,rfl,λyJ=> ?_,[0<=l.getD 0,l.getD 0<=h2,l0+h2.toNat<=N],⟨h4.1.1,h4.1.2,h4.2,ao⟩,λyJ=> ?_⟩)⟩
   .unfold be;rw[ho];dsimp only;rw[hu,hv,hl,hh];rfl
   .unfold bB;rw[ho];dsimp only;rw[hu,hv,hl,hh];dsimp only[TD.er];rw[yae,yy];dsimp only;rw[Yq hd];dsimp only[ak.er];grind
  .cases h
 .cases h
def lb{α β:Type}(o:yO α)(f:α->yO β)(g:yO β):yO β:=
 match o with
 |some a=>f a
 |none=>g
def lc(P:yg)(kt:yc)(k:Ty):Bool:=jT P kt&&(k.flat&&mc P 20 kt k)
structure su where
 tid:yc
 k:Ty
 v:Ty
 l:List (k.aQ×v.aQ)
def pm(H:yL ak)(id:Nat):yO su:=
 match H[id]? with
 |some (.map tid k v l)=>ab ⟨tid,k,v,l⟩
 |_=>ae
theorem wq{id:Nat}{m:su}(h:pm H id=ab m):H[id]? =ab (.map m.tid m.k m.v m.l)/\(aG H)[id]? =ab (.map m.tid (eB m.k.enc m.v.enc m.l)):=by
 unfold pm at h;split at h
 .rename_i hd;cases h;exact⟨hd,Yq hd⟩
 .cases h
def wr(x:TD)(k:Ty):yO k.aQ:=x.inner.bind λy=>TP.to gW y k
theorem HT{L:Lk}{x:TD}{k:Ty}{y:k.aQ}(h:wr x k=ab y):x.er L=.p (k.enc y):=by
 obtain⟨p,h1,h2⟩:=yf.1 h;rw[Wv h1,TD.er,vS p k y h2]
theorem wt{kt:yc}{k:Ty}(h:lc P kt k=af):∀x y:k.aQ,k.enc x=k.enc y↔x=y:=by
 simp only[lc,yi]at h;exact λx y=>⟨rU k x y h.2.1,λe=>by rw[e]⟩
theorem mr{kt:yc}{k:Ty}(h:lc P kt k=af):∀x:k.aQ,bh P 20 kt (k.enc x):=by
 simp only[lc,yi]at h;exact rW 20 kt k h.2.2
theorem wu{kt:yc}{k:Ty}(h:lc P kt k=af):jT P kt=af:=by
 simp only[lc,yi]at h;exact h.1
def sv(P:yg)(t:yc):yO TP:=
 match WH P t with
 |.p z=>vX P t z
 |_=>ae
theorem HU{t:yc}{z:TP}(h:sv P t=ab z):WH P t=.p z.pe:=by
 unfold sv at h;split at h
 .rename_i y hy;rw[hy,FQ h]
 .cases h
def HV(ok:Bool)(d:TD)(b:Bool):TD:=if ok then .bi [d,.p (.v .bool b)] else d
def HW(P:yg)(t:yc)(all:yL TD)(H:yL ak)(ok:Bool)(K:Kn O)(kd:yc->yO TD):TD->yO O
 |.mp id=>match P.underlying t with
  |some (.map kt et)=>(pm H id).bind λm=>(kd kt).bind λx=>(wr x m.k).bind λkey=>(sv P et).bind λz=>
   if(lc P kt m.k&&DJ P et)=af then
    lb (@fY m.k.aQ m.v.aQ (Ty.dP m.k) m.l key) (λy=>K all (HV ok (.p (.v m.v y)) af) H [.el (m.v.enc y)] 1) (K all (HV ok (.p z) ag) H [.raw] 1)
   else ae
  |_=>ae
 |_=>ae
theorem ZCG{L:Lk}{ok:Bool}{d:TD}{b:Bool}:(HV ok d b).er L=if ok then .bi [d.er L,.p (.bool b)] else d.er L:=by
 cases ok <;> rfl
theorem ZD4{t:yc}{x ix:ym}{ok:Bool}{xd:TD}(ho:o.op=.lookup t x ix ok)(hx:bo P ts t x=ab xd)(h:HW P t all H ok K (λkt=>bo P ts kt ix) xd=ab out):
 ∃a d H' hs c,K a d H' hs c=ab out/\Good P o ts all H a d H' hs c:=by
 have hv:=Zz (L:=lk H) hx;unfold HW at h;split at h
 .rename_i id;split at h
  .rename_i kt et hu;obtain⟨m,h1,h⟩:=yf.1 h;obtain⟨kd,h2,h⟩:=yf.1 h;obtain⟨key,h3,h⟩:=yf.1 h;obtain⟨z,h4,h⟩:=yf.1 h;obtain⟨h5,h⟩:=Za h;rw[yi]at h5;obtain⟨e1,e2⟩:=wq h1;have hk:=Zz (L:=lk H) h2;rw[HT h3]at hk
   have nN:∀hs,be P o (TD.aE (lk H) ts) hs=ae:=λhs=>by
    unfold be;rw[ho]
   letI:=Ty.dP m.k
   unfold lb at h;split at h
   .rename_i y hy
    refine⟨_,_,_,_,_,h,rfl,rfl,.inr (.inl ⟨rfl,rfl,λ_=>nN _,[bh P 20 kt (m.k.enc key),fW P kt (eB m.k.enc m.v.enc m.l),QO (eB m.k.enc m.v.enc m.l) (m.k.enc key) (ab (m.v.enc y))],
     ⟨mr h5.1 key,vK (mr h5.1) _,@ZH6 _ _ (Ty.dP m.k) _ _ (wt h5.1) _ _ _ hy,ao⟩,λyJ=> ?_⟩)⟩
    unfold bB;rw[ho];dsimp only;rw[hu,hv];dsimp only[TD.er];rw[hk,e2]
    try dsimp only
    rw[yae,yy]
    try dsimp only
    rw[yW (wu h5.1),ZCG];rfl
   .rename_i hy
    refine⟨_,_,_,_,_,h,rfl,rfl,.inr (.inl ⟨rfl,rfl,λ_=>nN _,[bh P 20 kt (m.k.enc key),fW P kt (eB m.k.enc m.v.enc m.l),QO (eB m.k.enc m.v.enc m.l) (m.k.enc key) ae],
     ⟨mr h5.1 key,vK (mr h5.1) _,@ZH7 _ _ (Ty.dP m.k) _ _ (wt h5.1) _ _ (by rw[hy];rfl),ao⟩,λyJ=> ?_⟩)⟩
    unfold bB;rw[ho];dsimp only;rw[hu,hv];dsimp only[TD.er];rw[hk,e2]
    try dsimp only
    rw[yae,yy]
    try dsimp only
    rw[yW (by rw[wu h5.1,h5.2];rfl),ZCG,HU h4];rfl
  .cases h
 .cases h
def HX(P:yg)(t:yc)(all:yL TD)(H:yL ak)(K:Kn O):TD->yO O
 |.mp id=>match P.underlying t with
  |some (.map _ _)=>(pm H id).bind λm=>K all (.p (.v (.int .i64) (m.l.length:Int))) H [] 1
  |_=>ae
 |_=>ae
theorem ZD6{t:yc}{x:ym}{c:Call}{xd:TD}(ho:o.op=.call c)(hc:c.callee=.builtin .len)(ha:c.args.toList=[x])(ht:c.argTypes.toList=[t])(hx:bo P ts t x=ab xd)(h:HX P t all H K xd=ab out):
 ∃a d H' hs c,K a d H' hs c=ab out/\Good P o ts all H a d H' hs c:=by
 have hv:=Zz (L:=lk H) hx;unfold HX at h;split at h
 .rename_i id;split at h
  .rename_i kt et hu;obtain⟨m,h1,h⟩:=yf.1 h;obtain⟨e1,e2⟩:=wq h1;refine⟨_,_,_,_,_,h,rfl,rfl,.inr (.inl ⟨rfl,rfl,λyJ=> ?_,[],zZ,λyJ=> ?_⟩)⟩
   .unfold be;grind
   .unfold bB;rw[ho];dsimp only;rw[hc];dsimp only;rw[ha,ht];dsimp only;rw[hu,hv];dsimp only[TD.er];rw[e2];simp[TP.pe,Ty.enc,eB]
  .cases h
 .cases h
theorem sw{e:ak}(h:e.eY=ag):TD.aE (lk (H++[e])) all=TD.aE (lk H) all:=by rw[nU h]
theorem ZGj{T:Ty}{e:yc}:TD.aE (lk (H++[.log T e []])) all=TD.aE (lk H) all:=(bZ (λid t=>wo id t) all).symm
theorem pn{e:ak}(h:TD.frees H.length all=af):TD.aE (lk (H++[e])) all=TD.aE (lk H) all:=(cA (λid t hn=>mh id t hn) all h).symm
theorem sx{T:Ty}{e:yc}{l:yL T.aQ}:Yg (lk (H++[.log T e l])) H.length T ae=l:=by
 unfold Yg lk;dsimp only;rw[List.getElem?_concat_length];show(Ty.bn T T l).getD []=l;unfold Ty.bn;split
 all_goals grind
def HY(P:yg)(t:yc)(dst:Tmp)(all:yL TD)(H:yL ak)(K:Kn O):TD->yO O
 |.p (.sl (ab ag) T [])=>match P.underlying t with
  |some (.slice e)=>(P.info? e).bind λi=>if(ca i&&i.size !=0&&ah (i.size=T.size))=af then K all (.own H.length ae T ae) (H++[.log T e []]) [.fresh dst] 2 else ae
  |_=>ae
 |_=>ae
theorem ZGk{x:ym}{dst:Tmp}{xd:TD}(ho:o.op=.assign x)(hd:o.dst=ab dst)(hx:bo P ts o.type x=ab xd)(h:HY P o.type dst all H K xd=ab out):
 ∃a d H' hs c,K a d H' hs c=ab out/\Good P o ts all H a d H' hs c:=by
 have hv:=Zz (L:=lk H) hx;unfold HY at h;split at h
 .rename_i T;split at h
  .rename_i e hu;obtain⟨i,h1,h⟩:=yf.1 h;obtain⟨h2,h⟩:=Za h;simp only[yi,yP]at h2;refine⟨_,_,_,_,_,h,ZGj,rfl,dK (⟨rfl,λyJ=> ?_,λyJ=> ?_,[],zZ,λyJ=> ?_⟩)⟩
   .unfold be;rw[ho];rfl
   .unfold bB;rw[ho]
   .unfold cx;rw[ho];dsimp only;rw[yae,yy];dsimp only;rw[yW hd,hu,hv,show(TD.p (TP.sl (ab ag) T [])).er (lk H)=Dv.p (.sl (ab ag) T.size []) from rfl]
    dsimp only;rw[h1];dsimp only;rw[yW (by simpa using h2.1),HN,ZQ,TD.er,sx,h2.2];rfl
  .cases h
 .cases h
def HZ(P:yg)(t:yc)(all:yL TD)(H:yL ak)(K:Kn O):yO O:=
 match P.underlying t with
 |some (.map kt et)=>(gf P gX kt).bind λk=>(gf P gX et).bind λv=>K all (.mp H.length) (H++[.map t k v []]) [] 2
 |_=>ae
theorem ZBC{t:yc}(ho:o.op=.makeMap t ae)(h:HZ P t all H K=ab out):∃a d H' hs c,K a d H' hs c=ab out/\Good P o ts all H a d H' hs c:=by
 unfold HZ at h;split at h
 .rename_i kt et hu;obtain⟨k,h1,h⟩:=yf.1 h;obtain⟨v,h2,h⟩:=yf.1 h;refine⟨_,_,_,_,_,h,sw rfl,rfl,dK (⟨rfl,λyJ=> ?_,λyJ=> ?_,[],zZ,λyJ=> ?_⟩)⟩
  .unfold be;rw[ho]
  .unfold bB;rw[ho]
  .unfold cx;rw[ho];dsimp only;rw[pj (nU rfl),ZQ];rfl
 .cases h
def ju(n:Int)(b:Nat):Bool:=ah (0<=n)&&lY n.toNat b
def IA(P:yg)(t:yc)(own row:Bool)(n n':Int)(all:yL TD)(H:yL ak)(K:Kn O):yO O:=
 match P.underlying t with
 |some (.slice e)=>(P.info? e).bind λi=>(gf P gX e).bind λT=>
  if row then
   if(ca i&&i.size !=0&&ah (i.size=T.size))=af then if(ah (n=0)&&ju n' i.bytes)=af then K all (.rv H.length 0 i.size 0 0) (H++[.row 0 i.size af e (.p (.v (.arr 0 T) []))]) [.arr] 2 else ae else ae
  else if own then
   if(ca i&&i.size !=0&&ah (i.size=T.size))=af then if(ah (n=0)&&ju n' i.bytes)=af then K all (.own H.length (ab af) T ae) (H++[.log T e []]) [.own] 2 else ae else ae
  else(sv P e).bind λz=>(TP.to gW z T).bind λy=>
   if(ca i&&ah (i.size=1)&&z.pe.size==1&& !z.pe.isAgg&&ah (T.size=1))=af then if(ah (n'=n)&&ju n i.bytes)=af then
    K all (.view H.length [] 1 0 n.toNat) (H++[.var (.p (.v (.arr n.toNat T) (yw n.toNat y))) af]) [.raw] 2 else ae else ae
 |_=>ae
theorem ZxV{t:yc}{l c:ym}{n n':Num}{own row:Bool}(ho:o.op=.makeSlice t l c)(hl:(bo P ts 0 l).bind TD.num=ab n)(hc:(bo P ts 0 c).bind TD.num=ab n')(hk:n.k=.i64)(hk':n'.k=.i64)
 (h:IA P t own row n.n n'.n all H K=ab out):∃a d H' hs c,K a d H' hs c=ab out/\Good P o ts all H a d H' hs c:=by
 obtain⟨ld,l1,l2⟩:=yf.1 hl;obtain⟨cd,c1,c2⟩:=yf.1 hc;have hv:=Zz (L:=lk H) l1;have hw:=Zz (L:=lk H) c1;rw[kZ l2,hk]at hv;rw[kZ c2,hk']at hw;unfold IA at h;have nN:∀hs,be P o (TD.aE (lk H) ts) hs=ae:=λhs=>by unfold be;rw[ho]
 have nR:∀hs,bB P o (TD.aE (lk H) ts) (aG H) hs=ae:=λhs=>by unfold bB;rw[ho]
 split at h
 .rename_i e hu;obtain⟨i,h1,h⟩:=yf.1 h;obtain⟨T,h2,h⟩:=yf.1 h;split at h
  .obtain⟨h3,h⟩:=Za h;obtain⟨h4,h⟩:=Za h;simp only[yi,yP]at h3;simp only[ju,yi,yP]at h4;obtain⟨g1,g2⟩:=lZ h4.2.2;refine⟨_,_,_,_,_,h,sw rfl,rfl,dK (⟨rfl,λyJ=>nN _,λyJ=>nR _,[n.n=0,0<=n'.n,n'.n.toNat*i.bytes<=Zv,n'.n.toNat<=maxLen],⟨h4.1,h4.2.1,g1,g2,ao⟩,λyJ=> ?_⟩)⟩;unfold cx;rw[ho];dsimp only;rw[hu,hv,hw];dsimp only;rw[h1,yae,yy];dsimp only;rw[yW (by simpa using h3.1),pj (nU rfl),ZQ];simp only[ak.er,TD.er,TP.pe,FH,h3.2];rfl
  split at h
  .obtain⟨h3,h⟩:=Za h;obtain⟨h4,h⟩:=Za h;simp only[yi,yP]at h3;simp only[ju,yi,yP]at h4;obtain⟨g1,g2⟩:=lZ h4.2.2;refine⟨_,_,_,_,_,h,ZGj,rfl,dK (⟨rfl,λyJ=>nN _,λyJ=>nR _,[n.n=0,0<=n'.n,n'.n.toNat*i.bytes<=Zv,n'.n.toNat<=maxLen],⟨h4.1,h4.2.1,g1,g2,ao⟩,λyJ=> ?_⟩)⟩;unfold cx;rw[ho];dsimp only;rw[hu,hv,hw];dsimp only;rw[h1,yae,yy];dsimp only;rw[yW (by simpa using h3.1),HN,ZQ,TD.er,sx,h3.2];rfl
  .obtain⟨z,z1,h⟩:=yf.1 h;obtain⟨y,z2,h⟩:=yf.1 h;obtain⟨h3,h⟩:=Za h;obtain⟨h4,h⟩:=Za h;simp only[yi,yP,yT]at h3;simp only[ju,yi,yP]at h4;obtain⟨g1,g2⟩:=lZ h4.2.2;refine⟨_,_,_,_,_,h,sw rfl,rfl,dK (⟨rfl,λyJ=>nN _,λyJ=>nR _,[n'.n=n.n,0<=n.n,n.n.toNat*i.bytes<=Zv,n.n.toNat<=maxLen],⟨h4.1,h4.2.1,g1,g2,ao⟩,λyJ=> ?_⟩)⟩;unfold cx;rw[ho];dsimp only;rw[hu,hv,hw];dsimp only;rw[h1,yae,yy];dsimp only;rw[HU z1];dsimp only;rw[yW (by simp only[yi,yP];exact h3.1),pj (nU rfl),ZQ,vS z T y z2];simp only[ak.er,TD.er,TP.pe,Qj,List.map_nil,List.foldl_nil];congr 5;show _=[ay.var (Dv.p (Pl.arr n.n.toNat T.size (List.map T.enc (yw n.n.toNat y)))) af];rw[List.map_replicate,h3.2]
 .cases h
end
end Go.Ev
end
section
namespace Go.Ev
section
variable{P:yg}{o:Oper}{ts all:yL TD}{H:yL ak}{O:Type}{K:Kn O}{out:O}
theorem mv{id:Nat}{e x:ak}(hx:H[id]? =ab x)(h1:x.eY=ag)(h2:e.eY=ag):TD.aE (lk (H.set id e)) all=TD.aE (lk H) all:=by rw[gE hx h1 h2]
def IB(P:yg)(t:yc)(all:yL TD)(H:yL ak)(K:Kn O)(kd vd:yc->yO TD):TD->yO O
 |.mp id=>match P.underlying t with
  |some (.map kt et)=>(pm H id).bind λm=>(kd kt).bind λx=>(wr x m.k).bind λkey=>((vd et).bind (TD.flat (lk H))).bind λz=>(TP.to kW z m.v).bind λy=>
   if lc P kt m.k=af then K all .aA (H.set id (.map m.tid m.k m.v (@gU m.k.aQ m.v.aQ (Ty.dP m.k) m.l key y))) [.bu (eB m.k.enc m.v.enc (@gU m.k.aQ m.v.aQ (Ty.dP m.k) m.l key y))] 2 else ae
  |_=>ae
 |_=>ae
theorem ZD8{t:yc}{x k v:ym}{xd:TD}(ho:o.op=.mapUpdate t x k v)(hx:bo P ts t x=ab xd)(h:IB P t all H K (λkt=>bo P ts kt k) (λet=>bo P ts et v) xd=ab out):
 ∃a d H' hs c,K a d H' hs c=ab out/\Good P o ts all H a d H' hs c:=by
 have hv:=Zz (L:=lk H) hx;unfold IB at h;split at h
 .rename_i id;split at h
  .rename_i kt et hu;obtain⟨m,h1,h⟩:=yf.1 h;obtain⟨kd,h2,h⟩:=yf.1 h;obtain⟨key,h3,h⟩:=yf.1 h;obtain⟨z,h4,h⟩:=yf.1 h;obtain⟨zd,h40,h41⟩:=yf.1 h4;obtain⟨y,h6,h⟩:=yf.1 h;obtain⟨h5,h⟩:=Za h;obtain⟨e1,e2⟩:=wq h1;have hk:=Zz (L:=lk H) h2;rw[HT h3]at hk;have hz:=Zz (L:=lk H) h40
   letI:=Ty.dP m.k
   refine⟨_,_,_,_,_,h,mv e1 rfl rfl,rfl,dK (⟨rfl,λyJ=> ?_,λyJ=> ?_,[bh P 20 kt (m.k.enc key),fW P kt (eB m.k.enc m.v.enc m.l),fU (eB m.k.enc m.v.enc m.l) (m.k.enc key) z.pe.soft (eB m.k.enc m.v.enc (gU m.l key y))],
    ⟨mr h5 key,vK (mr h5) _,by rw[nO z m.v y h6];exact ZzB (wt h5) _ _ _,ao⟩,λyJ=> ?_⟩)⟩
   .unfold be;rw[ho]
   .unfold bB;rw[ho]
   .unfold cx;rw[ho];dsimp only;rw[hu,hv];dsimp only[TD.er];rw[hk,hz,ZF8 h41,e2]
    try dsimp only
    rw[yae,yy]
    try dsimp only
    rw[yW (wu h5),Ql (gE e1 rfl rfl)];rfl
  .cases h
 .cases h
def IC(P:yg)(t:yc)(all:yL TD)(H:yL ak)(K:Kn O)(kd:yO TD):TD->yO O
 |.mp id=>match P.underlying t with
  |some (.map kt et)=>(pm H id).bind λm=>kd.bind λx=>(wr x m.k).bind λkey=>
   if lc P kt m.k=af then K all (.bi []) (H.set id (.map m.tid m.k m.v (@lU m.k.aQ m.v.aQ (Ty.dP m.k) m.l key))) [.bu (eB m.k.enc m.v.enc (@lU m.k.aQ m.v.aQ (Ty.dP m.k) m.l key))] 2 else ae
  |_=>ae
 |_=>ae
theorem ZEa{t u:yc}{x k:ym}{c:Call}{xd:TD}(ho:o.op=.call c)(hc:c.callee=.builtin .delete)(ha:c.args.toList=[x,k])(ht:c.argTypes.toList=[t,u])(hx:bo P ts t x=ab xd)
 (h:IC P t all H K (bo P ts u k) xd=ab out):∃a d H' hs c,K a d H' hs c=ab out/\Good P o ts all H a d H' hs c:=by
 have hv:=Zz (L:=lk H) hx;unfold IC at h;split at h
 .rename_i id;split at h
  .rename_i kt et hu;obtain⟨m,h1,h⟩:=yf.1 h;obtain⟨kd,h2,h⟩:=yf.1 h;obtain⟨key,h3,h⟩:=yf.1 h;obtain⟨h5,h⟩:=Za h;obtain⟨e1,e2⟩:=wq h1;have hk:=Zz (L:=lk H) h2;rw[HT h3]at hk
   letI:=Ty.dP m.k
   refine⟨_,_,_,_,_,h,mv e1 rfl rfl,rfl,dK (⟨rfl,λyJ=> ?_,λyJ=> ?_,[bh P 20 kt (m.k.enc key),fW P kt (eB m.k.enc m.v.enc m.l),fV (eB m.k.enc m.v.enc m.l) (m.k.enc key) (eB m.k.enc m.v.enc (lU m.l key))],
    ⟨mr h5 key,vK (mr h5) _,ZzC (wt h5) _ _,ao⟩,λyJ=> ?_⟩)⟩
   .unfold be;rw[ho];dsimp only;rw[hc]
   .unfold bB;rw[ho];dsimp only;rw[hc]
   .unfold cx;rw[ho];dsimp only;rw[hc];dsimp only;rw[ha,ht];dsimp only;rw[hu,hv];dsimp only[TD.er];rw[hk,e2]
    try dsimp only
    rw[yae,yy]
    try dsimp only
    rw[yW (wu h5),Ql (gE e1 rfl rfl)];rfl
  .cases h
 .cases h
def TP.lf(x:TP)(T:Ty):Bool:=
 match x with
 |.sl (ab ag) t []=>ah (t.size=T.size)
 |_=>ag
theorem ZJ3{x:TP}{T:Ty}(h:x.lf T=af):x.pe=.sl (ab ag) T.size []:=by
 unfold TP.lf at h;split at h
 .rename_i t;show Pl.sl (ab ag) t.size []=_;grind
 .cases h
def lg(T:Ty)(new:TD):yL Nat->TD->yO TD
 |[],.p x=>if x.lf T then ab new else ae
 |i::r,.p x=>x.parts.bind λl=>(l[i]?).bind λz=>(lg T new r (.p z)).map λy=>.agg ((l.map .p).set i y)
 |i::r,.agg ds=>(ds[i]?).bind λz=>(lg T new r z).map λy=>.agg (ds.set i y)
 |_,_=>ae
theorem wv{L:Lk}{T:Ty}{new:TD}:∀(yM:yL Nat)(d d':TD),lg T new yM d=ab d'->WF (d.er L) yM T.size (new.er L)=ab (d'.er L)
 |[],d,d',h=>by
  cases d with
  |p x=>
   simp only[lg]at h;split at h
   .rename_i hn;cases h;rw[TD.er,ZJ3 hn];simp[WF]
   .cases h
  |_=>cases h
 |i::r,d,d',h=>by
  cases d with
  |p x=>
   simp only[lg]at h;obtain⟨l,h1,h⟩:=yf.1 h;obtain⟨z,h2,h⟩:=yf.1 h;obtain⟨y,h3,rfl⟩:=Zd h;have:=wv (L:=L) r (.p z) y h3;rw[TD.er,FG h1];unfold WF;rw[show(TP.cO l)[i]? =ab z.pe by rw[jr,yak,h2];rfl];dsimp only;rw[TD.er]at this
   rw[this,yaa,TD.er,ZH,ybp, <-ZH,HB]
  |agg ds=>
   simp only[lg]at h;obtain⟨z,h2,h⟩:=yf.1 h;obtain⟨y,h3,rfl⟩:=Zd h;have:=wv (L:=L) r z y h3;rw[TD.er];unfold WF;rw[lW h2];dsimp only
   rw[this,yaa,TD.er,ZH,ZH,ybp]
  |_=>cases h
def sy(d:TD)(n:Nat):yL (yL Nat×Ty×yc)->yO (TD×yL (Ty×yc))
 |[]=>ab (d,[])
 |q::r=>(lg q.2.1 (.own n ae q.2.1 ae) q.1 d).bind λd'=>(sy d' (n+1) r).map λz=>(z.1,(q.2.1,q.2.2)::z.2)
def sA(l:yL (yL Nat×Ty×yc)):yL ar:=l.map λq=>.bP q.1 q.2.1.size q.2.2
def mw(l:yL (Ty×yc)):yL ak:=l.map λq=>.log q.1 q.2 []
def ZNv(L:Lk)(n:Nat):Prop:=∀id t,n<=id->Yg L id t ae=[]
theorem ID{L:Lk}:∀(l:yL (yL Nat×Ty×yc))(d:TD)(n:Nat)(z:TD×yL (Ty×yc)),ZNv L n->sy d n l=ab z->∀yJ,
 YL (d.er L) n (sA l++.raw::yJ)=(z.1.er L,z.2.map (λq=>ay.log q.1.size q.2 []),.raw::yJ)
 |[],d,n,z,hN,h,yJ=>by cases h;rfl
 |q::r,d,n,z,hN,h,yJ=>by
  simp only[sy]at h;obtain⟨d',h1,h⟩:=yf.1 h;obtain⟨w,h2,rfl⟩:=Zd h;have e:=wv (L:=L) q.1 d d' h1;rw[TD.er,hN n q.2.1 (yj _)]at e;have ih:=ID r d' (n+1) w (λid t h=>hN id t (by omega)) h2 yJ;show YL (d.er L) n (.bP q.1 q.2.1.size q.2.2::(sA r++.raw::yJ))=_;unfold YL;grind
theorem ZNw(H:yL ak):ZNv (lk H) H.length:=λid t h=>by
 unfold Yg lk;rw[ybl h];rfl
theorem IE:∀(l:yL (Ty×yc))(H:yL ak),(∀id t,Yg (lk H) id t ae=Yg (lk (H++mw l)) id t ae)/\aG (H++mw l)=aG H++l.map (λq=>ay.log q.1.size q.2 [])
 |[],H=>by simp[mw]
 |q::l,H=>by
  have e:H++mw (q::l)=(H++[.log q.1 q.2 []])++mw l:=by simp[mw]
  obtain⟨h1,h2⟩:=IE l (H++[.log q.1 q.2 []]);rw[e];refine⟨λid t=>(wo id t).trans (h1 id t), ?_⟩;rw[h2,HN];simp
def newVar(hi:HI)(dst:yO Tmp)(d:TD)(all:yL TD)(H:yL ak)(K:Kn O):yO O:=
 match dst with
 |some t=>match hi.bP.lookup t with
  |some l=>(sy d (H.length+1) l).bind λz=>K all (.am H.length []) (H++[.var z.1 af]++mw z.2) (sA l++[.raw]) 2
  |none=>K all (.am H.length []) (H++[.var d af]) [.raw] 2
 |none=>ae
theorem Zw4{hi:HI}{dst:yO Tmp}{d:TD}(h:newVar hi dst d all H K=ab out):
 ∃H' hs gd gl,K all (.am H.length []) H' hs 2=ab out/\TD.aE (lk H') all=TD.aE (lk H) all/\aG H'=aG H++ay.var gd af::gl/\∀yJ,YL (d.er (lk H)) ((aG H).length+1) (hs++yJ)=(gd,gl,.raw::yJ):=by
 unfold newVar at h;split at h
 .rename_i t;split at h
  .rename_i l hl;obtain⟨z,h1,h⟩:=yf.1 h;obtain⟨c1,c2⟩:=IE z.2 (H++[.var z.1 af]);have hL:lk (H++[.var z.1 af])=lk H:=nU rfl;refine⟨_,_,z.1.er (lk H),z.2.map (λq=>ay.log q.1.size q.2 []),h, ?_, ?_,λyJ=> ?_⟩
   .rw[<-bZ c1 all,hL]
   .rw[c2,pj hL];simp[ak.er]
   .rw[ZQ,yad];exact ID l d _ z (λid t hh=>ZNw H id t (by omega)) h1 yJ
  .refine⟨_,_,d.er (lk H),[],h,sw rfl, ?_,λyJ=> ?_⟩
   .rw[pj (nU rfl)];rfl
   .rfl
 .cases h
def IF(P:yg)(hi:HI)(dst:yO Tmp)(t:yc)(all:yL TD)(H:yL ak)(K:Kn O):yO O:=
 (P.info? t).bind λi=>(sv P t).bind λz=>if(ca i&&gR P t (WH P t)&&(WH P t).bF)=af then newVar hi dst (.p z) all H K else ae
theorem ZGm{hi:HI}{t:yc}(ho:o.op=.alloc t)(h:IF P hi o.dst t all H K=ab out):∃a d H' hs c,K a d H' hs c=ab out/\Good P o ts all H a d H' hs c:=by
 unfold IF at h;obtain⟨i,h1,h⟩:=yf.1 h;obtain⟨z,h2,h⟩:=yf.1 h;obtain⟨h3,h⟩:=Za h;obtain⟨H',hs,gd,gl,k1,k2,k3,k4⟩:=Zw4 h;refine⟨_,_,_,_,_,k1,k2,rfl,dK (⟨rfl,λyJ=> ?_,λyJ=> ?_,[],zZ,λyJ=> ?_⟩)⟩
 .unfold be;rw[ho]
 .unfold bB;rw[ho]
 .have k5:=k4 yJ;rw[TD.er, <-HU h2]at k5;unfold cx;rw[ho];dsimp only;rw[h1];dsimp only;rw[k5];dsimp only;rw[yW h3,k3,ZQ];rfl
def ww(L:Lk)(d:TD):TD:=
 match d.plain L with
 |some y=>.p y
 |none=>d
theorem ZQf{L:Lk}(d:TD):(ww L d).er L=mX (d.er L):=by
 unfold ww mX
 cases h:d.plain L with
 |none=>rw[ZzK h]
 |some y=>rw[ZCC h];rfl
def IG(hi:HI)(dst:yO Tmp)(all:yL TD)(H:yL ak)(K:Kn O)(d:TD):yO O:=
 if((ww (lk H) d).er (lk H)).bF=af then newVar hi dst (ww (lk H) d) all H K else ae
theorem ZLy{hi:HI}{t:yc}{x:ym}{xd:TD}(ho:o.op=.box t x)(hx:bo P ts t x=ab xd)(h:IG hi o.dst all H K xd=ab out):∃a d H' hs c,K a d H' hs c=ab out/\Good P o ts all H a d H' hs c:=by
 have hv:=Zz (L:=lk H) hx;unfold IG at h;obtain⟨h3,h⟩:=Za h;obtain⟨H',hs,gd,gl,k1,k2,k3,k4⟩:=Zw4 h;refine⟨_,_,_,_,_,k1,k2,rfl,dK (⟨rfl,λyJ=> ?_,λyJ=> ?_,[],zZ,λyJ=> ?_⟩)⟩
 .unfold be;rw[ho]
 .unfold bB;rw[ho]
 .have k5:=k4 yJ;rw[ZQf]at k5 h3;unfold cx;rw[ho];dsimp only;rw[hv,k5];dsimp only;rw[yW h3,k3,ZQ];rfl
def TD.cw(L:Lk)(v:TD):TD:=
 match v.flat L with
 |some x=>.p x
 |none=>v
theorem IH{L:Lk}(v:TD):(v.cw L).er L=(v.er L).cw:=by
 unfold TD.cw Dv.cw;rw[rS];cases v.flat L <;> rfl
def wx(L:Lk)(yM:yL bX)(d v:TD):yO TD:=
 match d,yM with
 |.p _,_=>ab (v.cw L)
 |_,[]=>ab (v.cw L)
 |_,_=>ab v
theorem II{L:Lk}{yM:yL bX}{d v new:TD}(h:wx L yM d v=ab new):jm (yM.map bX.i) (d.er L) (v.er L)=ab (new.er L):=by
 unfold wx at h;split at h
 .cases h;unfold jm;rw[TD.er];dsimp only;rw[IH]
 .cases h;unfold jm;split
  .rw[IH]
  .simp only[List.map_nil];rw[IH]
 .rename_i h1 h2;cases h;unfold jm;split
  .rename_i z hz;cases d <;> first|cases hz|skip
   grind
  simp_all
def po(P:yg)(t:yc)(new sub:Dv):Bool:=new.bF&&new.size==sub.size&&P.cellsOf t==new.size&&(P.info? t).isSome&&new.isAgg==sub.isAgg
def ZTZ(hi:HI):ym->yL (yL Nat×Ty×yc)
 |.tmp t=>(hi.eJ.lookup t).getD []
 |_=>[]
def IJ(P:yg)(gs:yL (yL Nat×Ty×yc))(t:yc)(all:yL TD)(H:yL ak)(K:Kn O)(v:TD):TD->yO O
 |.am id yM=>match H[id]? with
  |some (.var d af)=>eZ (lk H) yM d λsub hs put=>(wx (lk H) yM d v).bind λnew=>(put new).bind λd'=>(sy d' H.length gs).bind λz=>
   if po P t (new.er (lk H)) (sub.er (lk H))=af then K all .aA (H.set id (.var z.1 af)++mw z.2) (hs++(sA gs++[.raw])) 2 else ae
  |_=>ae
 |.aZ id v' yM=>match H[id]? with
  |some (.row w s af e d)=>eZ (lk H) yM d λsub hs put=>(wx (lk H) yM d v).bind λnew=>(put new).bind λd'=>
   if(po P t (new.er (lk H)) (sub.er (lk H))&&w==v'&&aY (d'.er (lk H)) s==aY (d.er (lk H)) s)=af then K all .aA (H.set id (.row v' s af e d')) hs 2 else ae
  |_=>ae
 |_=>ae
theorem ZGn{gs:yL (yL Nat×Ty×yc)}{t:yc}{x y:ym}{xd yd:TD}(ho:o.op=.store t x y)(hx:bo P ts 0 x=ab xd)(hy:bo P ts t y=ab yd)(h:IJ P gs t all H K yd xd=ab out):
 ∃a d H' hs c,K a d H' hs c=ab out/\Good P o ts all H a d H' hs c:=by
 have hv:=Zz (L:=lk H) hx;have hw:=Zz (L:=lk H) hy;unfold IJ at h;split at h
 .rename_i id yM;split at h
  .rename_i d hd;obtain⟨sub,hs,put,C,k1,k2,k3,k4⟩:=WZ _ _ _ _ h;obtain⟨new,h1,h2⟩:=yf.1 k1;obtain⟨d',h3,h2⟩:=yf.1 h2;obtain⟨z,h5,h2⟩:=yf.1 h2;obtain⟨h4,h2⟩:=Za h2;unfold po at h4;obtain⟨g1,g2⟩:=IE z.2 (H.set id (.var z.1 af));have hL:lk (H.set id (.var z.1 af))=lk H:=gE hd rfl rfl;refine⟨_,_,_,_,_,h2, ?_,rfl,dK (⟨rfl,λyJ=> ?_,λyJ=> ?_,C++[eI yM=Qj yM],Zr.2 ⟨k2,(VN _).symm,ao⟩,λyJ=> ?_⟩)⟩
   .rw[<-bZ g1 all,hL]
   .unfold be;rw[ho]
   .unfold bB;rw[ho]
   .have k5:=ID gs d' H.length z (ZNw H) h5 yJ;unfold cx;rw[ho];dsimp only;rw[hv,hw];dsimp only[TD.er];rw[Yq hd];dsimp only[ak.er];rw[yad,k3 (sA gs++[ar.raw]++yJ)];dsimp only;rw[II h1];dsimp only;rw[k4 new d' h3 _];dsimp only;rw[yW h4,ZQ,yad];rw[show([ar.raw]++yJ)=.raw::yJ from rfl,k5]
    dsimp only;rw[g2,Ql hL];rfl
  .cases h
 .rename_i id v' yM;split at h
  .rename_i w s e d hd;obtain⟨sub,hs,put,C,k1,k2,k3,k4⟩:=WZ _ _ _ _ h;obtain⟨new,h1,h2⟩:=yf.1 k1;obtain⟨d',h3,h2⟩:=yf.1 h2;obtain⟨h4,h2⟩:=Za h2;rw[yi,yi]at h4;obtain⟨⟨h4,h5⟩,h6⟩:=h4;have h4':=h4;unfold po at h4';have hL:lk (H.set id (.row v' s af e d'))=lk H:=gE hd rfl rfl;refine⟨_,_,_,_,_,h2,mv hd rfl rfl,rfl,dK (⟨rfl,λyJ=> ?_,λyJ=> ?_,C++[eI yM=Qj yM],Zr.2 ⟨k2,(VN _).symm,ao⟩,λyJ=> ?_⟩)⟩
   .unfold be;rw[ho]
   .unfold bB;rw[ho]
   .unfold cx;rw[ho];dsimp only;rw[hv,hw];dsimp only[TD.er];rw[Yq hd];dsimp only[ak.er];rw[k3 yJ];dsimp only;rw[II h1];dsimp only;rw[k4 new d' h3 _];dsimp only;rw[yW (by simp only[yi]at h4' ⊢;exact⟨⟨h4',h5⟩,h6⟩),Ql hL];rfl
  .cases h
 .cases h
def IK(P:yg)(ts:yL TD)(t:yc)(len:Nat)(parts:yL (Nat×ym))(all:yL TD)(H:yL ak)(K:Kn O):yO O:=
 pg (lk H) P ts t len parts λT l e=>if(TD.frees H.length all&&H.all (ak.free H.length))=af then K all (.own H.length (ab af) T ae) (H++[.log T e l]) [.own] 2 else ae
theorem ZEd{t:yc}{len:Nat}{parts:Array (Nat×ym)}(ho:o.op=.buildSlice t len parts)(h:IK P ts t len parts.toList all H K=ab out):
 ∃a d H' hs c,K a d H' hs c=ab out/\Good P o ts all H a d H' hs c:=by
 unfold IK at h;obtain⟨e,T,l,i,xs,h1,hu,hi,hl,hz,hs,hx⟩:=wm h;obtain⟨h2,h1⟩:=Za h1;rw[yi]at h2;refine⟨_,_,_,_,_,h1,pn h2.1,rfl,dK (⟨rfl,λyJ=> ?_,λyJ=> ?_,[],zZ,λyJ=> ?_⟩)⟩
 .unfold be;rw[ho];rfl
 .unfold bB;rw[ho]
 .unfold cx;rw[ho];dsimp only;rw[yae,yy];dsimp only;rw[hu];dsimp only;rw[hi,hl];dsimp only;rw[yW (by simpa using hz),hx,ZJ1 h2.2,ZQ,TD.er,sx,hs]
def sB(P:yg)(T:Ty)(u:yc)(H:yL ak)(K:yL T.aQ->yL ar->yO O)(x:TD):yO O:=
 match x with
 |.view id yM s lo n=>match P.underlying u with
  |some (.slice _)=>(nW H id).bind λd=>eZ (lk H) yM d λsub hs _=>sub.inner.bind λy=>y.dy.bind λr=>(Ty.bn r.t T r.l).bind λl=>
   if(ah (s=T.size))=af then if(ah (lo+n<=r.n))=af then K ((l.drop lo).take n) hs else ae else ae
  |_=>ae
 |.rv id v s lo n=>match P.underlying u,H[id]? with
  |some (.slice _),ab (.row w s' _ _ d)=>d.inner.bind λy=>y.dy.bind λr=>(Ty.bn r.t T r.l).bind λl=>
   if(ah (s=T.size)&&ah (s'=T.size)&&w==v)=af then if(ah (lo+n<=r.n))=af then K ((l.drop lo).take n) [] else ae else ae
  |_,_=>ae
 |.rw id=>match P.underlying u,H[id]? with
  |some (.slice _),ab (.aW T' v st e l')=>(Ty.bn T' T l').bind λl=>K l []
  |_,_=>ae
 |x=>(mf (lk H) P T u x).bind λl=>K l []
theorem IL{T:Ty}{u:yc}{x:TD}{K:yL T.aQ->yL ar->yO O}(h:sB P T u H K x=ab out):
 ∃l hs C,K l hs=ab out/\ba C/\∀yJ,jn P T.size u (aG H) (hs++yJ) (x.er (lk H))=ab (C,l.map T.enc,yJ):=by
 unfold sB at h;split at h
 .rename_i id yM s lo n;split at h
  .rename_i e hu;obtain⟨d,h1,h⟩:=yf.1 h;obtain⟨st,h2,h3⟩:=ss h1;obtain⟨sub,hs,put,C,k1,k2,k3,_⟩:=WZ _ _ _ _ h;obtain⟨y,p1,k1⟩:=yf.1 k1;obtain⟨r,p2,k1⟩:=yf.1 k1;obtain⟨l,p3,k1⟩:=yf.1 k1;obtain⟨p4,k1⟩:=Za k1;obtain⟨p5,k1⟩:=Za k1;have p4:=yF p4;have p5:=yF p5
   have esub:sub.er (lk H)=.p (.arr r.n T.size (l.map T.enc)):=by
    rw[Wv p1,TD.er,gY p2];obtain⟨e,p3⟩:=ZI p3;grind
   refine⟨_,_,C++[eI yM=Qj yM,lo+n<=r.n],k1,Zr.2 ⟨k2,(VN _).symm,p5,ao⟩,λyJ=> ?_⟩;unfold jn;rw[TD.er];simp_all
  .cases h
 .rename_i id v s lo n;split at h
  .rename_i e w s' st e' d hu hd;obtain⟨y,p1,k1⟩:=yf.1 h;obtain⟨r,p2,k1⟩:=yf.1 k1;obtain⟨l,p3,k1⟩:=yf.1 k1;obtain⟨p4,k1⟩:=Za k1;obtain⟨p5,k1⟩:=Za k1;simp only[yi,yP]at p4;have p5:=yF p5
   have esub:d.er (lk H)=.p (.arr r.n T.size (l.map T.enc)):=by
    rw[Wv p1,TD.er,gY p2];obtain⟨e,p3⟩:=ZI p3;grind
   refine⟨_,_,[lo+n<=r.n],k1,⟨p5,ao⟩,λyJ=> ?_⟩;unfold jn;rw[TD.er];dsimp only;rw[hu,Yq hd,ak.er,esub];simp_all
  .cases h
 .rename_i id;split at h
  .rename_i e T' v st e' l' hu hd;obtain⟨l,p3,k1⟩:=yf.1 h;obtain⟨eT,p3⟩:=ZI p3;subst eT;subst p3;refine⟨l,[],[0+l.length<=l.length],k1,⟨by omega,ao⟩,λyJ=> ?_⟩;unfold jn;rw[(gj hd).1];dsimp only;rw[hu,Yq hd,ak.er];dsimp only;rw[yW (by simp),List.drop_zero, <-yab (f:=T'.enc),yai];simp
  .cases h
 .rename_i hx hx2 hx3;obtain⟨l,h1,h⟩:=yf.1 h;refine⟨l,[],[],h,zZ,λyJ=> ?_⟩;rw[yy];unfold jn;split
  .rename_i e;cases x <;> first|cases e|skip
   grind
  .rename_i e;cases x <;> first|cases e|skip
   all_goals grind
  .rw[ph h1];rfl
structure sC where
 t:Ty
 e:yc
 l:List t.aQ
def IM(H:yL ak)(id:Nat):yO sC:=
 match H[id]? with
 |some (.log t e l)=>ab ⟨t,e,l⟩
 |_=>ae
theorem ZIs{id:Nat}{m:sC}(h:IM H id=ab m):H[id]? =ab (.log m.t m.e m.l):=by
 unfold IM at h
 all_goals grind
def bN(n m b:Nat):Bool:=ah ((n+m)*b<=Zv)&&ah (n+m<=maxLen)
def IN(P:yg)(own row:Bool)(t u:yc)(all:yL TD)(H:yL ak)(K:Kn O)(y:TD):TD->yO O
 |.own id nn T ae=>match P.underlying t with
  |some (.slice e)=>(P.info? e).bind λi=>(IM H id).bind λm=>(Ty.bn m.t T m.l).bind λzs=>sB P T u H (λys hs=>
   if(ca i&&ah (i.size=T.size)&&ah (m.e=e)&&ah (T.size≠0))=af then if bN zs.length ys.length i.bytes=af then
    K (TD.cl (lk H) id all) (.own id ae T ae) ((H.map (ak.stale (lk H) id)).set id (.log T e (zs++ys))) hs 2 else ae else ae) y
  |_=>ae
 |.rv id v s lo n=>match P.underlying t with
  |some (.slice e)=>(P.info? e).bind λi=>(gf P gX e).bind λT=>sB P T u H (λys hs=>if ys.isEmpty=af then
    if(ca i&&ah (P.cellsOf e=T.size))=af then K all (.rv id v s lo n) H (.bare::hs) 2 else ae
   else match H[id]? with
    |some (.row w s' af e' d)=>d.inner.bind λy0=>y0.dy.bind λr=>(Ty.bn r.t T r.l).bind λxs=>
     if(ca i&&ah (i.size=T.size)&&ah (s'=T.size)&&ah (e'=e)&&ah (T.size≠0)&&w==v&&ah (lo=0)&&ah (s=T.size))=af then if(ah (n<=r.n)&&bN n ys.length i.bytes)=af then
      K all (.rv id (v+1) s 0 (n+ys.length)) (H.set id (.row (v+1) s af e (.p (.v (.arr (n+ys.length) T) (xs.take n++ys))))) (.raw::hs) 2 else ae else ae
    |_=>ae) y
  |_=>ae
 |.p (.sl (ab ag) _ [])=>if row then match P.underlying t with
  |some (.slice e)=>(P.info? e).bind λi=>(gf P gX e).bind λT=>(mf (lk H) P T u y).bind λys=>
   if(ca i&&i.size !=0&&ah (i.size=T.size)&&ah (P.cellsOf e=T.size))=af then if lY ys.length i.bytes=af then
    K all (.rv H.length 0 i.size 0 ys.length) (H++[.row 0 i.size af e (.p (.v (.arr ys.length T) ys))]) [.arr] 2 else ae else ae
  |_=>ae else if own then match P.underlying t with
  |some (.slice e)=>(P.info? e).bind λi=>(gf P gX e).bind λT=>(mf (lk H) P T u y).bind λys=>
   if(ca i&&i.size !=0&&ah (i.size=T.size)&&ah (P.cellsOf e=T.size)&&TD.frees H.length all&&H.all (ak.free H.length))=af then if lY ys.length i.bytes=af then
    K all (.own H.length ae T ae) (H++[.log T e ys]) [.own] 2 else ae else ae
  |_=>ae else ae
 |_=>ae
theorem ZNy{id:Nat}{T:Ty}{e:yc}{l:yL T.aQ}(H:yL ak)(h:id < H.length):Yg (lk (H.set id (.log T e l))) id T ae=l:=by
 unfold Yg lk;dsimp only;rw[ycj h];show(Ty.bn T T l).getD []=l;unfold Ty.bn;split
 all_goals grind
theorem sD{L:Lk}{n:Nat}:∀(l:yL TD),(TD.cl L n l).length=l.length
 |[]=>rfl
 |_::r=>by rw[TD.cl,yam,yam,sD r]
def IP(H:yL ak):TD->TD
 |.own id nn T (ab zs)=>match H[id]? with
  |some (.log t e l)=>match Ty.bn t T l with
   |some l'=>if@decide (l'=zs) (@instDecidableEqList T.aQ (Ty.dP T) l' zs)=af then .own id nn T ae else .own id nn T (ab zs)
   |none=>.own id nn T (ab zs)
  |_=>.own id nn T (ab zs)
 |d=>d
theorem ZLz(d:TD):(IP H d).er (lk H)=d.er (lk H):=by
 unfold IP;split
 .rename_i id nn T zs;split
  .rename_i t e l hd;split
   .rename_i l' hc;split
    .rename_i he;have he:=@of_decide_eq_true _ (@instDecidableEqList T.aQ (Ty.dP T) l' zs) he;rw[TD.er,TD.er]
     have:Yg (lk H) id T ae=zs:=by
      unfold Yg lk;dsimp only;rw[hd];show(Ty.bn t T l).getD []=zs;grind
     rw[this];rfl
    .rfl
   .rfl
  .rfl
 .rfl
theorem ZEf{own row:Bool}{t u:yc}{x y:ym}{c:Call}{xd yd:TD}(ho:o.op=.call c)(hc:c.callee=.builtin .append)(ha:c.args.toList=[x,y])(ht:c.argTypes.toList=[t,u])
 (hv:ZB P (TD.aE (lk H) ts) t x=xd.er (lk H)) (hy:bo P ts u y=ab yd) (h:IN P own row t u all H K yd xd=ab out):∃a d H' hs c,K a d H' hs c=ab out/\Good P o ts all H a d H' hs c:=by
 have hw:=Zz (L:=lk H) hy;unfold IN at h;split at h
 .rename_i id nn T;split at h
  .rename_i e hu;obtain⟨i,h1,h⟩:=yf.1 h;obtain⟨m,h2,h⟩:=yf.1 h;obtain⟨zs,h3,h⟩:=yf.1 h;obtain⟨ys,hs,C,k1,k2,k3⟩:=IL h;obtain⟨k4,k6⟩:=Za k1;obtain⟨k5,kk⟩:=Za k6;clear k1 k6;simp only[yi,yP]at k4;obtain⟨⟨⟨g1,g2⟩,g3⟩,g4⟩:=k4;simp only[bN,yi,yP]at k5;have hl:=ZIs h2;obtain⟨mt,me,ml⟩:=m;dsimp only at h3 g3 hl;obtain⟨eT,h3⟩:=ZI h3;subst eT;subst h3;subst g3;have hlt:id < H.length:=(yo.1 hl).1
   have ec:Yg (lk H) id mt ae=zs:=by
    unfold Yg lk;dsimp only;rw[hl];show(Ty.bn mt mt zs).getD []=zs
    all_goals grind
   refine⟨_,_,_,_,_,kk,bT (λid' t hn=>mq (lk H) id' t hn) all,sD all,dK (⟨rfl,λyJ=> ?_,λyJ=> ?_,
    C++[zs.map mt.enc=zs.map mt.enc,((zs.map mt.enc).length+(ys.map mt.enc).length)*i.bytes<=Zv,(zs.map mt.enc).length+(ys.map mt.enc).length<=maxLen],Zr.2 ⟨k2,rfl,by simpa using k5.1,by simpa using k5.2,ao⟩,λyJ=> ?_⟩)⟩
   .unfold be;rw[ho];dsimp only;rw[hc];dsimp only;rw[ha,ht];split
    .rename_i e1 e2 e3;simp only[List.cons.injEq,and_true]at e1 e2;obtain⟨rfl,rfl⟩:=e1;obtain⟨rfl,rfl⟩:=e2;rw[hu,hv];rfl
    .rfl
   .unfold bB;grind
   .unfold cx;rw[ho];dsimp only;rw[hc];dsimp only;rw[ha,ht];dsimp only;rw[hu,hv,hw];dsimp only[TD.er];rw[ec,h1,k3 yJ,Yq hl];dsimp only[ak.er];rw[yW (by simp[g1,g2,g4]),ZNs,ZNy _ (by rw[yab];exact hlt),yao]
  .cases h
 .rename_i id v s lo n;split at h
  .rename_i e hu;obtain⟨i,h1,h⟩:=yf.1 h;obtain⟨T,h2,h⟩:=yf.1 h;obtain⟨ys,hs,C,k1,k2,k3⟩:=IL h
   have nN:∀hs,be P o (TD.aE (lk H) ts) hs=ae:=λhs=>by
    unfold be;rw[ho];dsimp only;rw[hc];dsimp only;rw[ha,ht]
    cases hs with
    |nil=>rfl
    |cons h0 hr=>cases h0 <;> first|rfl|(dsimp only;rw[hu,hv];rfl)
   have nR:∀hs,bB P o (TD.aE (lk H) ts) (aG H) hs=ae:=λhs=>by
    unfold bB;grind
   split at k1
   .rename_i hemp;obtain⟨k4,k5⟩:=Za k1;simp only[yi,yP]at k4;have hys:ys=[]:=by simpa using hemp
    refine⟨_,_,_,_,_,k5,rfl,rfl,dK (⟨rfl,λyJ=>nN _,λyJ=>nR _,C++[ys.map T.enc=[]],Zr.2 ⟨k2,by rw[hys];rfl,ao⟩,λyJ=> ?_⟩)⟩;unfold cx;rw[ho];dsimp only;rw[hc];dsimp only;rw[ha,ht];dsimp only;rw[hu,hv,hw];dsimp only[TD.er];grind
   .split at k1
    .rename_i w s' e' d hd;obtain⟨y0,p1,q1⟩:=yf.1 k1;obtain⟨r,p2,q2⟩:=yf.1 q1;obtain⟨xs,p3,q3⟩:=yf.1 q2;obtain⟨p4,q4⟩:=Za q3;obtain⟨p5,q5⟩:=Za q4;simp only[yi,yP,yT]at p4;obtain⟨⟨⟨⟨⟨⟨⟨g1,g2⟩,g3⟩,g4⟩,g5⟩,g6⟩,g7⟩,g8⟩:=p4;simp only[bN,yi,yP]at p5
     have esub:d.er (lk H)=.p (.arr r.n T.size (xs.map T.enc)):=by
      rw[Wv p1,TD.er,gY p2];obtain⟨e,p3⟩:=ZI p3;grind
     refine⟨_,_,_,_,_,q5,mv hd rfl rfl,rfl,dK (⟨rfl,λyJ=>nN _,λyJ=>nR _,C++[n<=r.n,(n+(ys.map T.enc).length)*i.bytes<=Zv,n+(ys.map T.enc).length<=maxLen,af=af\/n=r.n],
      Zr.2 ⟨k2,p5.1,by simpa using p5.2.1,by simpa using p5.2.2,.inl rfl,ao⟩,λyJ=> ?_⟩)⟩
     unfold cx;rw[ho];dsimp only;rw[hc];dsimp only;rw[ha,ht];dsimp only;rw[hu,hv,hw];dsimp only[TD.er];rw[yae];dsimp only;rw[h1,g8,k3 yJ,Yq hd,ak.er,esub];dsimp only;rw[yW (by simp[g1,g2,g3,g4,g5,g6,g7]),Ql (gE hd rfl rfl)];simp only[ak.er,TD.er,TP.pe,FH,yab,yao,yck]
    .cases k1
  .cases h
 .rename_i T0;split at h
  .split at h
   .rename_i e hu;obtain⟨i,h1,h⟩:=yf.1 h;obtain⟨T,h2,h⟩:=yf.1 h;obtain⟨ys,h3,h⟩:=yf.1 h;obtain⟨k4,h⟩:=Za h;obtain⟨k5,h⟩:=Za h;simp only[yi,yP]at k4;obtain⟨⟨⟨g1,g2⟩,g3⟩,g4⟩:=k4;obtain⟨g7,g8⟩:=lZ k5;refine⟨_,_,_,_,_,h,sw rfl,rfl,dK (⟨rfl,λyJ=> ?_,λyJ=> ?_,[(ys.map T.enc).length*i.bytes<=Zv,(ys.map T.enc).length<=maxLen],⟨by rw[yab];exact g7,by rw[yab];exact g8,ao⟩,λyJ=> ?_⟩)⟩
    .unfold be;grind
    .unfold bB;grind
    .unfold cx;rw[ho];dsimp only;rw[hc];dsimp only;rw[ha,ht];dsimp only;rw[hu,hv,hw,show(TD.p (TP.sl (ab ag) T0 [])).er (lk H)=Dv.p (.sl (ab ag) T0.size []) from rfl]
     dsimp only;rw[h1,g4,ph h3,yae,yy];dsimp only;rw[yW (by simp only[yi];exact⟨g1,g2⟩),pj (nU rfl),ZQ];simp only[ak.er,TD.er,TP.pe,FH,yab,g3]
   .cases h
  split at h
  .split at h
   .rename_i e hu;obtain⟨i,h1,h⟩:=yf.1 h;obtain⟨T,h2,h⟩:=yf.1 h;obtain⟨ys,h3,h⟩:=yf.1 h;obtain⟨k4,h⟩:=Za h;obtain⟨k5,h⟩:=Za h;simp only[yi,yP]at k4;obtain⟨⟨⟨⟨⟨g1,g2⟩,g3⟩,g4⟩,g5⟩,g6⟩:=k4;obtain⟨g7,g8⟩:=lZ k5;refine⟨_,_,_,_,_,h,pn g5,rfl,dK (⟨rfl,λyJ=> ?_,λyJ=> ?_,[(ys.map T.enc).length*i.bytes<=Zv,(ys.map T.enc).length<=maxLen],⟨by rw[yab];exact g7,by rw[yab];exact g8,ao⟩,λyJ=> ?_⟩)⟩
    .unfold be;grind
    .unfold bB;grind
    .unfold cx;rw[ho];dsimp only;rw[hc];dsimp only;rw[ha,ht];dsimp only;rw[hu,hv,hw,show(TD.p (TP.sl (ab ag) T0 [])).er (lk H)=Dv.p (.sl (ab ag) T0.size []) from rfl]
     dsimp only;rw[h1,g4,ph h3,yae,yy];dsimp only;rw[yW (by simp only[yi];exact⟨g1,g2⟩),ZJ1 g6,ZQ,TD.er,sx,g3]
   .cases h
  .cases h
 .cases h
def IQ(P:yg)(t u:yc)(all:yL TD)(H:yL ak)(K:Kn O)(y:TD):TD->yO O
 |.view id yM s lo n=>match P.underlying t,H[id]? with
  |some (.slice e),ab (.var d af)=>eZ (lk H) yM d λsub hs put=>sub.inner.bind λy0=>y0.dy.bind λr=>(mf (lk H) P r.t u y).bind λys=>
   (put (.p (.v (.arr r.n r.t) (r.l.take lo++(ys++r.l.drop (lo+ys.length)))))).bind λd'=>
     if(ah (r.t.size=s)&&ah (P.cellsOf e=s)&&(P.info? e).isSome&&ah (ys.length<=n)&&ah (lo+n<=r.n))=af then K all (.p (.v (.int .i64) (ys.length:Int))) (H.set id (.var d' af)) hs 2 else ae
  |_,_=>ae
 |_=>ae
theorem ZIu{t u:yc}{x y:ym}{c:Call}{xd yd:TD}(ho:o.op=.call c)(hc:c.callee=.builtin .copy)(ha:c.args.toList=[x,y])(ht:c.argTypes.toList=[t,u])
 (hx:bo P ts t x=ab xd) (hy:bo P ts u y=ab yd) (h:IQ P t u all H K yd xd=ab out):∃a d H' hs c,K a d H' hs c=ab out/\Good P o ts all H a d H' hs c:=by
 have hv:=Zz (L:=lk H) hx;have hw:=Zz (L:=lk H) hy;unfold IQ at h;split at h
 .rename_i id yM s lo n;split at h
  .rename_i e d hu hd;obtain⟨sub,hs,put,C,k1,k2,k3,k4⟩:=WZ _ _ _ _ h;obtain⟨y0,p1,k1⟩:=yf.1 k1;obtain⟨r,p2,k1⟩:=yf.1 k1;obtain⟨ys,p3,k1⟩:=yf.1 k1;obtain⟨d',p4,k1⟩:=yf.1 k1;obtain⟨p5,k1⟩:=Za k1;simp only[yi,yP]at p5;obtain⟨⟨⟨⟨g1,g2⟩,g3⟩,g4⟩,g5⟩:=p5;have esub:sub.er (lk H)=.p (.arr r.n r.t.size (r.l.map r.t.enc)):=by rw[Wv p1,TD.er,gY p2]
   refine⟨_,_,_,_,_,k1,mv hd rfl rfl,rfl,dK (⟨rfl,λyJ=> ?_,λyJ=> ?_,C++[eI yM=Qj yM,(ys.map r.t.enc).length<=n,lo+n<=r.n],Zr.2 ⟨k2,(VN _).symm,by rw[yab];exact g4,g5,ao⟩,λyJ=> ?_⟩)⟩
   .unfold be;rw[ho];dsimp only;rw[hc]
   .unfold bB;rw[ho];dsimp only;rw[hc]
   .unfold cx;rw[ho];dsimp only;rw[hc];dsimp only;rw[ha,ht];dsimp only;rw[hu,hv,hw];dsimp only[TD.er];rw[<-g1,ph p3,Yq hd];dsimp only[ak.er];rw[k3 yJ,esub];dsimp only;have:=k4 _ _ p4 yJ
    have e1:(TD.p (.v (.arr r.n r.t) (r.l.take lo++(ys++r.l.drop (lo+ys.length))))).er (lk H)=.p (.arr r.n r.t.size (oL (r.l.map r.t.enc) (ys.map r.t.enc) lo)):=by
     show Dv.p (Pl.arr r.n r.t.size ((r.l.take lo++(ys++r.l.drop (lo+ys.length))).map r.t.enc))=_;unfold oL;simp_all
    rw[e1]at this;rw[this];dsimp only;rw[yW (by simp only[yi,yP];exact⟨⟨zZ,by rw[g1];exact g2⟩,g3⟩),Ql (gE hd rfl rfl),yab];rfl
  .cases h
 .cases h
def IR(H:yL ak)(id:Nat):Bool:=
 match H[id]? with
 |some (.var _ ag)=>af
 |_=>ag
def IS(P:yg)(t:yc)(lo hi:yO Int)(all:yL TD)(H:yL ak)(K:Kn O):TD->yO O
 |.am id yM=>match P.underlying t with
  |some (.array n e)=>(nW H id).bind λd=>eZ (lk H) yM d λsub hs _=>sub.inner.bind λy=>y.dy.bind λr=>
   if(ah (n=r.n)&&okB P e r.t.size&&ah (n<=maxLen))=af then if Q0 n lo hi=af then(if IR H id=af then K all (.p (.sl (ab af) r.t (QX r.l lo hi))) H (.cK::hs) 1 else
    K all (.p (.sl (ab af) r.t (QX r.l lo hi))) (H.set id (.var d ag)) (.cK::hs) 2) else ae else ae
  |_=>ae
 |_=>ae
theorem ZLA{t:yc}{x:ym}{lo hi:yO ym}{l h':yO Int}{xd:TD}(ho:o.op=.slice t x lo hi ae)(hx:bo P ts t x=ab xd)(hl:fh P ts lo=ab l)(hh:fh P ts hi=ab h')
 (h:IS P t l h' all H K xd=ab out):∃a d H' hs c,K a d H' hs c=ab out/\Good P o ts all H a d H' hs c:=by
 have hv:=Zz (L:=lk H) hx;have hl:=js (L:=lk H) hl;have hh:=js (L:=lk H) hh;unfold IS at h;split at h
 .rename_i id yM;split at h
  .rename_i n e hu;obtain⟨d,h1,h⟩:=yf.1 h;obtain⟨st,h2,h3⟩:=ss h1;obtain⟨sub,hs,put,C,k1,k2,k3,_⟩:=WZ _ _ _ _ h;obtain⟨y,p1,k1⟩:=yf.1 k1;obtain⟨r,p2,k1⟩:=yf.1 k1;obtain⟨p4,k1⟩:=Za k1;obtain⟨p5,k1⟩:=Za k1;have esub:sub.er (lk H)=.p (.arr r.n r.t.size (r.l.map r.t.enc)):=by rw[Wv p1,TD.er,gY p2]
   have nN:∀yJ,be P o (TD.aE (lk H) ts) (.cK::hs++yJ)=ae:=λyJ=>by
    unfold be;rw[ho];dsimp only;rw[hu,hv,hl,hh];rfl
   split at k1
   .rename_i hst
    have hst':st=ag:=by
     unfold IR at hst;grind
    subst hst';refine⟨_,_,_,_,_,k1,rfl,rfl,.inr (.inl ⟨rfl,rfl,nN,C++[eI yM=Qj yM]++XD n l h',Zr.2 ⟨Zr.2 ⟨k2,(VN _).symm,ao⟩,nQ p5⟩,λyJ=> ?_⟩)⟩;unfold bB;rw[ho];dsimp only;rw[hu,hv,hl,hh];dsimp only[TD.er];rw[yae];dsimp only;rw[h3];dsimp only;rw[k3 yJ,esub];dsimp only;rw[yW (by simpa[okB,and_assoc] using p4),TP.pe,vZ]
   rename_i hst
   have hst':st=af:=by
    unfold IR at hst;grind
   subst hst';refine⟨_,_,_,_,_,k1,mv h2 rfl rfl,rfl,dK (⟨rfl,nN,λyJ=> ?_,C++[eI yM=Qj yM]++XD n l h',Zr.2 ⟨Zr.2 ⟨k2,(VN _).symm,ao⟩,nQ p5⟩,λyJ=> ?_⟩)⟩
   .unfold bB;rw[ho];dsimp only;rw[hu,hv,hl,hh];dsimp only[TD.er];grind
   .unfold cx;rw[ho];dsimp only;rw[hu,hv,hl,hh];dsimp only[TD.er];rw[yae];dsimp only;rw[h3];dsimp only;rw[k3 yJ,esub];dsimp only;rw[yW (by simpa[okB,and_assoc] using p4),Ql (gE h2 rfl rfl),TP.pe,vZ];rfl
  .cases h
 .cases h
def wy(dst:Tmp)(all:yL TD)(H:yL ak)(K:Kn O):TD->yO O
 |.view id yM s lo n=>(nW H id).bind λd=>eZ (lk H) yM d λsub hs _=>sub.inner.bind λy=>y.dy.bind λr=>
  if(ah (r.t.size=s))=af then if(ah (lo+n<=r.n))=af then K all (.p (.sl (ab af) r.t ((r.l.drop lo).take n))) (H.set id (.var d ag)) (.still dst::hs) 2 else ae else ae
 |.rv id v s lo n=>match H[id]? with
  |some (.row w s' _ e d)=>d.inner.bind λy=>y.dy.bind λr=>
   if(ah (r.t.size=s)&&ah (s'=s)&&w==v)=af then if(ah (lo+n<=r.n))=af then K all (.p (.sl ae r.t ((r.l.drop lo).take n))) (H.set id (.row v s ag e d)) [.still dst] 2 else ae else ae
  |_=>ae
 |_=>ae
theorem ZGp{dst:Tmp}{xd:TD}(h:wy dst all H K xd=ab out):∃a d H' hs,K a d H' (.still dst::hs) 2=ab out/\TD.aE (lk H') a=TD.aE (lk H) all/\a.length=all.length/\
 ∃C,ba C/\∀yJ,jo (xd.er (lk H)) (aG H) (hs++yJ)=ab (C,d.er (lk H'),aG H',yJ):=by
 unfold wy at h;split at h
 .rename_i id yM s lo n;obtain⟨d,h1,h⟩:=yf.1 h;obtain⟨st,h2,h3⟩:=ss h1;obtain⟨sub,hs,put,C,k1,k2,k3,_⟩:=WZ _ _ _ _ h;obtain⟨y,p1,k1⟩:=yf.1 k1;obtain⟨r,p2,k1⟩:=yf.1 k1;obtain⟨p4,k1⟩:=Za k1;obtain⟨p5,k1⟩:=Za k1;have p4:=yF p4;have p5:=yF p5;have esub:sub.er (lk H)=.p (.arr r.n r.t.size (r.l.map r.t.enc)):=by rw[Wv p1,TD.er,gY p2]
  refine⟨_,_,_,_,k1,mv h2 rfl rfl,rfl,C++[eI yM=Qj yM,lo+n<=r.n],Zr.2 ⟨k2,(VN _).symm,p5,ao⟩,λyJ=> ?_⟩;unfold jo;rw[show(TD.view id yM s lo n).er (lk H)=Dv.view id (Qj yM) (yM.map bX.i) s lo n from rfl]
  try dsimp only
  rw[h3]
  try dsimp only
  rw[k3 yJ,esub]
  try dsimp only
  rw[yW p4,Ql (gE h2 rfl rfl),TD.er,TP.pe,yck,List.map_drop,p4]
  try rfl
 .rename_i id v s lo n;split at h
  .rename_i w s' st e d hd;obtain⟨y,p1,k1⟩:=yf.1 h;obtain⟨r,p2,k1⟩:=yf.1 k1;obtain⟨p4,k1⟩:=Za k1;obtain⟨p5,k1⟩:=Za k1;simp only[yi,yP]at p4;have p5:=yF p5;have esub:d.er (lk H)=.p (.arr r.n r.t.size (r.l.map r.t.enc)):=by rw[Wv p1,TD.er,gY p2]
   refine⟨_,_,_,[],k1,mv hd rfl rfl,rfl,[lo+n<=r.n],⟨p5,ao⟩,λyJ=> ?_⟩;rw[yy];unfold jo;rw[show(TD.rv id v s lo n).er (lk H)=Dv.rv id v s lo n from rfl]
   dsimp only;rw[Yq hd,ak.er,esub];dsimp only;rw[yW (by simp[p4]),Ql (gE hd rfl rfl),ak.er,esub,TD.er,TP.pe,yck,List.map_drop,p4.1.1]
  .cases h
 .cases h
theorem ZGq{x:ym}{dst:Tmp}{xd:TD}(ho:o.op=.assign x\/o.op=.move x)(hd:o.dst=ab dst)(hx:bo P ts o.type x=ab xd)(h:wy dst all H K xd=ab out):
 ∃a d H' hs c,K a d H' hs c=ab out/\Good P o ts all H a d H' hs c:=by
 have hv:=Zz (L:=lk H) hx;obtain⟨a,d,H',hs,k1,k2,k3,C,k4,k5⟩:=ZGp h;refine⟨_,_,_,_,_,k1,k2,k3,dK (⟨rfl,λyJ=> ?_,λyJ=> ?_,C,k4,λyJ=> ?_⟩)⟩
 .rcases ho with ho|ho <;> (unfold be;rw[ho];rfl)
 .rcases ho with ho|ho <;> (unfold bB;rw[ho])
 .rcases ho with ho|ho
  .unfold cx;grind
  .unfold cx;grind
def TD.jv:TD->Bool
 |.rw _=>af
 |_=>ag
def TD.sE:TD->Bool
 |.rp _ _=>af
 |_=>ag
theorem ZJ4{id:Nat}{T:Ty}{v:yL Unit}{st st':Bool}{e e':yc}{l l':yL T.aQ}(hd:H[id]? =ab (.aW T v st e l))(hl:l'.length=l.length):lk (H.set id (.aW T v st' e' l'))=lk H:=by
 funext j;unfold lk;by_cases hj:id=j
 .subst hj;rw[an hd,hd];show ab _=ab _;rw[hl]
 grind
def IT(P:yg)(t:yc)(i:Int)(all:yL TD)(H:yL ak)(K:Kn O):TD->yO O
 |.rw id=>match P.underlying t,H[id]? with
  |some (.slice e),ab (.aW T v st e' l)=>if okB P e T.size=af then if aS i l.length=af then K all (.rp id [.ix i.toNat T.size]) H [] 0 else ae else ae
  |_,_=>ae
 |_=>ae
theorem ZEi{t:yc}{x ix:ym}{xd:TD}{q:IntKind×Int}{ip:TP}(ho:o.op=.indexAddr t x ix)(hx:bo P ts t x=ab xd)(hi:bo P ts 0 ix=ab (.p ip))(hq:kX ip=ab q)(h:IT P t q.2 all H K xd=ab out):
 ∃a d H' hs c,K a d H' hs c=ab out/\Good P o ts all H a d H' hs c:=by
 have hv:=Zz (L:=lk H) hx;have hw:=Zz (L:=lk H) hi;rw[TD.er,(vU hq).1]at hw;unfold IT at h;split at h
 .rename_i id;split at h
  .rename_i e T v st e' l hu hd;obtain⟨h3,h⟩:=Za h;obtain⟨h4,h⟩:=Za h;refine⟨_,_,_,_,_,h,rfl,rfl,.inl ⟨rfl,rfl,[0<=q.2,q.2 < (l.length:Int)],⟨(iT h4).1,(iT h4).2,ao⟩,λyJ=> ?_⟩⟩;simp only[yy];unfold be;rw[ho];dsimp only;rw[hu,hv,hw,(gj hd).1,(gj hd).2];dsimp only;rw[yW (by simpa[okB] using h3)];simp[Qj,bX.o,bX.i]
  .cases h
 .cases h
def IU(P:yg)(t:yc)(all:yL TD)(H:yL ak)(K:Kn O):TD->yO O
 |.rw id=>match P.underlying t,H[id]? with
  |some (.slice _),ab (.aW T v st e' l)=>K all (.p (.v (.int .i64) (l.length:Int))) H [] 0
  |_,_=>ae
 |_=>ae
theorem ZIw{t:yc}{x:ym}{c:Call}{xd:TD}(ho:o.op=.call c)(hc:c.callee=.builtin .len)(ha:c.args.toList=[x])(ht:c.argTypes.toList=[t])(hx:bo P ts t x=ab xd)(h:IU P t all H K xd=ab out):
 ∃a d H' hs c,K a d H' hs c=ab out/\Good P o ts all H a d H' hs c:=by
 have hv:=Zz (L:=lk H) hx;unfold IU at h;split at h
 .rename_i id;split at h
  .rename_i e T v st e' l hu hd;refine⟨_,_,_,_,_,h,rfl,rfl,.inl ⟨rfl,rfl,[],zZ,λyJ=> ?_⟩⟩;simp only[yy];unfold be;rw[ho];dsimp only;rw[hc];dsimp only;rw[ha,ht];dsimp only;rw[hu,hv,(gj hd).1];rfl
  .cases h
 .cases h
def IV(P:yg)(t:yc)(all:yL TD)(H:yL ak)(K:Kn O):TD->yO O
 |.rp id yM=>match H[id]? with
  |some (.aW T v st e l)=>eZ (lk H) yM (.p (.v (.arr l.length T) l)) λsub hs _=>if gR P t (sub.er (lk H))=af then K all sub H hs 1 else ae
  |_=>ae
 |_=>ae
theorem ZGr{t:yc}{x:ym}{xd:TD}(ho:o.op=.load t x)(hx:bo P ts 0 x=ab xd)(h:IV P t all H K xd=ab out):∃a d H' hs c,K a d H' hs c=ab out/\Good P o ts all H a d H' hs c:=by
 have hv:=Zz (L:=lk H) hx;unfold IV at h;split at h
 .rename_i id yM;split at h
  .rename_i T v st e l hd;obtain⟨sub,hs,put,C,k1,k2,k3,_⟩:=WZ _ _ _ _ h;obtain⟨k4,k5⟩:=Za k1;refine⟨_,_,_,_,_,k5,rfl,rfl,.inr (.inl ⟨rfl,rfl,λyJ=> ?_,C++[eI yM=Qj yM],Zr.2 ⟨k2,(VN _).symm,ao⟩,λyJ=> ?_⟩)⟩
   .unfold be;rw[ho];dsimp only;rw[hv];rfl
   .unfold bB;rw[ho];dsimp only;rw[hv,(gj hd).2];dsimp only;rw[Yq hd];dsimp only[ak.er];have k6:Yy (.p (.arr l.length T.size (l.map T.enc))) (yM.map bX.i) (hs++yJ)=ab (C,eI yM,sub.er (lk H),yJ):=k3 yJ;grind
  .cases h
 .cases h
def IW(P:yg)(t:yc)(all:yL TD)(H:yL ak)(K:Kn O)(v:TD):TD->yO O
 |.rp id (.ix i s::r)=>match H[id]? with
  |some (.aW T u af e l)=>if s=T.size then(l[i]?).bind λy=>eZ (lk H) r (.p (.v T y)) λsub hs put=>(put (v.cw (lk H))).bind λd1=>d1.inner.bind λz=>(TP.to kW z T).bind λy'=>
   if po P t ((v.cw (lk H)).er (lk H)) (sub.er (lk H))=af then K all .aA (H.set id (.aW T u af e (l.set i y'))) (.el (T.enc y)::hs) 2 else ae else ae
  |_=>ae
 |_=>ae
theorem ZEk{t:yc}{x y:ym}{xd yd:TD}(ho:o.op=.store t x y)(hx:bo P ts 0 x=ab xd)(hy:bo P ts t y=ab yd)(h:IW P t all H K yd xd=ab out):
 ∃a d H' hs c,K a d H' hs c=ab out/\Good P o ts all H a d H' hs c:=by
 have hv:=Zz (L:=lk H) hx;have hw:=Zz (L:=lk H) hy;unfold IW at h;split at h
 .rename_i id i s r;split at h
  .rename_i T u e l hd;split at h
   .rename_i hs0;obtain⟨y0,h2,h⟩:=yf.1 h;obtain⟨sub,hs,put,C,k1,k2,k3,k4⟩:=WZ r (.p (.v T y0)) _ out h;obtain⟨d1,p1,k1⟩:=yf.1 k1;obtain⟨z,p2,k1⟩:=yf.1 k1;obtain⟨y',p3,k1⟩:=yf.1 k1;obtain⟨h4,k1⟩:=Za k1;have h4':=h4;unfold po at h4';have hL:lk (H.set id (.aW T u af e (l.set i y')))=lk H:=ZJ4 hd (by rw[List.length_set])
    have hg:∀yJ,Yy (.p (.arr l.length T.size (l.map T.enc))) (i::r.map bX.i) (.el (T.enc y0)::(hs++yJ))=ab (((l.map T.enc)[i]? =ab (T.enc y0))::C,i*T.size+eI r,sub.er (lk H),yJ):=by
     intro yJ;unfold Yy;dsimp only;have:=k3 yJ;rw[TD.er,TP.pe]at this;grind
    have hp:∀yJ,VS ((yd.cw (lk H)).er (lk H)) (.p (.arr l.length T.size (l.map T.enc))) (i::r.map bX.i) (.el (T.enc y0)::(hs++yJ))=ab (.p (.arr l.length T.size ((l.set i y').map T.enc))):=by
     intro yJ;have:=k4 _ d1 p1 yJ;rw[TD.er,TP.pe]at this;unfold VS;dsimp only;rw[this,Wv p2,TD.er];dsimp only;rw[nO z T y' p3, <-ybp]
    refine⟨_,_,_,_,_,k1,by rw[hL],rfl,dK (⟨rfl,λyJ=> ?_,λyJ=> ?_,(((l.map T.enc)[i]? =ab (T.enc y0))::C)++[i*T.size+eI r=Qj (.ix i s::r)],
     Zr.2 ⟨⟨rT h2,k2⟩,by rw[VN,eI,bX.o,hs0],ao⟩,λyJ=> ?_⟩)⟩
    .unfold be;rw[ho]
    .unfold bB;rw[ho]
    .unfold cx;rw[ho];dsimp only;rw[hv,hw,(gj hd).2];dsimp only;rw[Yq hd];dsimp only[ak.er];rw[yag,show(bX.ix i s).i=i from rfl,yae,hg yJ]
     dsimp only;have hst:jm (i::r.map bX.i) (.p (.arr l.length T.size (l.map T.enc))) (yd.er (lk H))=ab ((yd.cw (lk H)).er (lk H)):=II (yM:=.ix i s::r) (d:=.p (.v (.arr l.length T) l)) (v:=yd) (new:=yd.cw (lk H)) (L:=lk H) rfl;rw[hst];dsimp only;rw[hp yJ];dsimp only;rw[yW (by simp only[yi]at h4' ⊢;exact⟨⟨h4',by simp⟩,by simp[aY]⟩),Ql hL];simp only[ak.er,List.length_set];rfl
   .cases h
  .cases h
 .cases h
def IX(dst:Tmp)(all:yL TD)(H:yL ak)(K:Kn O):TD->yO O
 |.rw id=>match H[id]? with
  |some (.aW T v st e l)=>K all (.p (.sl ae T l)) (H.set id (.aW T v ag e l)) [.still dst] 2
  |_=>ae
 |_=>ae
theorem ZEm{x:ym}{dst:Tmp}{xd:TD}(ho:o.op=.assign x\/o.op=.move x)(hd:o.dst=ab dst)(hx:bo P ts o.type x=ab xd)(h:IX dst all H K xd=ab out):
 ∃a d H' hs c,K a d H' hs c=ab out/\Good P o ts all H a d H' hs c:=by
 have hv:=Zz (L:=lk H) hx;unfold IX at h;split at h
 .rename_i id;split at h
  .rename_i T v st e l hr;have hL:lk (H.set id (.aW T v ag e l))=lk H:=ZJ4 hr rfl
   have k5:∀yJ,jo ((TD.rw id).er (lk H)) (aG H) yJ=ab ([0+l.length<=l.length],.p (.sl ae T.size (l.map T.enc)),aG (H.set id (.aW T v ag e l)),yJ):=by
    intro yJ;unfold jo;rw[(gj hr).1];dsimp only;rw[Yq hr,ak.er];dsimp only;rw[yW (by simp),Ql hL,ak.er,List.drop_zero, <-yab (f:=T.enc),yai]
   refine⟨_,_,_,_,_,h,by rw[hL],rfl,dK (⟨rfl,λyJ=> ?_,λyJ=> ?_,[0+l.length<=l.length],⟨by omega,ao⟩,λyJ=> ?_⟩)⟩
   .rcases ho with ho|ho <;> (unfold be;rw[ho];rfl)
   .rcases ho with ho|ho <;> (unfold bB;rw[ho])
   .rcases ho with ho|ho
    .unfold cx;rw[ho];dsimp only;rw[yae];dsimp only;rw[yW hd,hv];exact k5 yJ
    .unfold cx;rw[ho];dsimp only;rw[yae];dsimp only;rw[yW hd,hv];exact k5 yJ
  .cases h
 .cases h
theorem ZGs{L M:Lk}{n:Nat}(h:∀id t,id≠n->Yg L id t ae=Yg M id t ae)(x:ak)(hf:x.free n=af):x.er L=x.er M:=by
 cases x with
 |var d st=>rw[ak.er,ak.er,la h d hf]
 |row v s st e d=>rw[ak.er,ak.er,la h d hf]
 |bR t np v st e pre d post=>rw[ak.er,ak.er,la h d hf]
 |_=>rfl
theorem wz{T:Ty}{v:yL Unit}{st:Bool}{e:yc}{l:yL T.aQ}(h:H.all (ak.free H.length)=af):aG (H++[.aW T v st e l])=aG H++[.row v.length T.size st e (.p (.arr l.length T.size (l.map T.enc)))]:=by
 unfold aG;rw[yao];congr 1;refine ycn λx hx=> ?_;have hf:=ybx.1 h x hx;exact(ZGs (λid t hn=>mh id t hn) x hf).symm
theorem wA{T:Ty}{v:yL Unit}{st:Bool}{e:yc}{l:yL T.aQ}:(TD.rw H.length).er (lk (H++[.aW T v st e l]))=.rv H.length v.length T.size 0 l.length:=
 (gj (H:=H++[.aW T v st e l]) (List.getElem?_concat_length ..)).1
def IY(P:yg)(row:Bool)(t u:yc)(all:yL TD)(H:yL ak)(K:Kn O)(y:TD):TD->yO O
 |.rw id=>match P.underlying t,H[id]? with
  |some (.slice e),ab (.aW T v st e' l)=>(P.info? e).bind λi=>sB P T u H (λys hs=>
   if(ca i&&ah (i.size=T.size)&&ah (P.cellsOf e=T.size)&&ah (e'=e)&&ah (T.size≠0))=af then if bN l.length ys.length i.bytes=af then
    K (TD.cl (lk H) id all) (.rw id) ((H.map (ak.stale (lk H) id)).set id (.aW T (()::v) st e (l++ys))) (.raw::hs) 2 else ae else ae) y
  |_,_=>ae
 |.p (.sl (ab ag) _ [])=>match P.underlying t with
  |some (.slice e)=>(P.info? e).bind λi=>(gf P gX e).bind λT=>(mf (lk H) P T u y).bind λys=>
   if(ca i&&i.size !=0&&ah (i.size=T.size)&&ah (P.cellsOf e=T.size)&&TD.frees H.length all&&H.all (ak.free H.length))=af then if lY ys.length i.bytes=af then
    K all (.rw H.length) (H++[.aW T [] af e ys]) [.arr] 2 else ae else ae
  |_=>ae
 |_=>ae
theorem ZBD{row:Bool}{t u:yc}{x y:ym}{c:Call}{xd yd:TD}(ho:o.op=.call c)(hc:c.callee=.builtin .append)(ha:c.args.toList=[x,y])(ht:c.argTypes.toList=[t,u])
 (hv:ZB P (TD.aE (lk H) ts) t x=xd.er (lk H)) (hy:bo P ts u y=ab yd) (h:IY P row t u all H K yd xd=ab out):∃a d H' hs c,K a d H' hs c=ab out/\Good P o ts all H a d H' hs c:=by
 have hw:=Zz (L:=lk H) hy;unfold IY at h;split at h
 .rename_i id;split at h
  .rename_i e T v st e' l hu hd;obtain⟨i,h1,h⟩:=yf.1 h;obtain⟨ys,hs,C,k1,k2,k3⟩:=IL h;obtain⟨k4,k6⟩:=Za k1;obtain⟨k5,kk⟩:=Za k6;clear k1 k6;simp only[yi,yP]at k4;obtain⟨⟨⟨⟨g1,g2⟩,g3⟩,g4⟩,g5⟩:=k4;subst g4;simp only[bN,yi,yP]at k5;have hlt:id < H.length:=(yo.1 hd).1
   refine⟨_,_,_,_,_,kk,bT (λid' t hn=>mq (lk H) id' t hn) all,sD all,dK (⟨rfl,λyJ=> ?_,λyJ=> ?_,
    C++[l.length<=l.length,(l.length+(ys.map T.enc).length)*i.bytes<=Zv,l.length+(ys.map T.enc).length<=maxLen,st=af\/l.length=l.length],Zr.2 ⟨k2,yj _,by simpa using k5.1,by simpa using k5.2,.inr rfl,ao⟩,λyJ=> ?_⟩)⟩
   .unfold be;grind
   .unfold bB;grind
   .unfold cx;rw[ho];dsimp only;rw[hc];dsimp only;rw[ha,ht];dsimp only;rw[hu,hv,hw,(gj hd).1];rw[yae];dsimp only;rw[h1,k3 yJ,Yq hd];dsimp only[ak.er]
    have hnew:((H.map (ak.stale (lk H) id)).set id (.aW T (()::v) st e' (l++ys)))[id]? =ab (.aW T (()::v) st e' (l++ys)):=by
     grind
    have hH:aG ((H.map (ak.stale (lk H) id)).set id (.aW T (()::v) st e' (l++ys)))=(aG H).set id (.row (v.length+1) T.size st e' (.p (.arr (l.length+ys.length) T.size (l.map T.enc++ys.map T.enc)))):=by
     unfold aG;rw[ybp,ybf]
     have:(ak.aW T (()::v) st e' (l++ys)).er (lk ((H.map (ak.stale (lk H) id)).set id (.aW T (()::v) st e' (l++ys))))=.row (v.length+1) T.size st e' (.p (.arr (l.length+ys.length) T.size (l.map T.enc++ys.map T.enc))):=by
      simp only[ak.er,yam,yl,yao]
     rw[this];congr 1;refine ycn λx hx=> ?_;exact wn (λid t hn=>mq (lk H) id t hn) x
    rw[yW (by simp[g1,g2,g5]),hH,(gj hnew).1];simp only[yab,yam,yl];rw[show(l.map T.enc).take l.length=l.map T.enc by rw[<-yab (f:=T.enc),yai]]
  .cases h
 .rename_i T0;split at h
  .rename_i e hu;obtain⟨i,h1,h⟩:=yf.1 h;obtain⟨T,h2,h⟩:=yf.1 h;obtain⟨ys,h3,h⟩:=yf.1 h;obtain⟨k4,h⟩:=Za h;obtain⟨k5,h⟩:=Za h;simp only[yi,yP]at k4;obtain⟨⟨⟨⟨⟨g1,g2⟩,g3⟩,g4⟩,g5⟩,g6⟩:=k4;obtain⟨g7,g8⟩:=lZ k5;refine⟨_,_,_,_,_,h,pn g5,rfl,dK (⟨rfl,λyJ=> ?_,λyJ=> ?_,[(ys.map T.enc).length*i.bytes<=Zv,(ys.map T.enc).length<=maxLen],⟨by rw[yab];exact g7,by rw[yab];exact g8,ao⟩,λyJ=> ?_⟩)⟩
   .unfold be;grind
   .unfold bB;grind
   .unfold cx;rw[ho];dsimp only;rw[hc];dsimp only;rw[ha,ht];dsimp only;rw[hu,hv,hw,show(TD.p (TP.sl (ab ag) T0 [])).er (lk H)=Dv.p (.sl (ab ag) T0.size []) from rfl]
    dsimp only;rw[h1,g4,ph h3,yae,yy];dsimp only;rw[yW (by simp only[yi];exact⟨g1,g2⟩),wz g6,ZQ,wA,g3];grind
  .cases h
 .cases h
def IZ(P:yg)(ts:yL TD)(t:yc)(len:Nat)(parts:yL (Nat×ym))(all:yL TD)(H:yL ak)(K:Kn O):yO O:=
 pg (lk H) P ts t len parts λT l e=>if(ah (l.length=len)&&TD.frees H.length all&&H.all (ak.free H.length))=af then K all (.rw H.length) (H++[.aW T [] af e l]) [.arr] 2 else ae
theorem ZIy{t:yc}{len:Nat}{parts:Array (Nat×ym)}(ho:o.op=.buildSlice t len parts)(h:IZ P ts t len parts.toList all H K=ab out):
 ∃a d H' hs c,K a d H' hs c=ab out/\Good P o ts all H a d H' hs c:=by
 unfold IZ at h;obtain⟨e,T,l,i,xs,h1,hu,hi,hl,hz,hs,hx⟩:=wm h;obtain⟨h2,h1⟩:=Za h1;simp only[yi,yP]at h2;obtain⟨⟨h2,g5⟩,g6⟩:=h2;refine⟨_,_,_,_,_,h1,pn g5,rfl,dK (⟨rfl,λyJ=> ?_,λyJ=> ?_,[],zZ,λyJ=> ?_⟩)⟩
 .unfold be;rw[ho];rfl
 .unfold bB;rw[ho]
 .unfold cx;rw[ho];dsimp only;rw[yae,yy];dsimp only;rw[hu];dsimp only;rw[hi,hl];dsimp only;rw[yW (by simpa using hz),hx,wz g6,wA,ZQ,hs,h2];rfl
def JA(P:yg)(ts:yL TD)(t:yc)(len:Nat)(parts:yL (Nat×ym))(id:Nat)(all:yL TD)(H:yL ak)(K:Kn O):yO O:=
 pg (lk H) P ts t len parts λT l e=>match H[id]? with
  |some (.aW T' v _ e' _)=>if(ah (l.length=len)&&ah (e'=e)&&ah (T'.size=T.size))=af then K (TD.cl (lk H) id all) (.rw id) ((H.map (ak.stale (lk H) id)).set id (.aW T (()::v) af e l)) [.fresh id] 2 else ae
  |_=>ae
theorem ZGt{t:yc}{len id:Nat}{parts:Array (Nat×ym)}(ho:o.op=.buildSlice t len parts)(h:JA P ts t len parts.toList id all H K=ab out):
 ∃a d H' hs c,K a d H' hs c=ab out/\Good P o ts all H a d H' hs c:=by
 unfold JA at h;obtain⟨e,T,l,i,xs,h1,hu,hi,hl,hz,hs,hx⟩:=wm h;split at h1
 case h_2=>cases h1
 rename_i T0 v st e' l0 hd;obtain⟨h2,h1⟩:=Za h1;simp only[yi,yP]at h2;obtain⟨⟨h2,rfl⟩,h3⟩:=h2;have hlt:id < H.length:=(yo.1 hd).1
 have hnew:((H.map (ak.stale (lk H) id)).set id (.aW T (()::v) af e' l))[id]? =ab (.aW T (()::v) af e' l):=by
  grind
 have hH:aG ((H.map (ak.stale (lk H) id)).set id (.aW T (()::v) af e' l))=(aG H).set id (.row (v.length+1) T.size af e' (.p (.arr l.length T.size (l.map T.enc)))):=by
  unfold aG;rw[ybp,ybf]
  have:(ak.aW T (()::v) af e' l).er (lk ((H.map (ak.stale (lk H) id)).set id (.aW T (()::v) af e' l)))=.row (v.length+1) T.size af e' (.p (.arr l.length T.size (l.map T.enc))):=by
   simp only[ak.er,yam]
  rw[this];congr 1;refine ycn λx hx=> ?_;exact wn (λid t hn=>mq (lk H) id t hn) x
 refine⟨_,_,_,_,_,h1,bT (λid' t hn=>mq (lk H) id' t hn) all,sD all,dK (⟨rfl,λyJ=> ?_,λyJ=> ?_,[],zZ,λyJ=> ?_⟩)⟩
 .unfold be;rw[ho];rfl
 .unfold bB;rw[ho]
 .unfold cx;rw[ho];dsimp only;rw[yae,yy];dsimp only;rw[hu,Yq hd];dsimp only[ak.er];rw[hi,hl];dsimp only;rw[yW (by rw[yi,yi,yT,yT];exact⟨⟨hz,rfl⟩,h3.trans hs.symm⟩),hx,hH,(gj hnew).1,hs, <-h2];grind
def JB(P:yg)(t:yc)(n n':Int)(all:yL TD)(H:yL ak)(K:Kn O):yO O:=
 match P.underlying t with
 |some (.slice e)=>(P.info? e).bind λi=>(gf P gX e).bind λT=>
  if(ca i&&i.size !=0&&ah (i.size=T.size)&&TD.frees H.length all&&H.all (ak.free H.length))=af then if(ah (n=0)&&ju n' i.bytes)=af then K all (.rw H.length) (H++[.aW T [] af e []]) [.arr] 2 else ae else ae
 |_=>ae
theorem ZGu{t:yc}{l c:ym}{n n':Num}(ho:o.op=.makeSlice t l c)(hl:(bo P ts 0 l).bind TD.num=ab n)(hc:(bo P ts 0 c).bind TD.num=ab n')(hk:n.k=.i64)(hk':n'.k=.i64)
 (h:JB P t n.n n'.n all H K=ab out):∃a d H' hs c,K a d H' hs c=ab out/\Good P o ts all H a d H' hs c:=by
 obtain⟨ld,l1,l2⟩:=yf.1 hl;obtain⟨cd,c1,c2⟩:=yf.1 hc;have hv:=Zz (L:=lk H) l1;have hw:=Zz (L:=lk H) c1;rw[kZ l2,hk]at hv;rw[kZ c2,hk']at hw;unfold JB at h;have nN:∀hs,be P o (TD.aE (lk H) ts) hs=ae:=λhs=>by unfold be;rw[ho]
 have nR:∀hs,bB P o (TD.aE (lk H) ts) (aG H) hs=ae:=λhs=>by unfold bB;rw[ho]
 split at h
 .rename_i e hu;obtain⟨i,h1,h⟩:=yf.1 h;obtain⟨T,h2,h⟩:=yf.1 h;obtain⟨h3,h⟩:=Za h;obtain⟨h4,h⟩:=Za h;simp only[yi,yP]at h3;obtain⟨⟨⟨g0,h3⟩,g5⟩,g6⟩:=h3;simp only[ju,yi,yP]at h4;obtain⟨g1,g2⟩:=lZ h4.2.2;refine⟨_,_,_,_,_,h,pn g5,rfl,dK (⟨rfl,λyJ=>nN _,λyJ=>nR _,[n.n=0,0<=n'.n,n'.n.toNat*i.bytes<=Zv,n'.n.toNat<=maxLen],⟨h4.1,h4.2.1,g1,g2,ao⟩,λyJ=> ?_⟩)⟩;unfold cx;rw[ho];dsimp only;rw[hu,hv,hw];dsimp only;rw[h1,yae,yy];dsimp only;rw[yW (by simpa using g0),wz g6,wA,ZQ,h3];rfl
 .cases h
def JC(P:yg)(t:yc)(dst:Tmp)(all:yL TD)(H:yL ak)(K:Kn O):TD->yO O
 |.p (.sl (ab ag) T [])=>match P.underlying t with
  |some (.slice e)=>(P.info? e).bind λi=>if(ca i&&i.size !=0&&ah (i.size=T.size)&&TD.frees H.length all&&H.all (ak.free H.length))=af then K all (.rw H.length) (H++[.aW T [] af e []]) [.jk dst] 2 else ae
  |_=>ae
 |_=>ae
theorem ZEo{x:ym}{dst:Tmp}{xd:TD}(ho:o.op=.assign x)(hd:o.dst=ab dst)(hx:bo P ts o.type x=ab xd)(h:JC P o.type dst all H K xd=ab out):
 ∃a d H' hs c,K a d H' hs c=ab out/\Good P o ts all H a d H' hs c:=by
 have hv:=Zz (L:=lk H) hx;unfold JC at h;split at h
 .rename_i T;split at h
  .rename_i e hu;obtain⟨i,h1,h⟩:=yf.1 h;obtain⟨h2,h⟩:=Za h;simp only[yi,yP]at h2;obtain⟨⟨⟨g0,g3⟩,g5⟩,g6⟩:=h2;refine⟨_,_,_,_,_,h,pn g5,rfl,dK (⟨rfl,λyJ=> ?_,λyJ=> ?_,[],zZ,λyJ=> ?_⟩)⟩
   .unfold be;rw[ho];rfl
   .unfold bB;rw[ho]
   .unfold cx;rw[ho];dsimp only;rw[yae,yy];dsimp only;rw[yW hd,hu,hv,show(TD.p (TP.sl (ab ag) T [])).er (lk H)=Dv.p (.sl (ab ag) T.size []) from rfl]
    dsimp only;rw[h1];dsimp only;rw[yW (by simpa using g0),wz g6,wA,ZQ,g3];rfl
  .cases h
 .cases h
def JD(P:yg)(t:yc)(lo hi:yO Int)(all:yL TD)(H:yL ak)(K:Kn O):TD->yO O
 |.rw id=>match P.underlying t,H[id]?,lo,hi with
  |some (.slice e),ab (.aW T v af e' l),ae,ab h=>if(okB P e T.size&&ah (T.size≠0))=af then if(ah (0<=h)&&ah (h.toNat<=l.length))=af then
    K (TD.cl (lk H) id all) (.rw id) ((H.map (ak.stale (lk H) id)).set id (.aW T v af e' (l.take h.toNat))) [.arr] 2 else ae else ae
  |_,_,_,_=>ae
 |_=>ae
theorem ZBE{t:yc}{x:ym}{lo hi:yO ym}{l h':yO Int}{xd:TD}(ho:o.op=.slice t x lo hi ae)(hx:bo P ts t x=ab xd)(hl:fh P ts lo=ab l)(hh:fh P ts hi=ab h')(h:JD P t l h' all H K xd=ab out):
 ∃a d H' hs c,K a d H' hs c=ab out/\Good P o ts all H a d H' hs c:=by
 have hv:=Zz (L:=lk H) hx;have hl2:=js (L:=lk H) hl;have hh2:=js (L:=lk H) hh;unfold JD at h;split at h
 .rename_i id;split at h
  .rename_i e T v e' xs h2 hu hd;obtain⟨h3,h⟩:=Za h;obtain⟨h4,h⟩:=Za h;simp only[yi,yP]at h3 h4;obtain⟨h3a,h3b⟩:=ZPZ h3.1;have hlt:id < H.length:=(yo.1 hd).1
   have hnew:((H.map (ak.stale (lk H) id)).set id (.aW T v af e' (xs.take h2.toNat)))[id]? =ab (.aW T v af e' (xs.take h2.toNat)):=by
    grind
   have zV:(xs.take h2.toNat).length=h2.toNat:=by rw[List.length_take];omega
   have hH:aG ((H.map (ak.stale (lk H) id)).set id (.aW T v af e' (xs.take h2.toNat)))=(aG H).set id (.row v.length T.size af e' (.p (.arr h2.toNat T.size ((xs.map T.enc).take h2.toNat)))):=by
    unfold aG;rw[ybp,ybf]
    have:(ak.aW T v af e' (xs.take h2.toNat)).er (lk ((H.map (ak.stale (lk H) id)).set id (.aW T v af e' (xs.take h2.toNat))))=.row v.length T.size af e' (.p (.arr h2.toNat T.size ((xs.map T.enc).take h2.toNat))):=by
     simp only[ak.er,zV,yck]
    rw[this];congr 1;refine ycn λx hx=> ?_;exact wn (λid t hn=>mq (lk H) id t hn) x
   refine⟨_,_,_,_,_,h,bT (λid' t hn=>mq (lk H) id' t hn) all,sD all,dK (⟨rfl,λyJ=> ?_,λyJ=> ?_,[0<=h2,h2.toNat<=xs.length],⟨h4.1,h4.2,ao⟩,λyJ=> ?_⟩)⟩
   .unfold be;rw[ho];dsimp only;rw[hu,hv,(gj hd).1,hl2,hh2];rfl
   .unfold bB;grind
   .unfold cx;rw[ho];dsimp only;rw[hu,hv,(gj hd).1,hl2,hh2];dsimp only;rw[yae,yy];dsimp only;rw[Yq hd,ak.er];dsimp only;rw[yW (by simp[h3a,h3b,h3.2]),hH,(gj hnew).1,zV]
  .cases h
 .cases h
def ak.JE:ak->yO (Nat×Nat×Nat)
 |.aY t _ v _ _ pre post=>ab (v.length,t.size,pre.length+post.length)
 |.bR t _ v _ _ pre _ post=>ab (v.length,t.size,pre.length+(post.length+1))
 |_=>ae
theorem JF{L:Lk}{id:Nat}{v:yL Unit}{s N:Nat}(h:Yg L id aSo ae=([v,yw s (),yw N ()]:yL aSp)):
 (TD.rw id).er L=.rv id v.length s 0 N/\∀yM,(TD.rp id yM).er L=.aZ id v.length (Qj yM) (yM.map bX.i):=by
 refine⟨?_,λyM=> ?_⟩
 .rw[TD.er];unfold dU;rw[h];show Dv.rv id v.length (yw s ()).length 0 (yw N ()).length=_;rw[ycs,ycs]
 .rw[TD.er];unfold dU;rw[h];rfl
theorem ZQg{id:Nat}{x:ak}{q:Nat×Nat×Nat}(hd:H[id]? =ab x)(h:x.JE=ab q):(TD.rw id).er (lk H)=.rv id q.1 q.2.1 0 q.2.2/\∀yM,(TD.rp id yM).er (lk H)=.aZ id q.1 (Qj yM) (yM.map bX.i):=by
 cases x <;> first|cases h|skip
 all_goals
  refine JF ?_;unfold Yg lk;dsimp only;rw[hd];rfl
end
end Go.Ev
end
section
namespace Go.Ev
abbrev TV:=Σ t:Ty,t.aQ
inductive Sh where
 |v (t:Ty)
 |elem (t:Ty)
 |nil (t:Ty)
 |sl (nn:Bool) (t:Ty)
 |own (j:Nat) (t:Ty)
 |am (j:Nat) (yM:List bX)
 |mp (j:Nat)
 |rw(j:Nat)
 |rp (j s:Nat) (yM:List bX)
 |view (j:Nat) (yM:List bX) (s lo n:Nat)
 |rv (j ver s lo n:Nat)
 |fn (g:yq) (l:List Sh)
 |agg (l:List Sh)
 |arr (n s:Nat) (l:List Sh)
 |bi (l:List Sh)
 |iface (t:yc) (x:Sh)
 |sF (t u:yc) (x:Sh)
 |bE|fn0|dE|bU
 |aA
instance:Inhabited Sh:=⟨.aA⟩
def bX.beq:bX->bX->Bool
 |.fZ i o,.fZ j p=>ah (i=j)&&ah (o=p)
 |.ix i o,.ix j p=>ah (i=j)&&ah (o=p)
 |_,_=>ag
def pp:yL bX->yL bX->Bool
 |[],[]=>af
 |q::r,p::s=>q.beq p&&pp r s
 |_,_=>ag
theorem sG:∀{l m:yL bX},pp l m=af->l=m
 |[],[],_=>rfl
 |[],_::_,h=>by cases h
 |_::_,[],h=>by cases h
 |q::r,p::s,h=>by
  simp only[pp,yi]at h;rw[sG h.2];congr 1;cases q <;> cases p <;> simp[bX.beq]at h <;> simp[h.1]
def TD.JG(L:Lk)(t:Ty):TD->yO t.aQ
 |.p x=>TP.to kW x t
 |.own id _ u c=>match t with
  |.sl w=>Ty.bn u w (Yg L id u c)
  |_=>ae
 |_=>ae
theorem ZSA{L:Lk}{t:Ty}{d:TD}{y:t.aQ}(h:d.JG L t=ab y):Wk (d.er L) (.p (t.enc y)):=by
 cases d with
 |p x=>exact Wk.p (vR (show TP.to kW x t=ab y from h))
 |own id nn u c=>
  cases t with
  |sl w=>
   obtain⟨e,h2⟩:=ZI (show Ty.bn u w (Yg L id u c)=ab y from h)
   subst e;subst h2
   exact Wk.nt (bm.refl _)
  |_=>cases h
 |_=>cases h
def ZT0(t:Ty):TD->yO t.aQ
 |.elem x=>TP.to kW x t
 |_=>ae
theorem Wk.elem{x y:Pl}(h:bJ x y):Wk (.elem x) (.elem y):=⟨rfl,rfl,λσ vs r=>by
 simp only[yG]at r ⊢;obtain⟨b,o,us,e,r1,r2⟩:=r;exact⟨b,o,us,e,h.cW _ _ _ r1,r2⟩⟩
theorem cF.fn{f:yq}{ds es:yL Dv}(h:cF ds es):Wk (.fn f ds) (.fn f es):=⟨rfl,rfl,λσ vs r=>by
 simp only[yG]at r ⊢;obtain⟨fs,cs,e,e0,r⟩:=r;exact⟨fs,cs,e,e0,h.vs r⟩⟩
theorem cF.sizes{ds es:yL Dv}(h:cF ds es)(s:Nat):(∀x,x∈ds->x.size=s)->∀x,x∈es->x.size=s:=by
 induction h with
 |nil=>intro _ x hx;cases hx
 |cons h k ih=>
  intro hh x hx;rcases List.mem_cons.1 hx with rfl|hx
  .rw[<-h.size];exact hh _ (List.mem_cons_self ..)
  .exact ih (λy hy=>hh y (List.mem_cons_of_mem _ hy)) x hx
theorem cF.arr{n s:Nat}{ds es:yL Dv}(h:cF ds es):Wk (.arr n s ds) (.arr n s es):=⟨rfl,rfl,λσ vs r=>by
 simp only[yG]at r ⊢;obtain⟨r1,r2,r3⟩:=r;have:=(cF.agg h).cW σ vs (by simp only[yG];exact r3);simp only[yG]at this;exact⟨by rw[<-h.len];exact r1,h.sizes s r2,this⟩⟩
theorem Wk.iface{t:yc}{x y:Dv}(h:Wk x y):Wk (.iface t x) (.iface t y):=⟨rfl,rfl,λσ vs r=>by
 simp only[yG]at r ⊢;obtain⟨v,e,r1,r2⟩:=r;refine⟨v,e,λha=> ?_,λha=>h.cW _ _ (r2 (by rw[h.agg];exact ha))⟩;obtain⟨cs,e1,e2⟩:=r1 (by rw[h.agg];exact ha);exact⟨cs,e1,h.cW _ _ e2⟩⟩
mutual
def Sh.mt(L:Lk):Sh->TD->yO (TD×yL TV)
 |.v t,d=>(d.JG L t).map λy=>(.p (.v t y),[⟨t,y⟩])
 |.elem t,d=>(ZT0 t d).map λy=>(.elem (.v t y),[⟨t,y⟩])
 |.nil t,d=>match d with
  |.p x=>if x.lf t=af then ab (.p (.sl (ab ag) t []),[]) else ae
  |_=>ae
 |.sl nn t,d=>match d with
  |.p (.sl (ab b) u xs)=>if b=nn then(Ty.bn u t xs).map λy=>(.p (.sl (ab nn) t y),[⟨.sl t,y⟩]) else ae
  |_=>ae
 |.own j t,d=>match d with
  |.own id _ u ae=>if id=j/\u=t then ab (.own j ae t ae,[]) else ae
  |_=>ae
 |.am j p,d=>match d with
  |.am id q=>if id=j/\pp p q=af then ab (.am j p,[]) else ae
  |_=>ae
 |.mp j,d=>match d with
  |.mp id=>if id=j then ab (.mp j,[]) else ae
  |_=>ae
 |.rw j,d=>match d with
  |.rw id=>if id=j then ab (.rw j,[]) else ae
  |_=>ae
 |.rp j s p,d=>match d with
  |.rp id (.ix i s'::q)=>if id=j/\s'=s/\pp p q=af then ab (.rp j (.ix i s::p),[⟨.int .i64,(i:Int)⟩]) else ae
  |_=>ae
 |.view j p s lo n,d=>match d with
  |.view id q s' lo' n'=>if id=j/\pp p q=af/\s=s'/\lo=lo'/\n=n' then ab (.view j p s lo n,[]) else ae
  |_=>ae
 |.rv j ver s lo n,d=>match d with
  |.rv id v' s' lo' n'=>if id=j/\ver=v'/\s=s'/\lo=lo'/\n=n' then ab (.rv j ver s lo n,[]) else ae
  |_=>ae
 |.fn g l,d=>match d with
  |.fn f ds=>if f=g then(Sh.cX L l ds).map λq=>(.fn g q.1,q.2) else ae
  |_=>ae
 |.agg l,d=>match d with
  |.agg ds=>(Sh.cX L l ds).map λq=>(.agg q.1,q.2)
  |.p x=>match x.parts with
   |some xs=>(Sh.cX L l (xs.map TD.p)).map λq=>(.agg q.1,q.2)
   |none=>ae
  |_=>ae
 |.arr n s l,d=>match d with
  |.arr m s' ds=>if m=n/\s'=s then(Sh.cX L l ds).map λq=>(.arr n s q.1,q.2) else ae
  |_=>ae
 |.bi l,d=>match d with
  |.bi ds=>(Sh.cX L l ds).map λq=>(.bi q.1,q.2)
  |_=>ae
 |.iface t x,d=>match d with
  |.iface u y=>if u=t then(Sh.mt L x y).map λq=>(.iface t q.1,q.2) else ae
  |_=>ae
 |.sF t u x,d=>match d with
  |.iface w y=>if Nat.beq w t=af then(Sh.mt L x y).map λq=>(.iface t q.1,⟨.bool,af⟩::q.2) else if Nat.beq w u=af then(Sh.mt L x y).map λq=>(.iface u q.1,⟨.bool,ag⟩::q.2) else ae
  |_=>ae
 |.bE,d=>match d with
  |.p .bE=>ab (.p .bE,[])
  |_=>ae
 |.fn0,d=>match d with
  |.p .fn0=>ab (.p .fn0,[])
  |_=>ae
 |.dE,d=>match d with
  |.p .dE=>ab (.p .dE,[])
  |_=>ae
 |.bU,d=>match d with
  |.p .bU=>ab (.p .bU,[])
  |_=>ae
 |.aA,d=>if(d.er L).size=1/\(d.er L).isAgg=ag then ab (.aA,[]) else ae
def Sh.cX(L:Lk):yL Sh->yL TD->yO (yL TD×yL TV)
 |[],ds=>match ds with
  |[]=>ab ([],[])
  |_=>ae
 |s::r,ds=>match ds with
  |d::q=>match Sh.mt L s d,Sh.cX L r q with
   |some a,ab b=>ab (a.1::b.1,a.2++b.2)
   |_,_=>ae
  |[]=>ae
end
mutual
def Sh.fill:Sh->yL TV->yO (TD×yL TV)
 |.v t,vs=>match vs with
  |x::r=>(Ty.cast x.1 t x.2).map λy=>(.p (.v t y),r)
  |[]=>ae
 |.elem t,vs=>match vs with
  |x::r=>(Ty.cast x.1 t x.2).map λy=>(.elem (.v t y),r)
  |[]=>ae
 |.nil t,vs=>ab (.p (.sl (ab ag) t []),vs)
 |.sl nn t,vs=>match vs with
  |x::r=>(Ty.cast x.1 (.sl t) x.2).map λ(y:yL t.aQ)=>(.p (.sl (ab nn) t y),r)
  |[]=>ae
 |.own j t,vs=>ab (.own j ae t ae,vs)
 |.am j p,vs=>ab (.am j p,vs)
 |.mp j,vs=>ab (.mp j,vs)
 |.rw j,vs=>ab (.rw j,vs)
 |.rp j s p,vs=>match vs with
  |x::r=>(Ty.cast x.1 (.int .i64) x.2).map λ(i:Int)=>(.rp j (.ix i.toNat s::p),r)
  |[]=>ae
 |.view j p s lo n,vs=>ab (.view j p s lo n,vs)
 |.rv j ver s lo n,vs=>ab (.rv j ver s lo n,vs)
 |.fn g l,vs=>(Sh.fills l vs).map λq=>(.fn g q.1,q.2)
 |.agg l,vs=>(Sh.fills l vs).map λq=>(.agg q.1,q.2)
 |.arr n s l,vs=>(Sh.fills l vs).map λq=>(.arr n s q.1,q.2)
 |.bi l,vs=>(Sh.fills l vs).map λq=>(.bi q.1,q.2)
 |.iface t x,vs=>(Sh.fill x vs).map λq=>(.iface t q.1,q.2)
 |.sF t u x,vs=>match vs with
  |z::r=>(Ty.cast z.1 .bool z.2).bind λ(b:Bool)=>(Sh.fill x r).map λq=>(.iface (bif b then t else u) q.1,q.2)
  |[]=>ae
 |.bE,vs=>ab (.p .bE,vs)
 |.fn0,vs=>ab (.p .fn0,vs)
 |.dE,vs=>ab (.p .dE,vs)
 |.bU,vs=>ab (.p .bU,vs)
 |.aA,vs=>ab (.aA,vs)
def Sh.fills:yL Sh->yL TV->yO (yL TD×yL TV)
 |[],vs=>ab ([],vs)
 |s::r,vs=>(Sh.fill s vs).bind λa=>(Sh.fills r a.2).map λb=>(a.1::b.1,b.2)
end
theorem YF(t:Ty)(x:t.aQ):Ty.cast t t x=ab x:=by
 unfold Ty.cast;split
 all_goals grind
mutual
theorem my{L:Lk}:∀(s:Sh)(d:TD)(q:TD×yL TV),s.mt L d=ab q->∀yJ,s.fill (q.2++yJ)=ab (q.1,yJ)
 |.v t,d,q,h,yJ=>by
  simp only[Sh.mt]at h;obtain⟨y,_,rfl⟩:=Zd h
  simp[Sh.fill,YF]
 |.elem t,d,q,h,yJ=>by
  simp only[Sh.mt]at h;obtain⟨y,_,rfl⟩:=Zd h
  simp[Sh.fill,YF]
 |.nil t,d,q,h,yJ=>by
  simp only[Sh.mt]at h;split at h
  .split at h <;> cases h;rfl
  .cases h
 |.sl nn t,d,q,h,yJ=>by
  simp only[Sh.mt]at h;split at h
  .split at h
   .obtain⟨w,h1,rfl⟩:=Zd h;exact congrArg (Option.map λ(y:yL t.aQ)=>(TD.p (.sl (ab nn) t y),yJ)) (YF (.sl t) w)
   .cases h
  .cases h
 |.own j t,d,q,h,yJ=>by
  simp only[Sh.mt]at h;split at h
  .split at h <;> cases h;rfl
  .cases h
 |.am j p,d,q,h,yJ=>by
  simp only[Sh.mt]at h;split at h
  .split at h <;> cases h;rfl
  .cases h
 |.mp j,d,q,h,yJ=>by
  simp only[Sh.mt]at h;split at h
  .split at h <;> cases h;rfl
  .cases h
 |.rw j,d,q,h,yJ=>by
  simp only[Sh.mt]at h;split at h
  .split at h <;> cases h;rfl
  .cases h
 |.rp j s p,d,q,h,yJ=>by
  simp only[Sh.mt]at h;split at h
  .rename_i id i s' q';split at h
   .cases h;exact congrArg (Option.map λ(i:Int)=>(TD.rp j (.ix i.toNat s::p),yJ)) (YF (.int .i64) (i:Int))
   .cases h
  .cases h
 |.view j p s lo n,d,q,h,yJ=>by
  simp only[Sh.mt]at h;split at h
  .split at h <;> cases h;rfl
  .cases h
 |.rv j ver s lo n,d,q,h,yJ=>by
  simp only[Sh.mt]at h;split at h
  .split at h <;> cases h;rfl
  .cases h
 |.fn g l,d,q,h,yJ=>by
  simp only[Sh.mt]at h;split at h
  .split at h
   .obtain⟨w,h1,rfl⟩:=Zd h;simp only[Sh.fill,bH l _ w h1 yJ,yaa]
   .cases h
  .cases h
 |.agg l,d,q,h,yJ=>by
  simp only[Sh.mt]at h;split at h
  .obtain⟨w,h1,rfl⟩:=Zd h;simp only[Sh.fill,bH l _ w h1 yJ,yaa]
  .split at h
   .obtain⟨w,h1,rfl⟩:=Zd h;simp only[Sh.fill,bH l _ w h1 yJ,yaa]
   .cases h
  .cases h
 |.arr n s l,d,q,h,yJ=>by
  simp only[Sh.mt]at h;split at h
  .split at h
   .obtain⟨w,h1,rfl⟩:=Zd h;simp only[Sh.fill,bH l _ w h1 yJ,yaa]
   .cases h
  .cases h
 |.bi l,d,q,h,yJ=>by
  simp only[Sh.mt]at h;split at h
  .obtain⟨w,h1,rfl⟩:=Zd h;simp only[Sh.fill,bH l _ w h1 yJ,yaa]
  .cases h
 |.iface t x,d,q,h,yJ=>by
  simp only[Sh.mt]at h;split at h
  .split at h
   .obtain⟨w,h1,rfl⟩:=Zd h;simp only[Sh.fill,my x _ w h1 yJ,yaa]
   .cases h
  .cases h
 |.sF t u x,d,q,h,yJ=>by
  simp only[Sh.mt]at h;split at h
  .split at h
   .obtain⟨w,h1,rfl⟩:=Zd h;simp only[Sh.fill,yae,YF,ya,my x _ w h1 yJ,yaa];rfl
   .split at h
    .obtain⟨w,h1,rfl⟩:=Zd h;simp only[Sh.fill,yae,YF,ya,my x _ w h1 yJ,yaa];rfl
    .cases h
  .cases h
 |.bE,d,q,h,yJ=>by
  simp only[Sh.mt]at h
  split at h <;> cases h;rfl
 |.fn0,d,q,h,yJ=>by
  simp only[Sh.mt]at h
  split at h <;> cases h;rfl
 |.dE,d,q,h,yJ=>by
  simp only[Sh.mt]at h
  split at h <;> cases h;rfl
 |.bU,d,q,h,yJ=>by
  simp only[Sh.mt]at h
  split at h <;> cases h;rfl
 |.aA,d,q,h,yJ=>by
  simp only[Sh.mt]at h;split at h <;> cases h;rfl
theorem bH{L:Lk}:∀(l:yL Sh)(ds:yL TD)(q:yL TD×yL TV),Sh.cX L l ds=ab q->∀yJ,Sh.fills l (q.2++yJ)=ab (q.1,yJ)
 |[],ds,q,h,yJ=>by
  simp only[Sh.cX]at h
  split at h <;> cases h;rfl
 |s::r,ds,q,h,yJ=>by
  simp only[Sh.cX]at h;split at h
  .split at h
   .rename_i a b h1 h2;cases h;simp only[Sh.fills,yad,my s _ a h1,ya,bH r _ b h2,yaa]
   .cases h
  .cases h
end
theorem ZNC(ys:yL Pl):Wk (.p (.agg ys)) (.agg (ys.map .p)):=by
 have key:∀ys:yL Pl,Dv.sizes (ys.map .p)=Pl.sizes ys:=by
  intro ys
  induction ys with
  |nil=>rfl
  |cons y r ih=>rw[yag,Dv.sizes,Pl.sizes,ih];rfl
 refine⟨?_,rfl,λσ vs r=> ?_⟩
 .first|exact key ys|exact(key ys).symm
 .simp only[yG,aw]at r ⊢;exact nj.2 r
mutual
theorem lh{L M:Lk}(hL:∀id t,Yg L id t ae=Yg M id t ae):∀(s:Sh)(d:TD)(q:TD×yL TV),s.mt L d=ab q->Wk (d.er L) (q.1.er M)
 |.v t,d,q,h=>by
  simp only[Sh.mt]at h;obtain⟨y,h1,rfl⟩:=Zd h
  exact ZSA h1
 |.elem t,d,q,h=>by
  simp only[Sh.mt]at h;obtain⟨y,h1,rfl⟩:=Zd h;cases d <;> first|cases h1|skip
  exact Wk.elem (vR h1)
 |.nil t,d,q,h=>by
  simp only[Sh.mt]at h;split at h
  .split at h
   .rename_i hn;cases h;refine Wk.of_eq ?_;rw[TD.er,ZJ3 hn];rfl
   .cases h
  .cases h
 |.sl nn t,d,q,h=>by
  simp only[Sh.mt]at h;split at h
  .split at h
   .rename_i e;subst e;obtain⟨w,h1,rfl⟩:=Zd h;obtain⟨e,h2⟩:=ZI h1;subst e;subst h2;exact Wk.refl _
   .cases h
  .cases h
 |.own j t,d,q,h=>by
  simp only[Sh.mt]at h;split at h
  .split at h
   .rename_i e;obtain⟨rfl,rfl⟩:=e;cases h;rw[TD.er,TD.er,hL];exact Wk.own rfl
   .cases h
  .cases h
 |.am j p,d,q,h=>by
  simp only[Sh.mt]at h;split at h
  .split at h
   .rename_i e;obtain⟨rfl,e⟩:=e;cases h;rw[sG e];exact Wk.refl _
   .cases h
  .cases h
 |.mp j,d,q,h=>by
  simp only[Sh.mt]at h;split at h
  .split at h
   .rename_i e;subst e;cases h;exact Wk.refl _
   .cases h
  .cases h
 |.rw j,d,q,h=>by
  simp only[Sh.mt]at h;split at h
  .split at h
   .rename_i e;subst e;cases h;refine Wk.of_eq ?_;rw[TD.er,TD.er];simp only[dU,hL]
   .cases h
  .cases h
 |.rp j s p,d,q,h=>by
  simp only[Sh.mt]at h;split at h
  .split at h
   .rename_i e;obtain⟨rfl,rfl,e⟩:=e;cases h;rw[sG e];refine Wk.of_eq ?_;rw[TD.er,TD.er];simp only[dU,hL]
   .cases h
  .cases h
 |.view j p s lo n,d,q,h=>by
  simp only[Sh.mt]at h;split at h
  .split at h
   .rename_i e;obtain⟨rfl,e,rfl,rfl,rfl⟩:=e;cases h;rw[sG e];exact Wk.refl _
   .cases h
  .cases h
 |.rv j ver s lo n,d,q,h=>by
  simp only[Sh.mt]at h;split at h
  .split at h
   .rename_i e;obtain⟨rfl,rfl,rfl,rfl,rfl⟩:=e;cases h;exact Wk.refl _
   .cases h
  .cases h
 |.fn g l,d,q,h=>by
  simp only[Sh.mt]at h;split at h
  .split at h
   .rename_i e;subst e;obtain⟨w,h1,rfl⟩:=Zd h;exact cF.fn (cB hL l _ w h1)
   .cases h
  .cases h
 |.agg l,d,q,h=>by
  simp only[Sh.mt]at h;split at h
  .obtain⟨w,h1,rfl⟩:=Zd h;exact cF.agg (cB hL l _ w h1)
  .split at h
   .rename_i xs hp;obtain⟨w,h1,rfl⟩:=Zd h;have e:=FG hp;have k:=cF.agg (cB hL l _ w h1);rw[HP]at k;rw[TD.er,e];have k0:=ZNC (TP.cO xs);exact⟨k0.size.trans k.size,k0.agg.trans k.agg,λσ vs r=>k.cW σ vs (k0.cW σ vs r)⟩
   .cases h
  .cases h
 |.arr n s l,d,q,h=>by
  simp only[Sh.mt]at h;split at h
  .split at h
   .rename_i e;obtain⟨rfl,rfl⟩:=e;obtain⟨w,h1,rfl⟩:=Zd h;exact cF.arr (cB hL l _ w h1)
   .cases h
  .cases h
 |.bi l,d,q,h=>by
  simp only[Sh.mt]at h;split at h
  .obtain⟨w,h1,rfl⟩:=Zd h;exact cF.bi (cB hL l _ w h1)
  .cases h
 |.iface t x,d,q,h=>by
  simp only[Sh.mt]at h;split at h
  .split at h
   .rename_i e;subst e;obtain⟨w,h1,rfl⟩:=Zd h;exact Wk.iface (lh hL x _ w h1)
   .cases h
  .cases h
 |.sF t u x,d,q,h=>by
  simp only[Sh.mt]at h;split at h
  .split at h
   .rename_i e;have e:=Nat.eq_of_beq_eq_true e;subst e;obtain⟨w,h1,rfl⟩:=Zd h;exact Wk.iface (lh hL x _ w h1)
   .split at h
    .rename_i e;have e:=Nat.eq_of_beq_eq_true e;subst e;obtain⟨w,h1,rfl⟩:=Zd h;exact Wk.iface (lh hL x _ w h1)
    .cases h
  .cases h
 |.bE,d,q,h=>by
  simp only[Sh.mt]at h
  split at h <;> cases h;exact Wk.refl _
 |.fn0,d,q,h=>by
  simp only[Sh.mt]at h
  split at h <;> cases h;exact Wk.refl _
 |.dE,d,q,h=>by
  simp only[Sh.mt]at h
  split at h <;> cases h;exact Wk.refl _
 |.bU,d,q,h=>by
  simp only[Sh.mt]at h
  split at h <;> cases h;exact Wk.refl _
 |.aA,d,q,h=>by
  simp only[Sh.mt]at h;split at h
  .rename_i e;cases h;exact Wk.aA e.2 e.1
  .cases h
theorem cB{L M:Lk}(hL:∀id t,Yg L id t ae=Yg M id t ae):∀(l:yL Sh)(ds:yL TD)(q:yL TD×yL TV),Sh.cX L l ds=ab q->cF (TD.aE L ds) (TD.aE M q.1)
 |[],ds,q,h=>by
  simp only[Sh.cX]at h
  split at h <;> cases h;exact .nil
 |s::r,ds,q,h=>by
  simp only[Sh.cX]at h;split at h
  .split at h
   .rename_i a b h1 h2;cases h;exact .cons (lh hL s _ a h1) (cB hL r _ b h2)
   .cases h
  .cases h
end
inductive bf where
 |var (s:Sh) (st:Bool)
 |log (t:Ty) (e:yc)
 |map (tid:yc) (k v:Ty)
 |row (t:Ty) (st:Bool) (e:yc)
 |aY (t:Ty) (np:List Nat) (st:Bool) (e:yc)
 |bR (t:Ty) (np:List Nat) (st:Bool) (e:yc) (s:Sh)
 |nX (ver s:Nat) (st:Bool) (e:yc) (n:Nat) (l:List Sh)
 |gone
def dL(k v:Ty):Ty:=.sl (.st [k,v])
def JH(L:Lk)(t:Ty)(d:TD):yO t.aQ:=(d.flat L).bind λx=>TP.to kW x t
theorem ZJ5{L:Lk}{t:Ty}{d:TD}{y:t.aQ}(h:JH L t d=ab y):Wk (d.er L) (.p (t.enc y)):=by
 obtain⟨x,h1,h2⟩:=yf.1 h;have hf:(d.er L).flat=ab x.pe:=by rw[rS,h1];rfl
 have hw:Wk (d.er L) (.p x.pe):=⟨(vi _ _ hf).symm,(DP hf).symm,λσ vs r=>by simp only[yG];exact rh _ _ _ hf r⟩;have hz:=vR h2;exact⟨hw.size.trans hz.size,hw.agg.trans hz.agg,λσ vs r=>(Wk.p hz).cW σ vs (hw.cW σ vs r)⟩
def bf.mt(L:Lk):bf->ak->yO (ak×yL TV)
 |.var s st,.var d st'=>if st=st'\/st=ag then(s.mt L d).map λq=>(.var q.1 st,q.2) else ae
 |.log t e,.log u e' xs=>if e=e' then(Ty.bn u t xs).map λys=>(.log t e ys,[⟨.sl t,ys⟩]) else ae
 |.map tid k v,.map tid' k' v' l=>if tid=tid' then(Ty.cast (dL k' v') (dL k v) l).map λ(m:yL (k.aQ×v.aQ))=>(.map tid k v m,[⟨dL k v,m⟩]) else ae
 |.row t st e,.aW u v st' e' xs=>if(st=st'\/st=ag)/\e=e' then(Ty.bn u t xs).map λys=>(.aW t v st e ys,[⟨.sl (.st []),v⟩,⟨.sl t,ys⟩]) else ae
 |.aY t np st e,.aY u np' v st' e' pre post=>if(st=st'\/st=ag)/\e=e'/\np=np' then(Ty.bn u t pre).bind λys=>(Ty.bn u t post).map λzs=>
   (.aY t np v st e ys zs,[⟨.sl (.st []),v⟩,⟨.sl t,ys⟩,⟨.sl t,zs⟩]) else ae
 |.aY t np st e,.bR u np' v st' e' pre mid post=>if st=st'/\e=e'/\np=np' then(Ty.bn u t pre).bind λys=>(Ty.bn u t post).bind λzs=>(JH L t mid).map λy=>
   (.aY t np v st e (ys++[y]) zs,[⟨.sl (.st []),v⟩,⟨.sl t,ys++[y]⟩,⟨.sl t,zs⟩]) else ae
 |.bR t np st e s,.bR u np' v st' e' pre mid post=>if st=st'/\e=e'/\np=np' then(Ty.bn u t pre).bind λys=>(Ty.bn u t post).bind λzs=>(s.mt L mid).map λq=>
   (.bR t np v st e ys q.1 zs,[⟨.sl (.st []),v⟩,⟨.sl t,ys⟩,⟨.sl t,zs⟩]++q.2) else ae
 |.nX ver s st e n l,.row v' s' st' e' (.arr n' s2 ds)=>if ver=v'/\s=s'/\st=st'/\e=e'/\n=n'/\s=s2 then(Sh.cX L l ds).map λq=>(.row ver s st e (.arr n s q.1),q.2) else ae
 |.gone,.gone=>ab (.gone,[])
 |_,_=>ae
def bf.fill:bf->yL TV->yO (ak×yL TV)
 |.var s st,vs=>(s.fill vs).map λq=>(.var q.1 st,q.2)
 |.log t e,vs=>match vs with
  |x::r=>(Ty.cast x.1 (.sl t) x.2).map λ(y:yL t.aQ)=>(.log t e y,r)
  |[]=>ae
 |.map tid k v,vs=>match vs with
  |x::r=>(Ty.cast x.1 (dL k v) x.2).map λ(y:yL (k.aQ×v.aQ))=>(.map tid k v y,r)
  |[]=>ae
 |.row t st e,vs=>match vs with
  |x::y::r=>(Ty.cast x.1 aSo x.2).bind λ(v:yL Unit)=>(Ty.cast y.1 (.sl t) y.2).map λ(l:yL t.aQ)=>(.aW t v st e l,r)
  |_=>ae
 |.aY t np st e,vs=>match vs with
  |x::y::z::r=>(Ty.cast x.1 aSo x.2).bind λ(v:yL Unit)=>(Ty.cast y.1 (.sl t) y.2).bind λ(l:yL t.aQ)=>(Ty.cast z.1 (.sl t) z.2).bind λ(m:yL t.aQ)=>ab (.aY t np v st e l m,r)
  |_=>ae
 |.bR t np st e s,vs=>match vs with
  |x::y::z::r=>(Ty.cast x.1 aSo x.2).bind λ(v:yL Unit)=>(Ty.cast y.1 (.sl t) y.2).bind λ(l:yL t.aQ)=>(Ty.cast z.1 (.sl t) z.2).bind λ(m:yL t.aQ)=>
   (s.fill r).map λq=>(.bR t np v st e l q.1 m,q.2)
  |_=>ae
 |.nX ver s st e n l,vs=>(Sh.fills l vs).map λq=>(.row ver s st e (.arr n s q.1),q.2)
 |.gone,vs=>ab (.gone,vs)
def bf.cX(L:Lk):yL bf->yL ak->yO (yL ak×yL TV)
 |[],[]=>ab ([],[])
 |s::r,d::q=>match bf.mt L s d,bf.cX L r q with
  |some a,ab b=>ab (a.1::b.1,a.2++b.2)
  |_,_=>ae
 |_,_=>ae
def bf.fills:yL bf->yL TV->yO (yL ak×yL TV)
 |[],vs=>ab ([],vs)
 |s::r,vs=>(bf.fill s vs).bind λa=>(bf.fills r a.2).map λb=>(a.1::b.1,b.2)
theorem JI{O:Type}{t:Ty}(v:yL Unit)(a b:yL t.aQ)(k:yL Unit->yL t.aQ->yL t.aQ->yO O):
 ((Ty.cast aSo aSo v).bind λ(v:yL Unit)=>(Ty.cast (.sl t) (.sl t) a).bind λ(l:yL t.aQ)=>(Ty.cast (.sl t) (.sl t) b).bind λ(m:yL t.aQ)=>k v l m)=k v a b:=by
 have e1:=YF aSo v;have e2:=YF (.sl t) a;have e3:=YF (.sl t) b;grind
theorem ZNE{L:Lk}{s:bf}{d:ak}{q:ak×yL TV}(h:s.mt L d=ab q)(yJ:yL TV):s.fill (q.2++yJ)=ab (q.1,yJ):=by
 unfold bf.mt at h;split at h
 .split at h
  .obtain⟨w,h1,rfl⟩:=Zd h;simp only[bf.fill,my _ _ w h1 yJ,yaa]
  .cases h
 .split at h
  .obtain⟨w,h1,rfl⟩:=Zd h;rename_i t e _ _ _ _;exact congrArg (Option.map λ(y:yL t.aQ)=>(ak.log t e y,yJ)) (YF (.sl t) w)
  .cases h
 .split at h
  .obtain⟨w,h1,rfl⟩:=Zd h;rename_i tid k v _ _ _ _ _;exact congrArg (Option.map λ(y:yL (k.aQ×v.aQ))=>(ak.map tid k v y,yJ)) (YF (dL k v) w)
  .cases h
 .split at h
  .obtain⟨w,h1,rfl⟩:=Zd h;rename_i t st e _ v _ _ _ _;have e1:=YF aSo v;have e2:=YF (.sl t) w;show((Ty.cast aSo aSo v).bind λ(v:yL Unit)=>(Ty.cast (.sl t) (.sl t) w).map λ(l:yL t.aQ)=>(ak.aW t v st e l,yJ))=_;rw[e1,e2];rfl
  .cases h
 .rename_i t np st e u np' v st' e' pre post;split at h
  .obtain⟨a,h1,h⟩:=yf.1 h;obtain⟨b,h2,rfl⟩:=Zd h;exact JI v a b (λv l m=>ab (ak.aY t np v st e l m,yJ))
  .cases h
 .rename_i t np st e u np' v st' e' pre mid post;split at h
  .obtain⟨a,h1,h⟩:=yf.1 h;obtain⟨b,h2,h⟩:=yf.1 h;obtain⟨c,h3,rfl⟩:=Zd h;exact JI v (a++[c]) b (λv l m=>ab (ak.aY t np v st e l m,yJ))
  .cases h
 .rename_i t np st e s u np' v st' e' pre mid post;split at h
  .obtain⟨a,h1,h⟩:=yf.1 h;obtain⟨b,h2,h⟩:=yf.1 h;obtain⟨c,h3,rfl⟩:=Zd h;have:=JI v a b (λv l m=>(s.fill (c.2++yJ)).map λq=>(ak.bR t np v st e l q.1 m,q.2));refine this.trans ?_;rw[my _ _ c h3 yJ];rfl
  .cases h
 .split at h
  .obtain⟨w,h1,rfl⟩:=Zd h;simp only[bf.fill,bH _ _ w h1 yJ,yaa]
  .cases h
 .cases h;rfl
 .cases h
theorem nY{L:Lk}:∀{l:yL bf}{H:yL ak}{q:yL ak×yL TV},bf.cX L l H=ab q->∀yJ,bf.fills l (q.2++yJ)=ab (q.1,yJ)
 |[],[],q,h,yJ=>by cases h;rfl
 |[],_::_,q,h,yJ=>by cases h
 |_::_,[],q,h,yJ=>by cases h
 |s::r,d::H,q,h,yJ=>by
  simp only[bf.cX]at h;split at h
  .rename_i a b h1 h2;cases h;simp only[bf.fills,yad,ZNE h1,ya,nY h2,yaa]
  .cases h
theorem ZSC{L:Lk}{s:bf}{d:ak}{q:ak×yL TV}(h:s.mt L d=ab q):dt (ab q.1)=dt (ab d):=by
 unfold bf.mt at h;split at h
 .split at h
  .obtain⟨w,h1,rfl⟩:=Zd h;rfl
  .cases h
 .split at h
  .obtain⟨w,h1,rfl⟩:=Zd h;obtain⟨e,h2⟩:=ZI h1;grind
  .cases h
 .split at h
  .obtain⟨w,h1,rfl⟩:=Zd h;rfl
  .cases h
 .split at h
  .obtain⟨w,h1,rfl⟩:=Zd h;obtain⟨e,h2⟩:=ZI h1;subst e;subst h2;rfl
  .cases h
 .split at h
  .obtain⟨a,h1,h⟩:=yf.1 h;obtain⟨b,h2,rfl⟩:=Zd h;obtain⟨e,h3⟩:=ZI h1;subst e;obtain⟨_,h4⟩:=ZI h2;subst h3;subst h4;rfl
  .cases h
 .split at h
  .obtain⟨a,h1,h⟩:=yf.1 h;obtain⟨b,h2,h⟩:=yf.1 h;obtain⟨c,h3,rfl⟩:=Zd h;obtain⟨e,h4⟩:=ZI h1;subst e;obtain⟨_,h5⟩:=ZI h2;subst h4;subst h5;simp only[dt,yl,yam,List.length_nil];grind
  .cases h
 .split at h
  .obtain⟨a,h1,h⟩:=yf.1 h;obtain⟨b,h2,h⟩:=yf.1 h;obtain⟨c,h3,rfl⟩:=Zd h;obtain⟨e,h4⟩:=ZI h1;subst e;obtain⟨_,h5⟩:=ZI h2;subst h4;subst h5;rfl
  .cases h
 .split at h
  .obtain⟨w,h1,rfl⟩:=Zd h;rfl
  .cases h
 all_goals grind
theorem pq{L:Lk}:∀{l:yL bf}{H:yL ak}{q:yL ak×yL TV},bf.cX L l H=ab q->q.1.length=H.length/\lk q.1=lk H
 |[],[],q,h=>by cases h;exact⟨rfl,rfl⟩
 |[],_::_,q,h=>by cases h
 |_::_,[],q,h=>by cases h
 |s::r,d::H,q,h=>by
  simp only[bf.cX]at h;split at h
  .rename_i a b h1 h2;cases h;obtain⟨e1,e2⟩:=pq h2;refine⟨by simp[e1],funext λi=> ?_⟩
   cases i with
   |zero=>exact ZSC h1
   |succ i=>exact congrFun e2 i
  .cases h
theorem ZJ6:∀(l:yL Dv){m m':yL Dv},cF m m'->cF (l++m) (l++m')
 |[],_,_,h=>h
 |x::l,_,_,h=>.cons (Wk.refl x) (ZJ6 l h)
theorem ZJ7{l m:yL Dv}{d d':Dv}(h:Wk d d'):cF (l++d::m) (l++d'::m):=ZJ6 l (.cons h (cF.refl m))
theorem ZNF{n s:Nat}(xs:yL Pl):Wk (.arr n s (xs.map .p)) (.p (.arr n s xs)):=⟨rfl,rfl,λσ vs r=>by
 simp only[yG,aw]at r ⊢;obtain⟨h1,h2,h3⟩:=r;exact⟨by simpa using h1,λx hx=>h2 (.p x) (List.mem_map_of_mem hx),nj.1 h3⟩⟩
theorem ZSD{n s:Nat}{d:Dv}{x:Pl}(l m:yL Pl)(h:Wk d (.p x)):Wk (.arr n s (l.map .p++d::m.map .p)) (.p (.arr n s (l++x::m))):=by
 have h1:Wk (.arr n s (l.map .p++d::m.map .p)) (.arr n s (l.map .p++.p x::m.map .p)):=cF.arr (ZJ7 h);have h2:=ZNF (n:=n) (s:=s) (l++x::m);rw[yao,yag]at h2;exact⟨rfl,rfl,λσ vs r=>h2.cW σ vs (h1.cW σ vs r)⟩
theorem ZJ8{L M:Lk}{t:Ty}{np:yL Nat}{v:yL Unit}{st:Bool}{e:yc}{a b:yL t.aQ}{mid:TD}{c:t.aQ}(hw:Wk (mid.er L) (.p (t.enc c))):
 ez ((ak.bR t np v st e a mid b).er L) ((ak.aY t np v st e (a++[c]) b).er M):=by
 have h:=ZSD (a.map t.enc) (b.map λx=>(pd np (.v t x)).pe) (n:=a.length+(b.length+1)) (s:=t.size) hw;rw[ybf,ybf]at h;have e1:(a++[c]).length+b.length=a.length+(b.length+1):=by rw[yl,yam,List.length_nil];omega
 have e2:(a++[c]).map t.enc++(b.map λx=>(pd np (.v t x)).pe)=a.map t.enc++t.enc c::b.map λx=>(pd np (.v t x)).pe:=by rw[yao,yad];rfl
 rw[ak.er,ak.er,e1,e2];exact .row ⟨h,rfl⟩
theorem ZSE{L M:Lk}(hL:∀id t,Yg L id t ae=Yg M id t ae){s:bf}{d:ak}{q:ak×yL TV}(h:s.mt L d=ab q):ez (d.er L) (q.1.er M):=by
 unfold bf.mt at h;split at h
 .split at h
  .rename_i e;obtain⟨w,h1,rfl⟩:=Zd h;rcases e with e|e
   .subst e;exact .var (lh hL _ _ w h1)
   .subst e;exact .kP (lh hL _ _ w h1)
  .cases h
 .split at h
  .rename_i e;subst e;obtain⟨w,h1,rfl⟩:=Zd h;obtain⟨e,h2⟩:=ZI h1;subst e;subst h2;exact .refl _
  .cases h
 .split at h
  .rename_i e;subst e;obtain⟨w,h1,rfl⟩:=Zd h;obtain⟨e,h2⟩:=lV h1;unfold dL at e;simp only[Ty.sl.injEq,Ty.st.injEq,List.cons.injEq,and_true]at e;obtain⟨e1,e2⟩:=e;subst e1;subst e2;subst h2;exact .refl _
  .cases h
 .split at h
  .rename_i e;obtain⟨e0,e1⟩:=e;subst e1;obtain⟨w,h1,rfl⟩:=Zd h;obtain⟨e,h2⟩:=ZI h1;subst e;subst h2;rcases e0 with e0|e0
   .subst e0;exact .refl _
   .subst e0;exact .lock
  .cases h
 .split at h
  .rename_i e;obtain⟨e0,e1,e2⟩:=e;subst e1;subst e2;obtain⟨a,h1,h⟩:=yf.1 h;obtain⟨b,h2,rfl⟩:=Zd h;obtain⟨e,h3⟩:=ZI h1;subst e;obtain⟨_,h4⟩:=ZI h2;subst h3;subst h4;rcases e0 with e0|e0
   .subst e0;exact .refl _
   .subst e0;exact .lock
  .cases h
 .rename_i _ _ _ _ _ _ _ _ _ pre mid post;split at h
  .rename_i e;obtain⟨e0,e1,e2⟩:=e;subst e0;subst e1;subst e2;obtain⟨a,h1,h⟩:=yf.1 h;obtain⟨b,h2,h⟩:=yf.1 h;obtain⟨c,h3,rfl⟩:=Zd h;obtain⟨e,h4⟩:=ZI h1;subst e;obtain⟨_,h5⟩:=ZI h2;subst h4;subst h5;exact ZJ8 (ZJ5 h3)
  .cases h
 .split at h
  .rename_i e;obtain⟨e0,e1,e2⟩:=e;subst e0;subst e1;subst e2;obtain⟨a,h1,h⟩:=yf.1 h;obtain⟨b,h2,h⟩:=yf.1 h;obtain⟨c,h3,rfl⟩:=Zd h;obtain⟨e,h4⟩:=ZI h1;subst e;obtain⟨_,h5⟩:=ZI h2;subst h4;subst h5;rw[ak.er,ak.er];exact .row ⟨cF.arr (ZJ7 (lh hL _ _ c h3)),rfl⟩
  .cases h
 .split at h
  .rename_i e;obtain⟨rfl,rfl,rfl,rfl,rfl,rfl⟩:=e;obtain⟨w,h1,rfl⟩:=Zd h;rw[ak.er,ak.er,TD.er,TD.er];exact .row ⟨cF.arr (cB hL _ _ w h1),rfl⟩
  .cases h
 .cases h;exact .refl _
 .cases h
theorem pr{L M:Lk}(hL:∀id t,Yg L id t ae=Yg M id t ae):∀{l:yL bf}{H:yL ak}{q:yL ak×yL TV},bf.cX L l H=ab q->cg (H.map (ak.er L)) (q.1.map (ak.er M))
 |[],[],q,h=>by cases h;exact .nil
 |[],_::_,q,h=>by cases h
 |_::_,[],q,h=>by cases h
 |s::r,d::H,q,h=>by
  simp only[bf.cX]at h;split at h
  .rename_i a b h1 h2;cases h;exact .cons (ZSE hL h1) (pr hL h2)
  .cases h
def dz:(ts:yL Ty)->Ty.aH ts->yL TV
 |[],_=>[]
 |[t],x=>[⟨t,x⟩]
 |t::u::r,x=>⟨t,x.1⟩::dz (u::r) x.2
def hJ:(ts:yL Ty)->yL TV->yO (Ty.aH ts)
 |[],[]=>ab ()
 |[t],[x]=>Ty.cast x.1 t x.2
 |t::u::r,x::l=>ki (Ty.cast x.1 t x.2) (hJ (u::r) l)
 |_,_=>ae
theorem jw:∀(ts:yL Ty)(l:yL TV)(x:Ty.aH ts),hJ ts l=ab x->dz ts x=l
 |[],[],x,h=>rfl
 |[],_::_,x,h=>by cases h
 |[t],[],x,h=>by cases h
 |[t],[y],x,h=>by
  obtain⟨e,h2⟩:=lV (show Ty.cast y.1 t y.2=ab x from h)
  obtain⟨u,y⟩:=y;dsimp only at e h2;subst e;subst h2
  rfl
 |[t],_::_::_,x,h=>by cases h
 |t::u::r,[],x,h=>by cases h
 |t::u::r,y::l,x,h=>by
  obtain⟨h1,h2⟩:=nM (α:=t.aQ) (β:=Ty.aH (u::r)) (show ki (Ty.cast y.1 t y.2) (hJ (u::r) l)=ab x from h)
  obtain⟨e,h3⟩:=lV h1;obtain⟨u',y⟩:=y;dsimp only at e h3;subst e;have:=jw (u::r) l x.2 h2;show(⟨u',x.1⟩:TV)::dz (u::r) x.2=_;rw[this,h3]
abbrev bV:=yL (Nat×Sh)
def pt(sl:bV)(n:Nat):yL Sh:=(yu n).map λi=>(sl.lookup i).getD .aA
def QQ(n:Nat)(sl:bV)(es:yL bf)(vs:yL TV):yO (yL TD×yL ak):=
 (Sh.fills (pt sl n) vs).bind λq=>(bf.fills es q.2).bind λw=>if w.2.isEmpty then ab (q.1,w.1) else ae
theorem wB:∀{l:yL Sh}{vs:yL TV}{q:yL TD×yL TV},Sh.fills l vs=ab q->q.1.length=l.length
 |[],vs,q,h=>by simp only[Sh.fills]at h;cases h;rfl
 |s::r,vs,q,h=>by
  simp only[Sh.fills]at h;obtain⟨a,h1,h⟩:=yf.1 h;obtain⟨b,h2,rfl⟩:=Zd h;simp[wB h2]
theorem sH{n:Nat}{sl:bV}{es:yL bf}{vs:yL TV}{q:yL TD×yL ak}(h:QQ n sl es vs=ab q):q.1.length=n:=by
 unfold QQ at h;obtain⟨a,h1,h⟩:=yf.1 h;obtain⟨b,h2,h⟩:=yf.1 h;split at h
 .cases h;rw[wB h1];simp[pt]
 .cases h
structure bD where
 ex:Ex
 sl:bV
 es:List bf
 ty:List Ty
def bD.sum:yL bD->Type
 |[]=>Empty
 |[e]=>Ty.aH e.ty
 |e::f::r=>Ty.aH e.ty⊕bD.sum (f::r)
abbrev Kc(O:Type):=Ex->yL TD->yL ak->yO O
def xT{O:Type}(n:Nat):(l:yL bD)->bD.sum l->Kc O->yO O
 |[],_,_=>ae
 |[e],o,K=>(QQ n e.sl e.es (dz e.ty o)).bind λs=>K e.ex s.1 s.2
 |e::f::r,o,K=>match (o:Ty.aH e.ty⊕bD.sum (f::r)) with
  |.inl o=>(QQ n e.sl e.es (dz e.ty o)).bind λs=>K e.ex s.1 s.2
  |.inr o=>xT n (f::r) o K
def mz:(l:yL bD)->bD.sum l->bD->yL TV->Prop
 |[],_,_,_=>False
 |[e],o,x,vs=>x=e/\vs=dz e.ty o
 |e::f::r,o,x,vs=>match (o:Ty.aH e.ty⊕bD.sum (f::r)) with
  |.inl o=>x=e/\vs=dz e.ty o
  |.inr o=>mz (f::r) o x vs
theorem sI{O:Type}{n:Nat}{K:Kc O}{out:O}:∀{l:yL bD}{o:bD.sum l},xT n l o K=ab out->∃e vs s,mz l o e vs/\QQ n e.sl e.es vs=ab s/\K e.ex s.1 s.2=ab out
 |[],_,h=>by cases h
 |[e],o,h=>by
  obtain⟨s,h1,h2⟩:=yf.1 (show(QQ n e.sl e.es (dz e.ty o)).bind (λs=>K e.ex s.1 s.2)=ab out from h)
  exact⟨e,_,s,⟨rfl,rfl⟩,h1,h2⟩
 |e::f::r,.inl o,h=>by
  obtain⟨s,h1,h2⟩:=yf.1 (show(QQ n e.sl e.es (dz e.ty o)).bind (λs=>K e.ex s.1 s.2)=ab out from h)
  exact⟨e,_,s,⟨rfl,rfl⟩,h1,h2⟩
 |e::f::r,.inr o,h=>by
  obtain⟨e',vs,s,h1,h2,h3⟩:=sI (l:=f::r) (o:=o) h;exact⟨e',vs,s,h1,h2,h3⟩
theorem JJ{A B:yL ay}(hl:A.length=B.length)(h:∀(i:Nat)(a b:ay),A[i]? =ab a->B[i]? =ab b->ez a b):cg A B:=by
 induction A generalizing B with
 |nil=>cases B with
  |nil=>exact .nil
  |cons _ _=>simp at hl
 |cons a A ih=>cases B with
  |nil=>simp at hl
  |cons b B=>exact .cons (h 0 a b rfl rfl) (ih (by simpa using hl) λi a b h1 h2=>h (i+1) a b h1 h2)
def Ty.nZ(f:(T:Ty)->TD->yO T.aQ):(fs:yL Ty)->yL TD->yO (Ty.aH fs)
 |[],[]=>ab ()
 |[t],[d]=>f t d
 |t::u::r,d::ds=>ki (f t d) (Ty.nZ f (u::r) ds)
 |_,_=>ae
def JK{T:Ty}(f:TD->yO T.aQ):yL TD->yO (yL T.aQ)
 |[]=>ab []
 |d::r=>(ki (f d) (JK f r)).map λq=>q.1::q.2
def JL(H:yL ak)(id:Nat)(u:Ty):yO (yL u.aQ):=
 match H[id]? with
 |some (.aW u' v ag e l)=>Ty.bn u' u l
 |_=>ae
theorem ZNH{H:yL ak}{id:Nat}{u:Ty}{l:yL u.aQ}(h:JL H id u=ab l):bv (aG H) ((TD.rw id).er (lk H)) ((Ty.sl u).enc l):=by
 unfold JL at h;split at h
 .rename_i u' v e l' hd;obtain⟨e1,h⟩:=ZI h;subst e1;subst h;have hE:(aG H)[id]? =ab (.row v.length u'.size ag e (.p (.arr l.length u'.size (l.map u'.enc)))):=Yq hd;have:=bv.nJ (lo:=0) (n:=l.length) hE (by omega);rw[(gj hd).1,vQ];rw[List.drop_zero, <-yab (f:=u'.enc),yai,yab]at this;exact this
 .cases h
def pu(H:yL ak):Nat->(T:Ty)->TD->yO T.aQ
 |0,_,_=>ae
 |n+1,T,d=>match d with
  |.p x=>TP.to kW x T
  |.own id nn t c=>rN af t (Yg (lk H) id t c) T
  |.agg ds=>rO (λfs=>Ty.nZ (pu H n) fs ds) T
  |.rw id=>match T with
   |.sl u=>JL H id u
   |_=>ae
  |.rv id v s lo k=>match T with
   |.sl u=>match H[id]? with
    |some (.row w s' ag e d)=>if(w==v&&s'==s&&s==u.size)=af then match d with
      |.p x=>x.dy.bind λr=>(Ty.bn r.t u r.l).bind λl=>if ah (lo+k<=r.n)=af then ab ((l.drop lo).take k) else ae
      |.arr N s2 ds=>if(s2==s&&ah (lo+k<=N))=af then(JK (pu H n u) ds).map λ(l:yL u.aQ)=>(l.drop lo).take k else ae
      |_=>ae
     else ae
    |_=>ae
   |_=>ae
  |.view id [] s lo k=>match T with
   |.sl u=>match H[id]? with
    |some (.var (.p x) ag)=>if(s==u.size)=af then x.dy.bind λr=>(Ty.bn r.t u r.l).bind λl=>if ah (lo+k<=r.n)=af then ab ((l.drop lo).take k) else ae else ae
    |_=>ae
   |_=>ae
  |_=>ae
theorem ZJ9{H:yL ay}{L:Lk}{f:(T:Ty)->TD->yO T.aQ}(hf:∀T d y,f T d=ab y->bv H (d.er L) (T.enc y)):∀(fs:yL Ty)(ds:yL TD)(y:Ty.aH fs),Ty.nZ f fs ds=ab y->
 (TD.aE L ds).length=(Ty.encs fs y).length/\∀(i:Nat)(d:Dv)(z:Pl),(TD.aE L ds)[i]? =ab d->(Ty.encs fs y)[i]? =ab z->bv H d z
 |[],[],y,h=>⟨rfl,λi d z h1 _=>by simp[TD.aE]at h1⟩
 |[],_::_,y,h=>by cases h
 |[t],[],y,h=>by cases h
 |[t],[d],y,h=>by
  refine⟨rfl,λi d' z h1 h2=> ?_⟩
  cases i with
  |zero=>cases h1;cases h2;exact hf t d y h
  |succ i=>simp[TD.aE]at h1
 |[t],_::_::_,y,h=>by cases h
 |t::u::r,[],y,h=>by cases h
 |t::u::r,d::ds,y,h=>by
  obtain⟨h1,h2⟩:=nM (α:=t.aQ) (β:=Ty.aH (u::r)) h;obtain⟨h3,h4⟩:=ZJ9 hf (u::r) ds y.2 h2;refine⟨by rw[TD.aE,Ty.encs,yam,yam,h3],λi d' z k1 k2=> ?_⟩
  cases i with
  |zero=>cases k1;cases k2;exact hf t d y.1 h1
  |succ i=>exact h4 i d' z k1 k2
theorem ZNI{H:yL ay}{L:Lk}{T:Ty}{f:TD->yO T.aQ}(hf:∀d y,f d=ab y->bv H (d.er L) (T.enc y)):∀(ds:yL TD)(l:yL T.aQ),JK f ds=ab l->
 (TD.aE L ds).length=(l.map T.enc).length/\∀(i:Nat)(d:Dv)(z:Pl),(TD.aE L ds)[i]? =ab d->(l.map T.enc)[i]? =ab z->bv H d z
 |[],l,h=>by cases h;exact⟨rfl,λi d z h1 _=>by simp[TD.aE]at h1⟩
 |d::ds,l,h=>by
  obtain⟨q,h1,rfl⟩:=Zd h;obtain⟨h1,h2⟩:=nM h1;obtain⟨h3,h4⟩:=ZNI hf ds q.2 h2;refine⟨by rw[TD.aE,yag,yam,yam,h3],λi d' z k1 k2=> ?_⟩
  cases i with
  |zero=>cases k1;cases k2;exact hf d q.1 h1
  |succ i=>exact h4 i d' z k1 k2
theorem wC{H:yL ak}:∀(n:Nat)(T:Ty)(d:TD)(y:T.aQ),pu H n T d=ab y->bv (aG H) (d.er (lk H)) (T.enc y)
 |0,_,_,_,h=>by cases h
 |n+1,T,d,y,h=>by
  unfold pu at h;split at h
  .exact .wk (.p _) (vR h)
  .rename_i id nn t c;obtain⟨l,_,e1,rfl⟩:=FJ (nn:=ae) h;rw[e1,TD.er];exact .wk (.own id nn t.size _) (bJ.gS (bm.refl _))
  .rename_i ds;obtain⟨fs,z,h1,e1⟩:=FK h;rw[e1,TD.er];obtain⟨h2,h3⟩:=ZJ9 (λT d y=>wC n T d y) fs ds z h1;exact .agg h2 h3
  .rename_i id
   cases T with
   |sl u=>exact ZNH h
   |_=>cases h
  .rename_i id v s lo k;split at h
   .rename_i u;split at h
    .rename_i w s' e dd hd;obtain⟨hk,g⟩:=Za h;clear h;simp only[yi,yT]at hk;obtain⟨⟨hk1,hk2⟩,hk3⟩:=hk;have hE:=Yq hd;rw[hk1,hk2,hk3]at hE;split at g
     .rename_i x;obtain⟨r,p1,g1⟩:=yf.1 g;obtain⟨l,p2,g2⟩:=yf.1 g1;obtain⟨p3,g3⟩:=Za g2;cases g3;obtain⟨rn,rt,rl⟩:=r;obtain⟨e1,p2⟩:=ZI p2;dsimp only at e1 p2 p3;subst e1;subst p2;rw[ak.er,TD.er,gY p1]at hE;have:=bv.nJ hE (yF p3);rw[vQ,yck,List.map_drop,TD.er,hk3];exact this
     .rename_i N s2 ds;obtain⟨p1,g1⟩:=Za g;simp only[yi,yT,yP]at p1;obtain⟨q1,p1⟩:=p1;obtain⟨l,p2,g2⟩:=Zd g1;subst g2;obtain⟨h2,h3⟩:=ZNI (λd y=>wC n u d y) ds l p2;rw[ak.er,TD.er,q1,hk3]at hE;have:=bv.rL hE p1 h2 h3;rw[vQ,yck,List.map_drop,TD.er,hk3];exact this
     .cases g
    .cases h
   .cases h
  .rename_i id s lo k;split at h
   .rename_i u;split at h
    .rename_i x hd;obtain⟨hk,g⟩:=Za h;rw[yT]at hk;have hE:=Yq hd;obtain⟨r,p1,g1⟩:=yf.1 g;obtain⟨l,p2,g2⟩:=yf.1 g1;obtain⟨p3,g3⟩:=Za g2;cases g3;obtain⟨rn,rt,rl⟩:=r;obtain⟨e1,p2⟩:=ZI p2;dsimp only at e1 p2 p3;subst e1;subst p2;rw[ak.er,TD.er,gY p1]at hE;have:=bv.vw hE (yF p3);rw[vQ,yck,List.map_drop,TD.er,hk];exact .wk this (bJ.gS (bm.refl _))
    .cases h
   .cases h
  .cases h
def px:ak->ak
 |.row v s _ e d=>.row v s ag e d
 |.aW t v _ e l=>.aW t v ag e l
 |e=>e
def oa(ids:yL Nat)(H:yL ak):yL ak:=(yu H.length).zipWith (λi e=>if ids.contains i then px e else e) H
theorem ZNJ(e:ak):dt (ab (px e))=dt (ab e):=by cases e <;> rfl
theorem Zw5(ids:yL Nat)(H:yL ak)(i:Nat):(oa ids H)[i]? =(H[i]?).map λe=>if ids.contains i then px e else e:=by
 unfold oa;rw[List.getElem?_zipWith];rcases ych i H.length with h|h
 .rw[List.getElem?_range h,yac h];rfl
 .rw[ybl (by simpa using h),ybl h];rfl
theorem ZzS(ids:yL Nat)(H:yL ak):lk (oa ids H)=lk H:=by
 funext i;unfold lk;rw[Zw5]
 cases H[i]? with
 |none=>rfl
 |some e=>
  show dt (ab (if ids.contains i=af then px e else e))=_
  split
  .exact ZNJ e
  .rfl
theorem ZIC(ids:yL Nat)(H:yL ak):cg (aG H) (aG (oa ids H)):=by
 refine JJ (by rw[ZQ,ZQ];unfold oa;simp) λi a b h1 h2=> ?_;unfold aG at h1 h2;rw[yak]at h1 h2;rw[ZzS,Zw5]at h2
 cases he:H[i]? with
 |none=>rw[he]at h1;cases h1
 |some e=>
  rw[he]at h1 h2;cases h1;cases h2;show ez (e.er (lk H)) (ak.er (lk H) (if ids.contains i=af then px e else e))
  split
  .cases e <;> first|exact .refl _|exact .lock
  .exact .refl _
def JM:yL ak->Nat->Bool
 |H,i=>match H[i]? with
  |some (.row _ _ _ _ _)=>af
  |some (.aW _ _ _ _ _)=>af
  |_=>ag
def mA:ak->ak
 |.var d _=>.var d ag
 |e=>px e
theorem ZNK(e:ak):dt (ab (mA e))=dt (ab e):=by cases e <;> rfl
def py:ak->ak
 |.var d _=>.var d af
 |.row v s _ e d=>.row v s af e d
 |.aW t v _ e l=>.aW t v af e l
 |.aY t np v _ e a b=>.aY t np v af e a b
 |.bR t np v _ e a d b=>.bR t np v af e a d b
 |e=>e
def oc(id:Nat)(H:yL ak):yL ak:=(yu H.length).zipWith (λi e=>if i=id then mA e else py e) H
theorem ZNL(e:ak):dt (ab (py e))=dt (ab e):=by cases e <;> rfl
theorem ZCK(id:Nat)(H:yL ak)(i:Nat):(oc id H)[i]? =(H[i]?).map λe=>if i=id then mA e else py e:=by
 unfold oc;rw[List.getElem?_zipWith];rcases ych i H.length with h|h
 .rw[List.getElem?_range h,yac h];rfl
 .rw[ybl (by simpa using h),ybl h];rfl
theorem ZGw(id:Nat)(H:yL ak):lk (oc id H)=lk H:=by
 funext i;unfold lk;rw[ZCK]
 cases H[i]? with
 |none=>rfl
 |some e=>
  show dt (ab (if i=id then mA e else py e))=_
  split
  .exact ZNK e
  .exact ZNL e
def lj:ay->ay
 |.var d _=>.var d ag
 |.row v s _ e d=>.row v s ag e d
 |e=>e
def wD:ay->Bool
 |.var _ ag=>af
 |.row _ _ ag _ _=>af
 |_=>ag
theorem ZQh(e:ay):ez e (lj e):=by cases e <;> first|exact .cK|exact .lock|exact .refl _
theorem ZSF{e:ay}(h:wD e=af):lj e=e:=by
 cases e with
 |var d st=>cases st <;> first|rfl|cases h
 |row v s st e d=>cases st <;> first|rfl|cases h
 |_=>cases h
theorem ZLB{L:Lk}{x:ak}(h:lj ((mA x).er L)=(mA x).er L):(mA x).er L=lj (x.er L):=by
 cases x <;> first|rfl|exact h.symm
theorem ZNM{L:Lk}(x:ak):wD ((py x).er L)=ag:=by cases x <;> rfl
theorem ZQi{a b:ay}(h:cz (ab a)=cz (ab b)):lj a=lj b:=by
 cases a <;> cases b <;> simp_all[cz,lj]
theorem ZzU{H H':yL ay}(hh:∀(i:Nat)(e:ay),wD e=af->H[i]? =ab e->H'[i]? =ab e){d:Dv}{x:Pl}(h:bv H d x):bv H' d x:=by
 induction h with
 |p x=>exact .p x
 |own id nn s xs=>exact .own id nn s xs
 |agg hl h ih=>exact .agg hl ih
 |nJ hH hle=>exact .nJ (hh _ _ rfl hH) hle
 |rL hH hle hl h ih=>exact .rL (hh _ _ rfl hH) hle hl ih
 |vw hH hle=>exact .vw (hh _ _ rfl hH) hle
 |wk h k ih=>exact .wk ih k
theorem ZLC{σ:Sg}(ok:Ok σ){id:Nat}{H:yL ak}(hE:cz (σ.H[id]?)=cz ((aG H)[id]?)):∃H2,cg σ.H H2/\∀(d:Dv)(x:Pl),bv (aG (oc id H)) d x->bv H2 d x:=by
 have key:∀(i:Nat)(e:ay),wD e=af->(aG (oc id H))[i]? =ab e->i=id/\∃e0,(aG H)[id]? =ab e0/\e=lj e0:=by
  intro i e hf h;unfold aG at h;rw[yak,ZGw,ZCK]at h
  cases hH:H[i]? with
  |none=>rw[hH]at h;cases h
  |some e0=>
   rw[hH]at h;have h3:(if i=id then mA e0 else py e0).er (lk H)=e:=yaw h
   clear h;by_cases hi:i=id
   .rw[yW hi]at h3;subst hi;refine⟨rfl,_,Yq hH, ?_⟩;subst h3;exact ZLB (ZSF hf)
   .rw[yX hi]at h3;subst h3;rw[ZNM]at hf;cases hf
 cases hx:σ.H[id]? with
 |none=>exact⟨σ.H,cg.refl _,λd x h=>ZzU (λi e hf q=>by
   obtain⟨_,e0,q2,_⟩:=key i e hf q;rw[q2,hx]at hE
   cases e0 <;> simp[cz]at hE) h⟩
 |some y=>
  refine⟨σ.H.set id (lj y),cg.fG hx (ZQh y),λd x h=>ZzU (λi e hf q=> ?_) h⟩;obtain⟨rfl,e0,q2,rfl⟩:=key i e hf q;rw[q2,hx]at hE;rw[ycj (yo.1 hx).1,ZQi hE]
mutual
def TD.rn(f:Nat->yO Nat):TD->yO TD
 |.p x=>ab (.p x)
 |.elem x=>ab (.elem x)
 |.am id yM=>(f id).map λi=>.am i yM
 |.own id nn t c=>(f id).map λi=>.own i nn t c
 |.view id yM s lo n=>(f id).map λi=>.view i yM s lo n
 |.agg xs=>(TD.bt f xs).map .agg
 |.arr n s xs=>(TD.bt f xs).map (.arr n s)
 |.fn g cap=>(TD.bt f cap).map (.fn g)
 |.iface t x=>(TD.rn f x).map (.iface t)
 |.bi xs=>(TD.bt f xs).map .bi
 |.mp id=>(f id).map .mp
 |.rv id v s lo n=>(f id).map λi=>.rv i v s lo n
 |.aZ id v yM=>(f id).map λi=>.aZ i v yM
 |.rw id=>(f id).map .rw
 |.rp id yM=>(f id).map λi=>.rp i yM
 |.aA=>ab .aA
def TD.bt(f:Nat->yO Nat):yL TD->yO (yL TD)
 |[]=>ab []
 |x::r=>match TD.rn f x,TD.bt f r with
  |some y,ab ys=>ab (y::ys)
  |_,_=>ae
end
def ak.rn(f:Nat->yO Nat):ak->yO ak
 |.var d st=>(d.rn f).map λd'=>.var d' st
 |.row v s st e d=>(d.rn f).map λd'=>.row v s st e d'
 |.bR t np v st e pre d post=>(d.rn f).map λd'=>.bR t np v st e pre d' post
 |e=>ab e
def ak.bt(f:Nat->yO Nat):yL ak->yO (yL ak)
 |[]=>ab []
 |x::r=>match ak.rn f x,ak.bt f r with
  |some y,ab ys=>ab (y::ys)
  |_,_=>ae
def Rc(f:Nat->yO Nat)(L M:Lk):Prop:=∀id j t,f id=ab j->Yg L id t ae=Yg M j t ae
theorem ZQj{f:Nat->yO Nat}{L M:Lk}(h:Rc f L M){id j:Nat}(e:f id=ab j)(t:Ty)(c:yO (yL t.aQ)):Yg L id t c=Yg M j t c:=by
 cases c with
 |none=>exact h id j t e
 |some _=>rfl
mutual
theorem gF{f:Nat->yO Nat}{L M:Lk}(h:Rc f L M):∀(d d':TD),d.rn f=ab d'->Dv.rn f (d.er L)=ab (d'.er M)
 |.p x,d',e=>by cases e;rfl
 |.elem x,d',e=>by cases e;rfl
 |.am id yM,d',e=>by
  obtain⟨i,h1,rfl⟩:=Zd e
  simp only[TD.er,Dv.rn,h1,yaa]
 |.own id nn t c,d',e=>by
  obtain⟨i,h1,rfl⟩:=Zd e
  simp only[TD.er,Dv.rn,h1,yaa,ZQj h h1]
 |.view id yM s lo n,d',e=>by
  obtain⟨i,h1,rfl⟩:=Zd e
  simp only[TD.er,Dv.rn,h1,yaa]
 |.agg xs,d',e=>by
  obtain⟨i,h1,rfl⟩:=Zd e
  simp only[TD.er,Dv.rn,cJ h xs i h1,yaa]
 |.arr n s xs,d',e=>by
  obtain⟨i,h1,rfl⟩:=Zd e
  simp only[TD.er,Dv.rn,cJ h xs i h1,yaa]
 |.fn g xs,d',e=>by
  obtain⟨i,h1,rfl⟩:=Zd e
  simp only[TD.er,Dv.rn,cJ h xs i h1,yaa]
 |.iface t x,d',e=>by
  obtain⟨i,h1,rfl⟩:=Zd e
  simp only[TD.er,Dv.rn,gF h x i h1,yaa]
 |.bi xs,d',e=>by
  obtain⟨i,h1,rfl⟩:=Zd e
  simp only[TD.er,Dv.rn,cJ h xs i h1,yaa]
 |.mp id,d',e=>by
  obtain⟨i,h1,rfl⟩:=Zd e
  simp only[TD.er,Dv.rn,h1,yaa]
 |.rv id v s lo n,d',e=>by
  obtain⟨i,h1,rfl⟩:=Zd e
  simp only[TD.er,Dv.rn,h1,yaa]
 |.aZ id v yM,d',e=>by
  obtain⟨i,h1,rfl⟩:=Zd e
  simp only[TD.er,Dv.rn,h1,yaa]
 |.rw id,d',e=>by
  obtain⟨i,h1,rfl⟩:=Zd e
  simp only[TD.er,Dv.rn,h1,yaa,dU,h _ _ _ h1]
 |.rp id yM,d',e=>by
  obtain⟨i,h1,rfl⟩:=Zd e
  simp only[TD.er,Dv.rn,h1,yaa,dU,h _ _ _ h1]
 |.aA,d',e=>by cases e;rfl
theorem cJ{f:Nat->yO Nat}{L M:Lk}(h:Rc f L M):∀(ds es:yL TD),TD.bt f ds=ab es->Dv.bt f (TD.aE L ds)=ab (TD.aE M es)
 |[],es,e=>by cases e;rfl
 |x::r,es,e=>by
  simp only[TD.bt]at e;split at e
  .rename_i y ys h1 h2;cases e;simp only[TD.aE,Dv.bt,gF h x y h1,cJ h r ys h2]
  .cases e
end
theorem JN{α:Type}(f:Nat->yO Nat)(g:α->Pl):∀(l:yL α)(m:yL Dv),Dv.bt f ((l.map λx=>.p (g x))++m)=(Dv.bt f m).map λq=>(l.map λx=>.p (g x))++q
 |[],m=>by cases h:Dv.bt f m <;> simp[h]
 |x::l,m=>by
  rw[yag,yae,Dv.bt,Dv.rn,JN f g l m];cases Dv.bt f m <;> rfl
theorem ZQk{α β:Type}{f:Nat->yO Nat}{g:α->Pl}{g':β->Pl}{l:yL α}{d d':Dv}{m:yL β}(h:Dv.rn f d=ab d'):
 Dv.bt f ((l.map λx=>.p (g x))++d::m.map λx=>.p (g' x))=ab ((l.map λx=>.p (g x))++d'::m.map λx=>.p (g' x)):=by
 have e:=JN f g' m [];rw[yar]at e;rw[JN,Dv.bt,h,e];simp[Dv.bt]
theorem ZNN{f:Nat->yO Nat}{L M:Lk}(h:Rc f L M){e e':ak}(k:e.rn f=ab e'):ay.rn f (e.er L)=ab (e'.er M):=by
 cases e with
 |var d st=>
  obtain⟨i,h1,rfl⟩:=Zd k
  simp only[ak.er,ay.rn,gF h d i h1,yaa]
 |row v s st e d=>
  obtain⟨i,h1,rfl⟩:=Zd k
  simp only[ak.er,ay.rn,gF h d i h1,yaa]
 |bR t np v st e pre d post=>
  obtain⟨i,h1,rfl⟩:=Zd k
  simp only[ak.er,ay.rn,Dv.rn,ZQk (gF h d i h1),yaa]
 |_=>cases k;rfl
theorem ZKa{f:Nat->yO Nat}{L M:Lk}(h:Rc f L M):∀(ds es:yL ak),ak.bt f ds=ab es->ay.bt f (ds.map (ak.er L))=ab (es.map (ak.er M))
 |[],es,e=>by cases e;rfl
 |x::r,es,e=>by
  simp only[ak.bt]at e;split at e
  .rename_i y ys h1 h2;cases e;simp only[yag,ay.bt,ZNN h h1,ZKa h r ys h2]
  .cases e
theorem ZNO{f:Nat->yO Nat}{e e':ak}(k:e.rn f=ab e'):dt (ab e')=dt (ab e):=by
 cases e with
 |var d st=>obtain⟨i,h1,rfl⟩:=Zd k;rfl
 |row v s st e d=>obtain⟨i,h1,rfl⟩:=Zd k;rfl
 |bR t np v st e pre d post=>obtain⟨i,h1,rfl⟩:=Zd k;rfl
 |_=>cases k;rfl
theorem ZGx{f:Nat->yO Nat}:∀{ds es:yL ak},ak.bt f ds=ab es->es.length=ds.length/\∀(j:Nat),dt (es[j]?)=dt (ds[j]?)
 |[],es,e=>by cases e;exact⟨rfl,λ_=>rfl⟩
 |x::r,es,e=>by
  simp only[ak.bt]at e;split at e
  .rename_i y ys h1 h2;cases e;obtain⟨g1,g2⟩:=ZGx h2;refine⟨by simp[g1],λj=> ?_⟩
   cases j with
   |zero=>exact ZNO h1
   |succ j=>exact g2 j
  .cases e
def Vn(H:yL ak)(all:yL Nat):yL Nat->yO (yL ak)
 |[]=>ab []
 |id::r=>match (H[id]?).bind (ak.rn (aV all)),Vn H all r with
  |some e,ab es=>ab (e::es)
  |_,_=>ae
theorem wE{H:yL ak}{all:yL Nat}:∀{ids:yL Nat}{Hin:yL ak},Vn H all ids=ab Hin->Hin.length=ids.length/\∀(j id:Nat),ids[j]? =ab id->id < H.length/\dt (Hin[j]?)=dt (H[id]?)
 |[],Hin,h=>by cases h;exact⟨rfl,λj id e=>by simp at e⟩
 |i::r,Hin,h=>by
  simp only[Vn]at h;split at h
  .rename_i e es h1 h2;cases h;obtain⟨g1,g2⟩:=wE h2;obtain⟨e0,h3,h4⟩:=yf.1 h1;refine⟨by simp[g1],λj id hj=> ?_⟩
   cases j with
   |zero=>
    cases hj
    exact⟨(yo.1 h3).1,by rw[h3];exact ZNO h4⟩
   |succ j=>exact g2 j id hj
  .cases h
theorem W9{H:yL ak}{all:yL Nat}{M:Lk}(h:Rc (aV all) (lk H) M):∀{ids:yL Nat}{Hin:yL ak},Vn H all ids=ab Hin->aJ (aG H) all ids=ab (Hin.map (ak.er M))
 |[],Hin,e=>by cases e;rfl
 |i::r,Hin,e=>by
  simp only[Vn]at e;split at e
  .rename_i e0 es h1 h2;cases e;obtain⟨e1,h3,h4⟩:=yf.1 h1;simp only[aJ,Yq h3,ya,ZNN h h4,W9 h h2,yag]
  .cases e
mutual
def TD.lay(L:Lk)(S:yL Nat):TD->TD
 |.own id nn t c=>if S.contains id then .own id nn t (ab (Yg L id t c)) else .own id nn t c
 |.agg xs=>.agg (TD.lays L S xs)
 |.arr m s xs=>.arr m s (TD.lays L S xs)
 |.fn f xs=>.fn f (TD.lays L S xs)
 |.iface t x=>.iface t (TD.lay L S x)
 |.bi xs=>.bi (TD.lays L S xs)
 |.p x=>.p x
 |.elem x=>.elem x
 |.am id yM=>.am id yM
 |.view id yM s lo n=>.view id yM s lo n
 |.mp id=>.mp id
 |.rv id v s lo n=>.rv id v s lo n
 |.aZ id v yM=>.aZ id v yM
 |.rw id=>if S.contains id then .rv id (dU L id 0) (dU L id 1) 0 (dU L id 2) else .rw id
 |.rp id yM=>if S.contains id then .aZ id (dU L id 0) yM else .rp id yM
 |.aA=>.aA
def TD.lays(L:Lk)(S:yL Nat):yL TD->yL TD
 |[]=>[]
 |x::r=>TD.lay L S x::TD.lays L S r
end
mutual
def TD.under(n:Nat):TD->Bool
 |.own id _ _ c=>c.isSome || decide (id < n)
 |.rw id=>ah (id < n)
 |.rp id _=>ah (id < n)
 |.agg xs=>TD.dj n xs
 |.arr _ _ xs=>TD.dj n xs
 |.fn _ xs=>TD.dj n xs
 |.iface _ x=>TD.under n x
 |.bi xs=>TD.dj n xs
 |_=>af
def TD.dj(n:Nat):yL TD->Bool
 |[]=>af
 |x::r=>TD.under n x&&TD.dj n r
end
def ak.lay(L:Lk)(S:yL Nat):ak->ak
 |.var d st=>.var (d.lay L S) st
 |.row v s st e d=>.row v s st e (d.lay L S)
 |.bR t np v st e pre d post=>.bR t np v st e pre (d.lay L S) post
 |e=>e
def ak.under(n:Nat):ak->Bool
 |.var d _=>d.under n
 |.row _ _ _ _ d=>d.under n
 |.bR _ _ _ _ _ _ d _=>d.under n
 |_=>af
def Lo(S:yL Nat)(n:Nat)(L M:Lk):Prop:=∀id t,S.contains id=ag->id < n->Yg L id t ae=Yg M id t ae
mutual
theorem sJ{L M:Lk}{S:yL Nat}{n:Nat}(h:Lo S n L M):∀(d:TD),d.under n=af->(d.lay L S).er M=d.er L
 |.p _,_=>rfl
 |.elem _,_=>rfl
 |.am _ _,_=>rfl
 |.own id nn t c,hf=>by
  rw[TD.lay];split
  .rfl
  .rename_i hn
   cases c with
   |none=>
    have:id < n:=by simpa[TD.under] using hf
    rw[TD.er,TD.er,h id t (by simpa using hn) this]
   |some _=>rfl
 |.view _ _ _ _ _,_=>rfl
 |.agg xs,hf=>by rw[TD.lay,TD.er,TD.er,du h xs hf]
 |.arr _ _ xs,hf=>by rw[TD.lay,TD.er,TD.er,du h xs hf]
 |.fn _ xs,hf=>by rw[TD.lay,TD.er,TD.er,du h xs hf]
 |.iface _ x,hf=>by rw[TD.lay,TD.er,TD.er,sJ h x hf]
 |.bi xs,hf=>by rw[TD.lay,TD.er,TD.er,du h xs hf]
 |.mp _,_=>rfl
 |.rv _ _ _ _ _,_=>rfl
 |.aZ _ _ _,_=>rfl
 |.rw id,hf=>by
  rw[TD.lay];split
  .rfl
  .rename_i hn;have:id < n:=by simpa[TD.under] using hf
   simp only[TD.er,dU,h id _ (by simpa using hn) this]
 |.rp id _,hf=>by
  rw[TD.lay];split
  .rfl
  .rename_i hn;have:id < n:=by simpa[TD.under] using hf
   simp only[TD.er,dU,h id _ (by simpa using hn) this]
 |.aA,_=>rfl
theorem du{L M:Lk}{S:yL Nat}{n:Nat}(h:Lo S n L M):∀(ds:yL TD),TD.dj n ds=af->TD.aE M (TD.lays L S ds)=TD.aE L ds
 |[],_=>rfl
 |x::r,hf=>by
  simp only[TD.dj,yi]at hf;rw[TD.lays,TD.aE,TD.aE,sJ h x hf.1,du h r hf.2]
end
theorem ZGy{L:Lk}{S:yL Nat}:∀(l:yL TD),(TD.lays L S l).length=l.length
 |[]=>rfl
 |_::r=>by rw[TD.lays,yam,yam,ZGy r]
theorem ZQl{L M:Lk}{S:yL Nat}{n:Nat}(h:Lo S n L M){e:ak}(hf:e.under n=af):(e.lay L S).er M=e.er L:=by
 cases e with
 |var d st=>rw[ak.lay,ak.er,ak.er,sJ h d hf]
 |row v s st e d=>rw[ak.lay,ak.er,ak.er,sJ h d hf]
 |bR t np v st e pre d post=>rw[ak.lay,ak.er,ak.er,sJ h d hf]
 |_=>rfl
theorem ZQm{L:Lk}{S:yL Nat}(e:yO ak):dt (e.map (ak.lay L S))=dt e:=by
 cases e with
 |none=>rfl
 |some e=>cases e <;> rfl
theorem Zw7{α β:Type}(f:α->β):∀(ids:yL Nat)(A B:yL α),(au A ids B).map f=au (A.map f) ids (B.map f)
 |[],A,B=>by simp[au]
 |id::r,A,[]=>by simp[au]
 |id::r,A,b::B=>by simp only[au,yag];rw[Zw7 f r,ybp]
def TD.bL(L:Lk)(ids:yL Nat):TD->TD
 |.own id nn t c=>if ids.contains id then .own id nn t c else .p (.sl nn t (Yg L id t c))
 |.agg ds=>if TD.de ids ds then .agg ds else TD.eP L ds
 |d=>d
theorem JO{L:Lk}{ids:yL Nat}(d:TD):(d.bL L ids).er L=Dv.bL ids (d.er L):=by
 cases d with
 |own id nn t c=>
  rw[TD.bL,TD.er,Dv.bL]
  split <;> rfl
 |p _=>rfl
 |elem _=>rfl
 |am _ _=>rfl
 |view _ _ _ _ _=>rfl
 |agg ds=>
  rw[TD.bL,TD.er,Dv.bL,eW];split
  .rw[TD.er]
  .exact ZJW _
 |arr _ _ _=>rfl
 |fn _ _=>rfl
 |iface _ _=>rfl
 |bi _=>rfl
 |mp _=>rfl
 |rv _ _ _ _ _=>rfl
 |aZ _ _ _=>rfl
 |rw _=>rfl
 |rp _ _=>rfl
 |aA=>rfl
def mB(P:yg)(ts:yL TD):yL ym->yL yc->yO (yL TD)
 |[],_=>ab []
 |_,[]=>ab []
 |x::r,t::q=>match bo P ts t x,mB P ts r q with
  |some a,ab b=>ab (a::b)
  |_,_=>ae
theorem pz{P:yg}{ts:yL TD}{L:Lk}(ids:yL Nat):∀{l:yL ym}{ty:yL yc}{ds:yL TD},mB P ts l ty=ab ds->
 ((l.zip ty).map λq=>(ZB P (TD.aE L ts) q.2 q.1).bL ids)=TD.aE L (ds.map (TD.bL L ids))
 |[],ty,ds,h=>by cases h;rfl
 |x::r,[],ds,h=>by cases h;rfl
 |x::r,t::q,ds,h=>by
  simp only[mB]at h;split at h
  .rename_i a b h1 h2;cases h;simp only[List.zip_cons_cons,yag,TD.aE,Zz (L:=L) h1,JO,pz ids h2]
  .cases h
theorem wF{L:Lk}(ids:yL Nat)(ds:yL TD):(TD.aE L ds).map (Dv.bL ids)=TD.aE L (ds.map (TD.bL L ids)):=by
 rw[ZH,ZH,ybf,ybf];exact ycn λx _=>(JO x).symm
structure Fs(P:yg)where
 g:yq
 ps:List Sh
 es:List bf
 ins:List Ty
 xs:List bD
 M:Ty.aH ins->Option (bD.sum xs)
def Fs.Ok{P:yg}(s:Fs P):Prop:=
 ∀x o,s.M x=ab o->∃args R H,Sh.fills s.ps (dz s.ins x)=ab (args,R)/\bf.fills s.es R=ab (H,[])/\
  ∀e vs s',mz s.xs o e vs->QQ 1 e.sl e.es vs=ab s'->∃r,s'.1=[r]/\cH P s.g (TD.aE (lk H) args) (aG H) (r.er (lk s'.2)) (aG s'.2)
def cG{P:yg}:yL (Fs P)->Prop
 |[]=>True
 |s::r=>s.Ok/\cG r
mutual
def Sh.ids:Sh->TD->yL (Nat×Nat)
 |.own j _,d=>match d with
  |.own id _ _ ae=>[(j,id)]
  |_=>[]
 |.am j _,d=>match d with
  |.am id _=>[(j,id)]
  |_=>[]
 |.mp j,d=>match d with
  |.mp id=>[(j,id)]
  |_=>[]
 |.rw j,d=>match d with
  |.rw id=>[(j,id)]
  |_=>[]
 |.rp j _ _,d=>match d with
  |.rp id _=>[(j,id)]
  |_=>[]
 |.view j _ _ _ _,d=>match d with
  |.view id _ _ _ _=>[(j,id)]
  |_=>[]
 |.rv j _ _ _ _,d=>match d with
  |.rv id _ _ _ _=>[(j,id)]
  |_=>[]
 |.fn _ l,d=>match d with
  |.fn _ ds=>Sh.gG l ds
  |_=>[]
 |.agg l,d=>match d with
  |.agg ds=>Sh.gG l ds
  |_=>[]
 |.arr _ _ l,d=>match d with
  |.arr _ _ ds=>Sh.gG l ds
  |_=>[]
 |.bi l,d=>match d with
  |.bi ds=>Sh.gG l ds
  |_=>[]
 |.iface _ x,d=>match d with
  |.iface _ y=>Sh.ids x y
  |_=>[]
 |_,_=>[]
def Sh.gG:yL Sh->yL TD->yL (Nat×Nat)
 |[],_=>[]
 |s::r,ds=>match ds with
  |d::q=>Sh.ids s d++Sh.gG r q
  |[]=>[]
end
def JP(H:yL ak):yL bf->Nat->yL (Nat×Nat)->yL (Nat×Nat)
 |[],_,l=>l
 |e::r,j,l=>JP H r (j+1) (match e,(l.lookup j).bind λid=>H[id]? with
  |.var s _,ab (.var d _)=>l++Sh.ids s d
  |.nX _ _ _ _ _ sl,ab (.row _ _ _ _ (.arr _ _ ds))=>l++Sh.gG sl ds
  |_,_=>l)
def ZNP(H:yL ak):yO Nat:=(yu H.length).reverse.find? λi=>match H[i]? with
 |some .gone=>af
 |_=>ag
def ZRG(H:yL ak)(ps:yL Sh)(es:yL bf)(ds:yL TD):yO (yL Nat):=
 match ps,es with
 |[],[.gone]=>(ZNP H).map λi=>[i]
 |_,_=>
  let l:=JP H es 0 (Sh.gG ps ds)
  (yu es.length).mapM λj=>l.lookup j
def wG{P:yg}(s:Fs P)(H:yL ak)(args:yL TD)(ids:yL Nat):yO (Ty.aH s.ins):=
 if once ids then(TD.bt (aV ids) (args.map (TD.bL (lk H) ids))).bind λa2=>(Vn H ids ids).bind λHin=>
  (Sh.cX (lk Hin) s.ps a2).bind λq=>(bf.cX (lk Hin) s.es Hin).bind λw=>hJ s.ins (q.2++w.2)
 else ae
theorem fp{H Hin:yL ak}{ids:yL Nat}(h:Vn H ids ids=ab Hin):Rc (aV ids) (lk H) (lk Hin):=by
 intro id j t e;obtain⟨g1,g2⟩:=wE h;have hj:=bQ e;have:=(g2 j id hj).2;unfold Yg lk;grind
theorem ZQn{P:yg}{s:Fs P}{H:yL ak}{args:yL TD}{ids:yL Nat}{x:Ty.aH s.ins}(h:wG s H args ids=ab x):
 once ids=af/\∃Hin a2 a3 H3 R,Vn H ids ids=ab Hin/\aJ (aG H) ids ids=ab (aG Hin)/\Dv.bt (aV ids) (TD.aE (lk H) (args.map (TD.bL (lk H) ids)))=ab (TD.aE (lk Hin) a2)/\
  Sh.fills s.ps (dz s.ins x)=ab (a3,R)/\bf.fills s.es R=ab (H3,[])/\cF (TD.aE (lk Hin) a2) (TD.aE (lk H3) a3)/\cg (aG Hin) (aG H3):=by
 unfold wG at h;split at h
 .rename_i ho;obtain⟨a2,h1,h⟩:=yf.1 h;obtain⟨Hin,h2,h⟩:=yf.1 h;obtain⟨q,h3,h⟩:=yf.1 h;obtain⟨w,h4,h⟩:=yf.1 h;obtain⟨g1,g2⟩:=pq h4;have e:=jw _ _ _ h;have hc:∀id t,Yg (lk Hin) id t ae=Yg (lk w.1) id t ae:=λid t=>by rw[g2]
  refine⟨ho,Hin,a2,q.1,w.1,w.2,h2,W9 (fp h2) h2,cJ (fp h2) _ _ h1, ?_, ?_,cB hc _ _ _ h3,pr hc h4⟩
  .rw[e];exact bH _ _ _ h3 _
  .have:=nY h4 [];grind
 .cases h
section
variable{P:yg}{o:Oper}{ts all:yL TD}{H:yL ak}{O:Type}{K:Kn O}{out:O}
def wH(all:yL TD)(H:yL ak)(K:Kn O)(ids:yL Nat)(r:TD)(Hn:yL ak):yO O:=
 if(ids.isEmpty&&Hn.isEmpty)=af then(r.rn λ_=>ae).bind λr'=>K all r' H [.call (r.er (lk [])) [] []] 0 else
 (r.rn (aO ids H.length)).bind λr'=>(ak.bt (aO ids H.length) Hn).bind λHb=>
   if(ah (ids.length<=Hn.length)&&TD.dj H.length all&&H.all (ak.under H.length))=af then
    K (TD.lays (lk H) ids all) r' (au (H.map (ak.lay (lk H) ids)) ids Hb) [.call (r.er (lk Hn)) (aG Hn) ids] 2
   else ae
def JQ(s:Fs P)(all:yL TD)(H:yL ak)(K:Kn O)(args:yL TD)(ids:yL Nat)(x:Ty.aH s.ins):yO O:=
 (s.M x).bind λy=>xT 1 s.xs y λ_ rs Hn=>match rs with
   |[r]=>wH all H K ids r Hn
   |_=>ae
def pA(g:yq)(all:yL TD)(H:yL ak)(K:Kn O)(args:yL TD)(yR:yO O):yL (Fs P)->yO O
 |[]=>yR
 |s::yJ=>if s.g=g then match (ZRG H s.ps s.es args).bind λids=>(wG s H args ids).map λx=>(ids,x) with
   |some q=>JQ s all H K args q.1 q.2
   |none=>pA g all H K args yR yJ
  else pA g all H K args yR yJ
mutual
def Sh.gH:Sh->TD->Bool
 |.v t,d=>match d with
  |.p (.v u _)=>match Ty.dec u t with
   |isTrue _=>af
   |isFalse _=>ag
  |_=>ag
 |.own _ _,d=>match d with
  |.own _ ae _ ae=>af
  |_=>ag
 |.am _ _,d=>match d with
  |.am _ _=>af
  |_=>ag
 |.mp _,d=>match d with
  |.mp _=>af
  |_=>ag
 |.rw _,d=>match d with
  |.rw _=>af
  |_=>ag
 |.agg l,d=>match d with
  |.agg ds=>Sh.gI l ds
  |_=>ag
 |.arr _ _ l,d=>match d with
  |.arr _ _ ds=>Sh.gI l ds
  |_=>ag
 |.bE,_=>af
 |.fn0,_=>af
 |.dE,_=>af
 |.bU,_=>af
 |_,_=>ag
def Sh.gI:yL Sh->yL TD->Bool
 |[],[]=>af
 |s::r,d::q=>Sh.gH s d&&Sh.gI r q
 |_,_=>ag
end
theorem ZU3{L:Lk}{t:Ty}{d:TD}{q:TD×yL TV}(h:Sh.gH (.v t) d=af)(k:Sh.mt L (.v t) d=ab q):q.1=d:=by
 unfold Sh.gH at h;split at h
 .rename_i u y;split at h
  .rename_i e _;subst e;unfold Sh.mt TD.JG TP.to at k;dsimp only at k;rw[YF,yaa]at k;cases k;rfl
  .cases h
 .cases h
theorem ZSH{L:Lk}{j:Nat}{t:Ty}{d:TD}{q:TD×yL TV}(h:Sh.gH (.own j t) d=af)(k:Sh.mt L (.own j t) d=ab q):q.1=d:=by
 unfold Sh.gH at h;split at h
 .unfold Sh.mt at k
  all_goals grind
 .cases h
theorem ZSI{L:Lk}{j:Nat}{p:yL bX}{d:TD}{q:TD×yL TV}(h:Sh.gH (.am j p) d=af)(k:Sh.mt L (.am j p) d=ab q):q.1=d:=by
 unfold Sh.gH at h;split at h
 .unfold Sh.mt at k;dsimp only at k;split at k
  .rename_i e;obtain⟨rfl,e2⟩:=e;have:=sG e2;grind
  .cases k
 .cases h
theorem ZT1{L:Lk}{j:Nat}{d:TD}{q:TD×yL TV}(h:Sh.gH (.mp j) d=af)(k:Sh.mt L (.mp j) d=ab q):q.1=d:=by
 unfold Sh.gH at h;split at h
 .unfold Sh.mt at k
  all_goals grind
 .cases h
theorem ZT2{L:Lk}{j:Nat}{d:TD}{q:TD×yL TV}(h:Sh.gH (.rw j) d=af)(k:Sh.mt L (.rw j) d=ab q):q.1=d:=by
 unfold Sh.gH at h;split at h
 .unfold Sh.mt at k
  all_goals grind
 .cases h
mutual
theorem ZRH{L:Lk}:∀(s:Sh)(d:TD)(q:TD×yL TV),Sh.gH s d=af->Sh.mt L s d=ab q->q.1=d
 |.v t,d,q,h,k=>ZU3 h k
 |.own j t,d,q,h,k=>ZSH h k
 |.am j p,d,q,h,k=>ZSI h k
 |.mp j,d,q,h,k=>ZT1 h k
 |.rw j,d,q,h,k=>ZT2 h k
 |.agg l,.agg ds,q,h,k=>by
  have k:(Sh.cX L l ds).map (λq=>(TD.agg q.1,q.2))=ab q:=by unfold Sh.mt at k;exact k
  have h:Sh.gI l ds=af:=by unfold Sh.gH at h;exact h
  obtain⟨w,k1,k2⟩:=Zd k;rw[<-k2]
  exact congrArg TD.agg (fH l ds w h k1)
 |.arr n s l,.arr m s2 ds,q,h,k=>by
  have k:(if m=n/\s2=s then(Sh.cX L l ds).map (λq=>(TD.arr n s q.1,q.2)) else ae)=ab q:=by unfold Sh.mt at k;exact k
  have h:Sh.gI l ds=af:=by unfold Sh.gH at h;exact h
  split at k
  .rename_i e;obtain⟨w,k1,k2⟩:=Zd k;rw[<-k2,e.1,e.2];exact congrArg (TD.arr n s) (fH l ds w h k1)
  .cases k
 |.bE,d,q,h,k=>by
  unfold Sh.mt at k
  split at k <;> first|(cases k;rfl)|cases k
 |.fn0,d,q,h,k=>by
  unfold Sh.mt at k
  split at k <;> first|(cases k;rfl)|cases k
 |.dE,d,q,h,k=>by
  unfold Sh.mt at k
  split at k <;> first|(cases k;rfl)|cases k
 |.bU,d,q,h,k=>by
  unfold Sh.mt at k;split at k <;> first|(cases k;rfl)|cases k
theorem fH{L:Lk}:∀(l:yL Sh)(ds:yL TD)(q:yL TD×yL TV),Sh.gI l ds=af->Sh.cX L l ds=ab q->q.1=ds
 |[],[],q,_,k=>by
  simp only[Sh.cX]at k;cases k
  rfl
 |[],_::_,_,h,_=>by cases h
 |_::_,[],_,h,_=>by cases h
 |s::r,d::ds,q,h,k=>by
  simp only[Sh.gI,yi]at h;simp only[Sh.cX]at k;split at k
  .rename_i a b k1 k2;cases k;rw[ZRH s d a h.1 k1,fH r ds b h.2 k2]
  .cases k
end
def bf.JR:bf->ak->Bool
 |.var s st,.var d st'=>(st==st')&&s.gH d
 |.log t _,.log u _ _=>match Ty.dec u t with
  |isTrue _=>af
  |isFalse _=>ag
 |.gone,.gone=>af
 |_,_=>ag
theorem ZSJ{L:Lk}{s:bf}{d:ak}{q:ak×yL TV}(h:s.JR d=af)(k:s.mt L d=ab q):q.1=d:=by
 unfold bf.JR at h;split at h
 .simp only[yi,yT]at h;obtain⟨rfl,h⟩:=h;simp only[bf.mt]at k;split at k
  .obtain⟨w,k1,rfl⟩:=Zd k;show ak.var w.1 _=_;rw[ZRH _ _ w h k1]
  .cases k
 .split at h
  .rename_i e _;subst e;simp only[bf.mt]at k;split at k
   .rename_i e;subst e;obtain⟨w,k1,rfl⟩:=Zd k;obtain⟨e1,e2⟩:=ZI k1;grind
   .cases k
  .cases h
 .simp only[bf.mt]at k;cases k;rfl
 .cases h
def bf.wI:yL bf->yL ak->Bool
 |[],[]=>af
 |s::r,d::q=>s.JR d&&bf.wI r q
 |_,_=>ag
theorem ZGz{L:Lk}:∀{l:yL bf}{ds:yL ak}{q:yL ak×yL TV},bf.wI l ds=af->bf.cX L l ds=ab q->q.1=ds
 |[],[],q,_,k=>by
  simp only[bf.cX]at k;cases k
  rfl
 |[],_::_,_,h,_=>by cases h
 |_::_,[],_,h,_=>by cases h
 |s::r,d::ds,q,h,k=>by
  simp only[bf.wI,yi]at h;simp only[bf.cX]at k;split at k
  .rename_i a b k1 k2;cases k;rw[ZSJ h.1 k1,ZGz h.2 k2]
  .cases k
structure Rs(P:yg)where
 g:yq
 ps:List Sh
 es:List bf
 ins:List Ty
 r:Sh
 t:List Ty
 M:Ty.aH ins->Option (Ty.aH t)
def Rs.Ok{P:yg}(s:Rs P):Prop:=
 ∀x o,s.M x=ab o->∃args R H,Sh.fills s.ps (dz s.ins x)=ab (args,R)/\bf.fills s.es R=ab (H,[])/\
  ∀q,Sh.fill s.r (dz s.t o)=ab q->cH P s.g (TD.aE (lk H) args) (aG H) (q.1.er (lk H)) (aG H)
def jx{P:yg}:yL (Rs P)->Prop
 |[]=>True
 |s::r=>s.Ok/\jx r
mutual
theorem wJ{f g:Nat->yO Nat}(hfg:∀i j,f i=ab j->g j=ab i):∀(d d':Dv),d.rn f=ab d'->d'.rn g=ab d
 |.p x,d',h=>by cases h;rfl
 |.elem x,d',h=>by cases h;rfl
 |.am id o p,d',h=>by
  simp only[Dv.rn,yn]at h;obtain⟨i,h1,rfl⟩:=h
  simp only[Dv.rn,hfg _ _ h1,yaa]
 |.own id nn s xs,d',h=>by
  simp only[Dv.rn,yn]at h;obtain⟨i,h1,rfl⟩:=h
  simp only[Dv.rn,hfg _ _ h1,yaa]
 |.view id o p s lo n,d',h=>by
  simp only[Dv.rn,yn]at h;obtain⟨i,h1,rfl⟩:=h
  simp only[Dv.rn,hfg _ _ h1,yaa]
 |.agg xs,d',h=>by
  simp only[Dv.rn,yn]at h;obtain⟨i,h1,rfl⟩:=h
  simp only[Dv.rn,dm hfg _ _ h1,yaa]
 |.arr n s xs,d',h=>by
  simp only[Dv.rn,yn]at h;obtain⟨i,h1,rfl⟩:=h
  simp only[Dv.rn,dm hfg _ _ h1,yaa]
 |.fn k xs,d',h=>by
  simp only[Dv.rn,yn]at h;obtain⟨i,h1,rfl⟩:=h
  simp only[Dv.rn,dm hfg _ _ h1,yaa]
 |.iface t x,d',h=>by
  simp only[Dv.rn,yn]at h;obtain⟨i,h1,rfl⟩:=h
  simp only[Dv.rn,wJ hfg _ _ h1,yaa]
 |.bi xs,d',h=>by
  simp only[Dv.rn,yn]at h;obtain⟨i,h1,rfl⟩:=h
  simp only[Dv.rn,dm hfg _ _ h1,yaa]
 |.mp id,d',h=>by
  simp only[Dv.rn,yn]at h;obtain⟨i,h1,rfl⟩:=h
  simp only[Dv.rn,hfg _ _ h1,yaa]
 |.rv id v s lo n,d',h=>by
  simp only[Dv.rn,yn]at h;obtain⟨i,h1,rfl⟩:=h
  simp only[Dv.rn,hfg _ _ h1,yaa]
 |.aZ id v o p,d',h=>by
  simp only[Dv.rn,yn]at h;obtain⟨i,h1,rfl⟩:=h
  simp only[Dv.rn,hfg _ _ h1,yaa]
 |.aA,d',h=>by cases h;rfl
theorem dm{f g:Nat->yO Nat}(hfg:∀i j,f i=ab j->g j=ab i):∀(d d':yL Dv),Dv.bt f d=ab d'->Dv.bt g d'=ab d
 |[],d',h=>by cases h;rfl
 |x::r,d',h=>by
  simp only[Dv.bt]at h;split at h
  .rename_i y ys h1 h2;cases h;simp only[Dv.bt,wJ hfg x y h1,dm hfg r ys h2]
  .cases h
end
theorem ZNQ{f g:Nat->yO Nat}(hfg:∀i j,f i=ab j->g j=ab i){e e':ay}(h:e.rn f=ab e'):e'.rn g=ab e:=by
 cases e with
 |var d st=>
  simp only[ay.rn,yn]at h;obtain⟨y,h1,rfl⟩:=h
  simp only[ay.rn,wJ hfg _ _ h1,yaa]
 |row v s st t d=>
  simp only[ay.rn,yn]at h;obtain⟨y,h1,rfl⟩:=h
  simp only[ay.rn,wJ hfg _ _ h1,yaa]
 |log _ _ _=>cases h;rfl
 |map _ _=>cases h;rfl
 |gone=>cases h;rfl
theorem ZNR{H:yL ay}{ids:yL Nat}{Hin:yL ay}(ho:once ids=af)(h:aJ H ids ids=ab Hin):∃Hb,ay.bt (aO ids H.length) Hin=ab Hb/\au H ids Hb=H:=by
 have hfg:∀i j,aV ids i=ab j->aO ids H.length j=ab i:=by
  intro i j e;have hj:=bQ e;unfold aO;grind
 have key:∀(l:yL Nat)(A:yL ay),aJ H ids l=ab A->∃B,ay.bt (aO ids H.length) A=ab B/\B.length=l.length/\∀(j id:Nat),l[j]? =ab id->B[j]? =H[id]? /\id < H.length:=by
  intro l
  induction l with
  |nil=>
   intro A hA;simp only[aJ,yp]at hA;subst hA
   exact⟨[],rfl,rfl,λj id hj=>by simp at hj⟩
  |cons x r ih=>
   intro A hA;simp only[aJ]at hA;split at hA
   .rename_i e es h1 h2;cases hA;obtain⟨B,b1,b2,b3⟩:=ih es h2;obtain⟨e0,g1,g2⟩:=yf.1 h1;refine⟨e0::B, ?_,by simp[b2],λj id hj=> ?_⟩
    .simp only[ay.bt,ZNQ hfg g2,b1]
    .cases j with
     |zero=>
      simp only[ybm,yp]at hj;subst hj
      exact⟨by rw[ybm,g1],(yo.1 g1).1⟩
     |succ j=>exact b3 j id (by simpa using hj)
   .cases hA
 obtain⟨Hb,b1,b2,b3⟩:=key ids Hin h
 have hlt:∀i,i∈ids->i < H.length:=λi hi=>by
  obtain⟨j,hj⟩:=List.getElem?_of_mem hi;grind
 refine⟨Hb,b1, ?_⟩;have hle:ids.length<=Hb.length:=by omega
 apply List.ext_getElem?;intro i;have zV:(au H ids Hb).length=H.length:=by rw[vq _ _ _ hle];omega
 by_cases hi:i < H.length
 .by_cases hm:i∈ids
  .obtain⟨j,hj⟩:=List.getElem?_of_mem hm;rw[rC H ids Hb j i ho hle hlt hj,(b3 j i hj).1]
  .exact oV H ids Hb i hle hi hm
 grind
structure Sp(P:yg)where
 l:List (Fs P):=[]
 hd:(O:Type)->yq->List TD->List ak->(TD->List ak->Option O)->Option O:=λ_ _ _ _ _=>ae
 mt:List (yc×String×yq):=[]
 ro:List (Rs P):=[]
def od(P:yg)(hd:(O:Type)->yq->yL TD->yL ak->(TD->yL ak->yO O)->yO O):Prop:=
 ∀(O:Type)(g:yq)(args:yL TD)(H:yL ak)(K:TD->yL ak->yO O)(out:O),hd O g args H K=ab out->
  ∃r H',K r H'=ab out/\cH P g (TD.aE (lk H) args) (aG H) (r.er (lk H')) (aG H')
def gJ(P:yg):yL (yc×String×yq)->Prop
 |[]=>True
 |q::r=>oI P q.1 q.2.1 q.2.2/\gJ P r
def sK:yL (yc×String×yq)->yc->String->yO yq
 |[],_,_=>ae
 |q::r,t,n=>if q.1=t then if q.2.1=n then ab q.2.2 else sK r t n else sK r t n
theorem JS:∀{l:yL (yc×String×yq)}{t:yc}{n:String}{g:yq},gJ P l->sK l t n=ab g->oI P t n g
 |[],_,_,_,_,h=>by cases h
 |q::r,t,n,g,hk,h=>by
  unfold sK at h;split at h
  .rename_i e1;split at h
   .rename_i e2;cases h;rw[<-e1, <-e2];exact hk.1
   .exact JS hk.2 h
  .exact JS hk.2 h
structure dp(s:Sp P):Prop where
 l:cG s.l
 hd:od P s.hd
 mt:gJ P s.mt
 ro:jx s.ro
theorem ZQp:od P (λ_ _ _ _ _=>ae):=λ_ _ _ _ _ _ h=>by cases h
theorem iw{l:yL (Fs P)}(h:cG l):dp ({ l:=l}:Sp P):=⟨h,ZQp,zZ,ao⟩
mutual
def TD.look:TD->yL Nat
 |.am id _=>[id]
 |.own id _ _ _=>[id]
 |.view id _ _ _ _=>[id]
 |.mp id=>[id]
 |.rv id _ _ _ _=>[id]
 |.aZ id _ _=>[id]
 |.rw id=>[id]
 |.rp id _=>[id]
 |.agg xs=>TD.looks xs
 |.arr _ _ xs=>TD.looks xs
 |.fn _ xs=>TD.looks xs
 |.iface _ x=>TD.look x
 |.bi xs=>TD.looks xs
 |_=>[]
def TD.looks:yL TD->yL Nat
 |[]=>[]
 |x::r=>TD.look x++TD.looks r
end
def ak.look:ak->yL Nat
 |.var d _=>d.look
 |.row _ _ _ _ d=>d.look
 |.bR _ _ _ _ _ _ d _=>d.look
 |_=>[]
def mC(h:yL ak):Nat->yL Nat->yL Nat->yL Nat
 |0,_,got=>got
 |_+1,[],got=>got
 |k+1,id::r,got=>if got.contains id then mC h k r got else mC h k (((h[id]?).map ak.look).getD []++r) (id::got)
def wK(sp:Sp P)(g:yq)(all:yL TD)(H:yL ak)(K:Kn O)(args:yL TD):yO O:=
 let ids:=mC H 100000 (TD.looks args) []
 if once ids then(TD.bt (aV ids) (args.map (TD.bL (lk H) ids))).bind λa2=>(Vn H ids ids).bind λHin=>
  sp.hd O g a2 Hin λr Hn=>wH all H K ids r Hn
 else ae
def sL(g:yq)(all:yL TD)(H:yL ak)(K:Kn O)(args:yL TD)(yR:yO O):yL (Rs P)->yO O
 |[]=>yR
 |s::yJ=>if s.g=g then(ZRG H s.ps s.es args).bind λids=>(Vn H ids ids).bind λHin=>if(once ids&& !ids.isEmpty&&bf.wI s.es Hin)=af then
   (TD.bt (aV ids) (args.map (TD.bL (lk H) ids))).bind λa2=>(Sh.cX (lk Hin) s.ps a2).bind λq=>(bf.cX (lk Hin) s.es Hin).bind λw=>(hJ s.ins (q.2++w.2)).bind λx=>
     (s.M x).bind λy=>(Sh.fill s.r (dz s.t y)).bind λq=>(q.1.rn λ_=>ae).bind λr'=>K all r' H [.call (q.1.er (lk Hin)) (aG Hin) ids] 3
   else ae
  else sL g all H K args yR yJ
def ZRI(sp:Sp P)(g:yq)(all:yL TD)(H:yL ak)(K:Kn O)(args:yL TD):yO O:=sL g all H K args (pA g all H K args (wK sp g all H K args) sp.l) sp.ro
def eC(h:yL ak):yL Sh->yL TD->yO (yL TV×yL Pl)
 |[],[]=>ab ([],[])
 |.v t::r,d::q=>(pu h 100 t d).bind λy=>(eC h r q).map λw=>(⟨t,y⟩::w.1,t.enc y::w.2)
 |_,_=>ae
def TD.mD:TD->yO Pl
 |.p (.v t x)=>if t.flat=af then ab (t.enc x) else ae
 |_=>ae
mutual
theorem wL:∀(t:Ty)(x:t.aQ),t.flat=af->(t.enc x).flat=af
 |.int _,_,_=>rfl
 |.u8,_,_=>rfl
 |.u32,_,_=>rfl
 |.u64,_,_=>rfl
 |.bool,_,_=>rfl
 |.str,_,h=>by cases h
 |.sl _,_,h=>by cases h
 |.arr n t,x,h=>by
  have key:∀l:yL t.aQ,Pl.aP (l.map t.enc)=af:=by
   intro l
   induction l with
   |nil=>rfl
   |cons y r ih=>rw[yag,Pl.aP,wL t y h,ih];rfl
  exact key x
 |.st fs,x,h=>fC fs x h
theorem fC:∀(fs:yL Ty)(x:Ty.aH fs),Ty.aP fs=af->Pl.aP (Ty.encs fs x)=af
 |[],_,_=>rfl
 |[t],x,h=>by
  simp only[Ty.aP,Bool.and_true]at h;rw[Ty.encs,Pl.aP,wL t x h]
  rfl
 |t::u::r,x,h=>by
  have h':(t.flat&&Ty.aP (u::r))=af:=h;rw[yi]at h';rw[Ty.encs,Pl.aP,wL t x.1 h'.1,fC (u::r) x.2 h'.2];rfl
end
theorem ZzX{d:TD}{p:Pl}{L:Lk}(h:d.mD=ab p):d.er L=.p p/\p.flat=af:=by
 cases d with
 |p x=>
  cases x with
  |v t y=>
   replace h:(if t.flat=af then ab (t.enc y) else ae)=ab p:=h
   split at h
   .rename_i hf;cases h;exact⟨rfl,wL t y hf⟩
   .cases h
  |_=>cases h
 |_=>cases h
def sM(g:yq)(all:yL TD)(H:yL ak)(K:Kn O)(args:yL TD)(yR:yO O):yL (Fs P)->yO O
 |[]=>yR
 |s::yJ=>if s.g=g/\s.es.isEmpty=af then match (Dv.fv (TD.aE (lk H) (args.map (TD.bL (lk H) [])))).bind λid=>eC (oc id H) s.ps (args.map (TD.bL (lk H) [])) with
   |some q=>(hJ s.ins q.1).bind λx=>(s.M x).bind λy=>xT 1 s.xs y λ_ rs Hn=>match rs,Hn with
    |[r],[]=>r.mD.bind λp=>K all r H [.el (.agg q.2),.call (.p p) [] []] 1
    |_,_=>ae
   |none=>sM g all H K args yR yJ
  else sM g all H K args yR yJ
def ZRJ(sp:Sp P)(g:yq)(all:yL TD)(H:yL ak)(K:Kn O)(args:yL TD):yO O:=sL g all H K args (pA g all H K args (sM g all H K args (wK sp g all H K args) sp.l) sp.l) sp.ro
structure cS(P:yg)(g:yq)(all args:List TD)(H:List ak)(a':List TD)(d:TD)(H':List ak)(hs:List ar)(bC:Nat):Prop where
 same:TD.aE (lk H') a'=TD.aE (lk H) all
 len:a'.length=all.length
 op:∃(ids:List Nat)(Hin Hn Hb:List ay)(az:List Dv)(r:Dv),once ids=af/\ids.length<=Hn.length/\aJ (aG H) ids ids=ab Hin/\
  Dv.bt (aV ids) (TD.aE (lk H) (args.map (TD.bL (lk H) ids)))=ab az/\cH P g az Hin r Hn/\r.rn (aO ids H.length)=ab (d.er (lk H'))/\ay.bt (aO ids H.length) Hn=ab Hb/\
  aG H'=au (aG H) ids Hb/\hs=[.call r Hn ids]/\(bC=2/\¬(ids=[]/\Hn=[])\/(bC=3/\aG H'=aG H/\¬(ids=[]/\Hn=[]))\/bC=0/\ids=[]/\Hn=[]/\H'=H/\a'=all/\r=d.er (lk H')/\r.rn (λ_=>ae)=ab r)
theorem ZCM{g:yq}{args:yL TD}{ids:yL Nat}{Hin:yL ak}{az:yL Dv}{r4:TD}{Hn:yL ak}(honce:once ids=af)(p1:Vn H ids ids=ab Hin)(p2:aJ (aG H) ids ids=ab (aG Hin))
 (p3:Dv.bt (aV ids) (TD.aE (lk H) (args.map (TD.bL (lk H) ids)))=ab az) (hcon':cH P g az (aG Hin) (r4.er (lk Hn)) (aG Hn)) (h9:wH all H K ids r4 Hn=ab out):
 ∃a d H' hs c,K a d H' hs c=ab out/\cS P g all args H a d H' hs c:=by
 unfold wH at h9;split at h9
 .rename_i hem;rw[yi]at hem;have i1:ids=[]:=by simpa using hem.1
  have i2:Hn=[]:=by simpa using hem.2
  subst i1;subst i2;obtain⟨r',hr',h9⟩:=yf.1 h9;have f1:=gF (L:=lk []) (M:=lk H) (λid j t e=>by cases e) _ _ hr';have f2:=nF (f:=λ_=>ae) _ _ f1;have f3:r4.er (lk [])=r'.er (lk H):=yaw (f2.symm.trans f1);have hin0:Hin=[]:=by cases p1;rfl
  subst hin0;refine⟨_,_,_,_,_,h9,rfl,rfl,[],[],[],[],az,r4.er (lk []),rfl,yj _,rfl,p3,hcon', ?_,rfl, ?_,rfl,.inr (.inr ⟨rfl,rfl,rfl,rfl,rfl,f3,f2⟩)⟩
  .rw[<-f3];exact nF _ _ f1
  .rw[ZwW]
 rename_i hne;obtain⟨r',hr',h9⟩:=yf.1 h9;obtain⟨Hb,hHb,h9⟩:=yf.1 h9;obtain⟨hk,h9⟩:=Za h9;simp only[yi,yP]at hk;obtain⟨⟨k1,k2⟩,k3⟩:=hk;obtain⟨b1,b2⟩:=ZGx hHb;obtain⟨s1,s2⟩:=wE p1
 have hlt:∀i,i∈ids->i < H.length:=λi hi=>by
  obtain⟨j,hj⟩:=List.getElem?_of_mem hi;grind
 have hlo:Lo ids H.length (lk H) (lk (au (H.map (ak.lay (lk H) ids)) ids Hb)):=by
  intro id t hn hl;unfold Yg lk;dsimp only
  rw[oV _ _ _ id (by rw[b1];exact k1) (by rw[yab];exact hl) (λhm=>by
   rw[List.contains_eq_any_beq]at hn;simp at hn;exact hn id hm rfl),yak,ZQm]
 have hrc:Rc (aO ids H.length) (lk Hn) (lk (au (H.map (ak.lay (lk H) ids)) ids Hb)):=by
  intro j i t e
  have key:lk (au (H.map (ak.lay (lk H) ids)) ids Hb) i=lk Hn j:=by
   show dt ((au (H.map (ak.lay (lk H) ids)) ids Hb)[i]?)=dt (Hn[j]?);rw[<-b2 j];unfold aO at e;split at e
   .rw[rC _ _ _ j i honce (by rw[b1];exact k1) (λi hi=>by rw[yab];exact hlt i hi) e]
   .rename_i hj;cases e;have:=vr (H.map (ak.lay (lk H) ids)) ids Hb j (by rw[b1];exact k1) (by omega);grind
  unfold Yg;rw[key]
 have e2:(au (H.map (ak.lay (lk H) ids)) ids Hb).map (ak.er (lk (au (H.map (ak.lay (lk H) ids)) ids Hb)))=au (aG H) ids (Hb.map (ak.er (lk (au (H.map (ak.lay (lk H) ids)) ids Hb)))):=by
  rw[Zw7,ybf];congr 1;refine ycn λe he=> ?_;exact ZQl hlo (ybx.1 k3 e he)
 have f1:=gF hrc _ _ hr';have f2:=ZKa hrc _ _ hHb;refine⟨_,_,_,_,_,h9,du hlo all k2,ZGy all,ids,aG Hin,aG Hn,_,az,r4.er (lk Hn),honce,by rw[ZQ];exact k1,p2,p3,hcon',f1,f2,e2,rfl,.inl ⟨rfl,λhh=>hne ?_⟩⟩;have i2:Hn=[]:=by have:=hh.2;unfold aG at this;simpa using this
 rw[i2,hh.1];rfl
theorem ZBF{args:yL TD}{s:Fs P}{ids:yL Nat}{x:Ty.aH s.ins}(ok:s.Ok)(hp:wG s H args ids=ab x)(h:JQ s all H K args ids x=ab out):
 ∃a d H' hs c,K a d H' hs c=ab out/\cS P s.g all args H a d H' hs c:=by
 unfold JQ at h;obtain⟨y,hM,h0⟩:=yf.1 h;obtain⟨e,vs,s',hsel,hfs,h9⟩:=sI h0;clear h0 h;obtain⟨honce,Hin,a2,a3,H3,R,p1,p2,p3,p4,p5,p6,p7⟩:=ZQn hp;obtain⟨args,R1,H4,q1,q2,hcon⟩:=ok x y hM;obtain⟨r4,hr4,hcon⟩:=hcon e vs s' hsel hfs;rw[hr4]at h9;dsimp only at h9;rw[p4]at q1;cases q1;rw[p5]at q2;cases q2;generalize s'.2=Hn at h9 hcon;exact ZCM honce p1 p2 p3 (ZJL hcon p6 p7) h9
theorem wM{Q:yL TD->TD->yL ak->yL ar->Nat->Prop}{g:yq}{args:yL TD}{yR:yO O}(hQ:∀{a d H' hs c},cS P g all args H a d H' hs c->Q a d H' hs c)(ho:yR=ab out->∃a d H' hs c,K a d H' hs c=ab out/\Q a d H' hs c):∀{l:yL (Fs P)},cG l->pA g all H K args yR l=ab out->
 ∃a d H' hs c,K a d H' hs c=ab out/\Q a d H' hs c
 |[],_,h=>ho h
 |s::r,ok,h=>by
  unfold pA at h;split at h
  .rename_i hg;split at h
   .rename_i q hq;obtain⟨ids,h1,hq⟩:=yf.1 hq;obtain⟨x,h2,rfl⟩:=Zd hq;obtain⟨a,d,H',hs,c,k1,k2⟩:=ZBF ok.1 h2 h;grind
   .exact wM hQ ho ok.2 h
  .exact wM hQ ho ok.2 h
theorem ZGC{sp:Sp P}{g:yq}{args:yL TD}(ok:dp sp)(h:wK sp g all H K args=ab out):∃a d H' hs c,K a d H' hs c=ab out/\cS P g all args H a d H' hs c:=by
 unfold wK at h;dsimp only at h;generalize mC H 100000 (TD.looks args) []=ids at h;obtain⟨ho,h⟩:=Za h;obtain⟨a2,h1,h⟩:=yf.1 h;obtain⟨Hin,h2,h⟩:=yf.1 h;obtain⟨r,Hn,h3,h4⟩:=ok.hd _ _ _ _ _ _ h;exact ZCM ho h2 (W9 (fp h2) h2) (cJ (fp h2) _ _ h1) h4 h3
theorem JT{Q:yL TD->TD->yL ak->yL ar->Nat->Prop}{g:yq}{args:yL TD}{yR:yO O}(hQ:∀{a d H' hs c},cS P g all args H a d H' hs c->Q a d H' hs c)(ho:yR=ab out->∃a d H' hs c,K a d H' hs c=ab out/\Q a d H' hs c):∀{l:yL (Rs P)},jx l->sL g all H K args yR l=ab out->
 ∃a d H' hs c,K a d H' hs c=ab out/\Q a d H' hs c
 |[],_,h=>ho h
 |s::r,ok,h=>by
  unfold sL at h;split at h
  .rename_i hg;obtain⟨ids,_,h⟩:=yf.1 h;obtain⟨Hin,h2,h⟩:=yf.1 h;obtain⟨hk,h⟩:=Za h;simp only[yi,Bool.not_eq_true',List.isEmpty_eq_false_iff]at hk;obtain⟨⟨k1,k2⟩,k3⟩:=hk;obtain⟨a2,h3,h⟩:=yf.1 h;obtain⟨q,h4,h⟩:=yf.1 h;obtain⟨⟨w1,w2⟩,h5,h⟩:=yf.1 h;obtain⟨x,h6,h⟩:=yf.1 h;obtain⟨y,h7,h⟩:=yf.1 h;obtain⟨z,h8,h⟩:=yf.1 h;obtain⟨r',h9,h⟩:=yf.1 h;have hw:w1=Hin:=ZGz k3 h5;subst hw;obtain⟨az,R,H3,q1,q2,hcon⟩:=ok.1 x y h7;have e:=jw _ _ _ h6;rw[e,bH _ _ _ h4 _]at q1;cases q1;have q3:=nY h5 [];rw[yar]at q3;rw[q3]at q2;cases q2;have hcon:=hcon z h8;have p2:=W9 (fp h2) h2;have p3:=cJ (fp h2) _ _ h3;have hcon:=ZJL hcon (cB (λ_ _=>rfl) _ _ _ h4) (cg.refl _);have f1:=gF (f:=λ_=>ae) (L:=lk w1) (M:=lk H) (λid j t e=>by cases e) _ _ h9;have f2:=nF (f:=λ_=>ae) _ _ f1;have f3:z.1.er (lk w1)=r'.er (lk H):=yaw (f2.symm.trans f1);obtain⟨Hb,b1,b2⟩:=ZNR k1 p2;have zV:=(wE h2).1;refine⟨_,_,_,_,_,h,hQ ⟨rfl,rfl,ids,aG w1,aG w1,Hb,TD.aE (lk w1) a2,z.1.er (lk w1),k1,by rw[ZQ];omega,p2,p3,hg ▸ hcon, ?_,by rw[<-ZQ H];exact b1,b2.symm,rfl,.inr (.inl ⟨rfl,rfl,λhh=>k2 hh.1⟩)⟩⟩;rw[<-f3];exact nF _ _ f1
  .exact JT hQ ho ok.2 h
theorem ZNT{sp:Sp P}{g:yq}{args:yL TD}(ok:dp sp)(h:ZRI sp g all H K args=ab out):∃a d H' hs c,K a d H' hs c=ab out/\cS P g all args H a d H' hs c:=
 JT (λh=>h) (λh=>wM (λh=>h) (λh=>ZGC ok h) ok.l h) ok.ro h
structure jy(P:yg)(g:yq)(all args:List TD)(H:List ak)(a':List TD)(d:TD)(H':List ak)(hs:List ar)(bC:Nat):Prop where
 zO:a'=all
 hH:H'=H
 oe:bC=1
 op:∃(id:Nat)(ps:List Pl)(p:Pl),Dv.fv (TD.aE (lk H) (args.map (TD.bL (lk H) [])))=ab id/\d.er (lk H)=.p p/\p.flat=af/\hs=[.el (.agg ps),.call (.p p) [] []]/\kI id (cz ((aG H)[id]?)) (TD.aE (lk H) (args.map (TD.bL (lk H) []))) ps/\cH P g (ps.map Dv.p) [] (.p p) []
theorem ZKb{h:yL ak}:∀{ps:yL Sh}{ds:yL TD}{q:yL TV×yL Pl},eC h ps ds=ab q->∃es,Sh.fills ps q.1=ab (es,[])/\(∀L,TD.aE L es=q.2.map Dv.p)/\ds.length=q.2.length/\
 ∀(i:Nat)(d:Dv)(y:Pl),(TD.aE (lk h) ds)[i]? =ab d->q.2[i]? =ab y->bv (aG h) d y
 |[],[],q,k=>by cases k;exact⟨[],rfl,λ_=>rfl,rfl,λi d y k=>by simp[TD.aE]at k⟩
 |.v t::r,d::ds,q,k=>by
  unfold eC at k;obtain⟨y,h1,k⟩:=yf.1 k;obtain⟨w,h2,rfl⟩:=Zd k;obtain⟨es,f1,f2,f3,f4⟩:=ZKb h2;refine⟨.p (.v t y)::es, ?_,λL=> ?_,by simp[f3],λi d' z k1 k2=> ?_⟩
  .have e1:Sh.fill (.v t) (⟨t,y⟩::w.1)=ab (.p (.v t y),w.1):=congrArg (Option.map λz:t.aQ=>(TD.p (.v t z),w.1)) (YF t y);simp only[Sh.fills,e1,ya,f1,yaa]
  .rw[TD.aE,f2];rfl
  .cases i with
   |zero=>cases k1;cases k2;exact wC _ _ _ _ h1
   |succ i=>exact f4 i d' z k1 k2
 |[],_::_,_,k=>by simp[eC]at k
 |.v _::_,[],_,k=>by simp[eC]at k
 |.elem _::_,_,_,k=>by simp[eC]at k
 |.nil _::_,_,_,k=>by simp[eC]at k
 |.sl _ _::_,_,_,k=>by simp[eC]at k
 |.own _ _::_,_,_,k=>by simp[eC]at k
 |.am _ _::_,_,_,k=>by simp[eC]at k
 |.mp _::_,_,_,k=>by simp[eC]at k
 |.rw _::_,_,_,k=>by simp[eC]at k
 |.rp _ _ _::_,_,_,k=>by simp[eC]at k
 |.view _ _ _ _ _::_,_,_,k=>by simp[eC]at k
 |.rv _ _ _ _ _::_,_,_,k=>by simp[eC]at k
 |.fn _ _::_,_,_,k=>by simp[eC]at k
 |.agg _::_,_,_,k=>by simp[eC]at k
 |.arr _ _ _::_,_,_,k=>by simp[eC]at k
 |.bi _::_,_,_,k=>by simp[eC]at k
 |.iface _ _::_,_,_,k=>by simp[eC]at k
 |.bE::_,_,_,k=>by simp[eC]at k
 |.fn0::_,_,_,k=>by simp[eC]at k
 |.dE::_,_,_,k=>by simp[eC]at k
 |.bU::_,_,_,k=>by simp[eC]at k
 |.aA::_,_,_,k=>by simp[eC]at k
theorem ZCN{σ:Sg}(ok:Ok σ):∀{ds:yL Dv}{ps:yL Pl}{vs:yL Value},ds.length=ps.length->(∀(i:Nat)(d:Dv)(y:Pl),ds[i]? =ab d->ps[i]? =ab y->bv σ.H d y)->aC σ ds vs->aC (ir σ) (ps.map Dv.p) vs
 |[],[],vs,_,_,h=>by simpa[aC] using h
 |[],_::_,_,hl,_,_=>by simp at hl
 |_::_,[],_,hl,_,_=>by simp at hl
 |d::ds,y::ps,vs,hl,hk,h=>by
  simp only[aC]at h;obtain⟨v,vs',rfl,h2,h3⟩:=h;have h4:=ZJO ok (hk 0 d y rfl rfl) (v:=v) h2
  have mono:∀(b o:Nat)(v:Value),σ.w.cell? ⟨b,o,ae⟩=ab v->σ.aU b o->(ir σ).w.cell? ⟨b,o,ae⟩=ab v/\(ir σ).aU b o:=λb o v h _=>⟨h,by
   rcases ych b σ.w.heap.size with q|q
   .exact .inl q
   .exact .inr q,λid e q=>by simp[ir]at q⟩
  rw[yag];simp only[aC];refine⟨v,vs',rfl,⟨λq=> ?_,λq=> ?_⟩,ZCN ok (by simpa using hl) (λi d y h5 h6=>hk (i+1) d y (by simpa using h5) (by simpa using h6)) h3⟩
  .obtain⟨cs,e1,e2⟩:=h4.1 q;refine⟨cs,e1, ?_⟩;simp only[yG]at e2 ⊢;exact jS mono y _ e2
  .have:=h4.2 q;simp only[yG]at this ⊢;exact jS mono y _ this
theorem JU{g:yq}{args:yL TD}{yR:yO O}{Q:yL TD->TD->yL ak->yL ar->Nat->Prop}(hQ:∀{a d H' hs c},jy P g all args H a d H' hs c->Q a d H' hs c)(ho:yR=ab out->∃a d H' hs c,K a d H' hs c=ab out/\Q a d H' hs c):∀{l:yL (Fs P)},cG l->sM g all H K args yR l=ab out->
 ∃a d H' hs c,K a d H' hs c=ab out/\Q a d H' hs c
 |[],_,h=>ho h
 |s::r,ok,h=>by
  unfold sM at h;split at h
  .rename_i hg;obtain⟨hg,hes⟩:=hg;split at h
   .rename_i q hq;obtain⟨id,hid,hq⟩:=yf.1 hq;obtain⟨x,h6,h⟩:=yf.1 h;obtain⟨y,h7,h⟩:=yf.1 h;obtain⟨e,vs,s',hsel,hfs,h9⟩:=sI h;split at h9
    .rename_i rr hr1 hr2;obtain⟨p,hp,h9⟩:=yf.1 h9;obtain⟨az,R,H3,q1,q2,hcon⟩:=ok.1 x y h7;obtain⟨r4,hr4,hcon⟩:=hcon e vs s' hsel hfs;rw[hr1]at hr4;cases hr4;obtain⟨es,f1,f2,f3,f4⟩:=ZKb hq;rw[jw _ _ _ h6,f1]at q1;cases q1;have hes':s.es=[]:=by simpa using hes
     rw[hes']at q2
     have:H3=[]:=by
      simp only[bf.fills,yp,Prod.mk.injEq]at q2;grind
     subst this;rw[hr2,f2]at hcon;obtain⟨hrr,hfl⟩:=ZzX (L:=lk s'.2) hp;obtain⟨hrr2,_⟩:=ZzX (L:=lk H) hp;rw[hr2]at hrr;rw[hrr]at hcon;refine⟨_,_,_,_,_,h9,hQ ⟨rfl,rfl,rfl,id,q.2,p,hid,hrr2,hfl,rfl, ?_,hg ▸ hcon⟩⟩;intro σ vs okσ hH hv;obtain⟨H2,hw,hdeep⟩:=ZLC okσ hH;obtain⟨to,ok'⟩:=jY (H':=H2) okσ hw;have zV:(TD.aE (lk H) (args.map (TD.bL (lk H) []))).length=q.2.length:=by rw[vM];exact f3
     have hv':aC { σ with H:=H2} (TD.aE (lk H) (args.map (TD.bL (lk H) []))) vs:=ce to.leaf _ _ hv;have hlk:lk (oc id H)=lk H:=ZGw _ _;exact ZCN (σ:={ σ with H:=H2}) ok' zV (λi d y k1 k2=>hdeep _ _ (f4 i d y (by rw[hlk];exact k1) k2)) hv'
    .cases h9
   .exact JU hQ ho ok.2 h
  .exact JU hQ ho ok.2 h
theorem ZNU{sp:Sp P}{g:yq}{args:yL TD}(ok:dp sp)(h:ZRJ sp g all H K args=ab out):∃a d H' hs c,K a d H' hs c=ab out/\(cS P g all args H a d H' hs c\/jy P g all args H a d H' hs c):=
 JT .inl (λh=>wM .inl (λh=>JU .inr (λh=>by
  obtain⟨a,d,H',hs,c,k1,k2⟩:=ZGC ok h;exact⟨a,d,H',hs,c,k1,.inl k2⟩) ok.l h) ok.l h) ok.ro h
theorem ZLD{c:Call}{f:ym}{g:yq}{cap az:yL TD}{a:yL TD}{d:TD}{H':yL ak}{hs:yL ar}{bC:Nat}(ho:o.op=.call c)(hc:c.callee=.value f)(hf:bo P ts 0 f=ab (.fn g cap))
 (hb:(gv P (dY g)&&c.args.size==c.argTypes.size)=af) (ha:mB P ts c.args.toList c.argTypes.toList=ab az) (h:cS P (dY g) all (if g < big then az++cap else cap++az) H a d H' hs bC):Good P o ts all H a d H' hs bC:=by
 have hfv:=Zz (L:=lk H) hf;obtain⟨ids,Hin,Hn,Hb,az',r,honce,hle,p2,p3,hcon,f1,f2,e2,rfl,hcl⟩:=h.op
 have ea:Z5 P ids (TD.aE (lk H) ts) c g (TD.aE (lk H) cap)=TD.aE (lk H) ((if g < big then az++cap else cap++az).map (TD.bL (lk H) ids)):=by
  unfold Z5;split
  .rw[pz ids ha,wF,yao,ZH,ZH,ZH,yao]
  .rw[pz ids ha,wF,yao,ZH,ZH,ZH,yao]
 have ge:¬(ids=[]/\Hn=[])->jt P o ts H d H' [.call r Hn ids]:=λhne=>by
  refine⟨λyJ=> ?_,λyJ=> ?_,[cH P (dY g) az' Hin r Hn],⟨hcon,ao⟩,λyJ=> ?_⟩
  .unfold be
   all_goals grind
  .unfold bB;grind
  .unfold cx;rw[ho];dsimp only;rw[hc];dsimp only;rw[hfv];dsimp only[TD.er];rw[yae,yy];dsimp only;rw[yW (by simp only[yi,yP]at hb ⊢;exact⟨⟨hb,honce⟩,hle⟩)];rw[ea,p3,p2,ZQ,f1,f2];grind
 rcases hcl with⟨rfl,hne⟩|⟨rfl,hsm,hne⟩|⟨rfl,rfl,rfl,rfl,rfl,rfl,hrn⟩
 .exact⟨h.same,h.len,dK ⟨rfl,ge hne⟩⟩
 .exact⟨h.same,h.len,.inr (.inr (.inr ⟨rfl,hsm,ge hne⟩))⟩
 .refine⟨h.same,h.len,.inl ⟨rfl,rfl,[cH P (dY g) az' [] (d.er (lk H')) []],⟨?_,ao⟩,λyJ=> ?_⟩⟩
  .cases p2;exact hcon
  .unfold be;rw[ho];dsimp only;rw[hc];dsimp only;rw[hfv];dsimp only[TD.er];rw[yae,yy];dsimp only;rw[yW hb,ea, <-rE,p3,rE,hrn]
theorem ZNV{c:Call}{f:ym}{g:yq}{cap az:yL TD}{a:yL TD}{d:TD}{H':yL ak}{hs:yL ar}{bC:Nat}(ho:o.op=.call c)(hc:c.callee=.value f)(hf:bo P ts 0 f=ab (.fn g cap))
 (hb:(gv P (dY g)&&c.args.size==c.argTypes.size)=af) (ha:mB P ts c.args.toList c.argTypes.toList=ab az) (h:jy P (dY g) all (if g < big then az++cap else cap++az) H a d H' hs bC):Good P o ts all H a d H' hs bC:=by
 have hfv:=Zz (L:=lk H) hf;obtain⟨rfl,rfl,rfl,id,ps,p,hid,e1,e2,rfl,hl,hcon⟩:=h
 have ea:Z5 P [] (TD.aE (lk H') ts) c g (TD.aE (lk H') cap)=TD.aE (lk H') ((if g < big then az++cap else cap++az).map (TD.bL (lk H') [])):=by
  unfold Z5;split
  .rw[pz [] ha,wF,yao,ZH,ZH,ZH,yao]
  .rw[pz [] ha,wF,yao,ZH,ZH,ZH,yao]
 refine⟨rfl,rfl,.inr (.inl ⟨rfl,rfl,λyJ=> ?_,[kI id (cz ((aG H')[id]?)) (Z5 P [] (TD.aE (lk H') ts) c g (TD.aE (lk H') cap)) ps,cH P (dY g) (ps.map Dv.p) [] (.p p) []],⟨by rw[ea];exact hl,hcon,ao⟩,λyJ=> ?_⟩)⟩
 .unfold be;grind
 .unfold bB;rw[ho];dsimp only;rw[hc];dsimp only;rw[hfv];dsimp only[TD.er];grind
theorem ZLE{c:Call}{recv:ym}{name:String}{t:yc}{x:TD}{g:yq}{az:yL TD}{a:yL TD}{d:TD}{H':yL ak}{hs:yL ar}{bC:Nat}(ho:o.op=.call c)(hc:c.callee=.invoke recv name)(hf:bo P ts 0 recv=ab (.iface t x))
 (hm:oI P t name g) (hb:(gv P g&&c.args.size==c.argTypes.size)=af) (ha:mB P ts c.args.toList c.argTypes.toList=ab az) (h:cS P g all (x::az) H a d H' hs bC):Good P o ts all H a d H' (.im g::hs) 2:=by
 have hfv:=Zz (L:=lk H) hf;obtain⟨ids,Hin,Hn,Hb,az',r,honce,hle,p2,p3,hcon,f1,f2,e2,rfl,hcl⟩:=h.op
 have ea:(x.er (lk H)).bL ids::Z5 P ids (TD.aE (lk H) ts) c 0 []=TD.aE (lk H) ((x::az).map (TD.bL (lk H) ids)):=by
  unfold Z5;rw[yW (by decide),pz ids ha,List.map_nil,yar,yag,TD.aE,JO]
 refine⟨h.same,h.len,dK (⟨rfl,λyJ=> ?_,λyJ=> ?_,[oI P t name g,cH P g az' Hin r Hn],⟨hm,hcon,ao⟩,λyJ=> ?_⟩)⟩
 .unfold be;grind
 .unfold bB;grind
 .unfold cx;rw[ho];dsimp only;rw[hc];dsimp only;rw[hfv];dsimp only[TD.er];rw[yae,yae,yy];dsimp only;rw[yW (by simp only[yi,yP]at hb ⊢;exact⟨⟨hb,honce⟩,hle⟩)];rw[ea,p3,p2,ZQ,f1,f2];grind
end
end Go.Ev
end
section
namespace Go.Ev
section
variable{P:yg}{o:Oper}{ts all:yL TD}{H:yL ak}{O:Type}{K:Kn O}{out:O}
def TD.og:TD->Bool
 |.view _ _ _ _ _=>af
 |_=>ag
def TD.eK:TD->Bool
 |.p (.sl (ab ag) _ [])=>af
 |_=>ag
def TD.sN:TD->Bool
 |.am _ _=>af
 |_=>ag
def TD.oh:TD->Bool
 |.aZ _ _ _=>af
 |_=>ag
def TD.sO:TD->Bool
 |.rv _ _ _ _ _=>af
 |_=>ag
def ZQq(a:TD)(lo hi:yO Int):Bool:=
 match a with
 |.rv _ _ _ _ n=> !Q0 n lo hi
 |_=>ag
def TD.sP:TD->Bool
 |.own _ _ _ _=>af
 |_=>ag
def TD.JV:TD->Bool
 |.mp _=>af
 |_=>ag
def iy(l:yL Tmp):yO Tmp->Bool
 |some t=>l.contains t
 |none=>ag
def jz(P:yg)(o:Oper)(ts all:yL TD)(H:yL ak)(K:Kn O):yO O:=HL (lk H) P o ts λd hs=>K all d H hs 0
theorem Qe(h:jz P o ts all H K=ab out):∃a d H' hs c,K a d H' hs c=ab out/\Good P o ts all H a d H' hs c:=by
 obtain⟨d,hs,h1,h2⟩:=ZNq h;exact⟨_,_,_,_,_,h1,rfl,rfl,.inl ⟨rfl,rfl,h2⟩⟩
def wN(P:yg)(hi:HI)(o:Oper)(x:ym)(asg:Bool)(ts all:yL TD)(H:yL ak)(K:Kn O):yO O:=
 match o.dst,bo P ts o.type x with
 |some t,ab d=>if hi.still.contains t&&(d.og || d.sO) then wy t all H K d else if hi.still.contains t&&d.jv then IX t all H K d else if asg&&(hi.bM.contains t&&d.eK) then JC P o.type t all H K d else if asg&&(hi.own.contains t&&d.eK) then HY P o.type t all H K d else jz P o ts all H K
 |_,_=>jz P o ts all H K
def TD.ll(d:TD):yO Num:=
 match d.num with
 |some a=>if a.k=.i64 then ab a else ae
 |none=>ae
def sQ(P:yg)(hi:HI)(aB:Sp P)(o:Oper)(ts all:yL TD)(H:yL ak)(K:Kn O):yO O:=
 match o.op with
 |.move x=>wN P hi o x ag ts all H K
 |.assign x=>wN P hi o x af ts all H K
 |.slice t x lo h ae=>if iy hi.cK o.dst then(bo P ts t x).bind λa=>(fh P ts lo).bind λl=>(fh P ts h).bind λr=>IS P t l r all H K a
  else(bo P ts t x).bind λa=>(fh P ts lo).bind λl=>(fh P ts h).bind λr=>if(iy hi.bM o.dst&&a.jv)=af then JD P t l r all H K a else if ZQq a l r=af then HS P t l r all H K a else jz P o ts all H K
 |.load t x=>(bo P ts 0 x).bind λd=>if d.sN || d.oh then HR P t all H K d else if d.sE then IV P t all H K d else jz P o ts all H K
 |.lookup t x ix ok=>(bo P ts t x).bind λd=>HW P t all H ok K (λkt=>bo P ts kt ix) d
 |.makeMap t ae=>HZ P t all H K
 |.makeSlice t l c=>((bo P ts 0 l).bind TD.ll).bind λn=>((bo P ts 0 c).bind TD.ll).bind λn'=>if iy hi.bM o.dst then JB P t n.n n'.n all H K else IA P t (iy hi.own o.dst) (iy hi.row o.dst) n.n n'.n all H K
 |.mapUpdate t x k v=>(bo P ts t x).bind λd=>IB P t all H K (λkt=>bo P ts kt k) (λet=>bo P ts et v) d
 |.alloc t=>IF P hi o.dst t all H K
 |.box t x=>(bo P ts t x).bind (IG hi o.dst all H K)
 |.store t x y=>(bo P ts 0 x).bind λa=>(bo P ts t y).bind λv=>if a.sE then IW P t all H K v a else IJ P (ZTZ hi x) t all H K v a
 |.buildSlice t len parts=>if iy hi.bM o.dst then(match (o.dst.bind λd=>hi.rew.lookup d).bind λs=>all[s]? with
  |some (.rw id)=>JA P ts t len parts.toList id all H K
  |_=>IZ P ts t len parts.toList all H K) else if iy hi.own o.dst then IK P ts t len parts.toList all H K else jz P o ts all H K
 |.indexAddr t x ix=>(bo P ts t x).bind λa=>if a.jv then(bo P ts 0 ix).bind λb=>b.inner.bind λip=>(kX ip).bind λq=>IT P t q.2 all H K a else jz P o ts all H K
 |.call c=>match c.callee with
  |.builtin .len=>match c.args.toList,c.argTypes.toList with
   |[x],[t]=>(bo P ts t x).bind λd=>if d.JV then HX P t all H K d else if d.jv then IU P t all H K d else jz P o ts all H K
   |_,_=>ae
  |.builtin .append=>match c.args.toList,c.argTypes.toList with
   |[x,y],[t,u]=>(bo P ts t x).bind λa=>(bo P ts u y).bind λb=>if a.jv || (a.eK&&iy hi.bM o.dst) then IY P af t u all H K b a else if a.sP || a.sO || (a.eK&&(iy hi.own o.dst || iy hi.row o.dst)) then IN P (iy hi.own o.dst) (iy hi.row o.dst) t u all H K b (if hi.eqs=af then IP H a else a) else jz P o ts all H K
   |_,_=>ae
  |.builtin .copy=>match c.args.toList,c.argTypes.toList with
   |[x,y],[t,u]=>(bo P ts t x).bind λa=>(bo P ts u y).bind λb=>IQ P t u all H K b a
   |_,_=>ae
  |.builtin .delete=>match c.args.toList,c.argTypes.toList with
   |[x,y],[t,u]=>(bo P ts t x).bind λa=>IC P t all H K (bo P ts u y) a
   |_,_=>ae
  |.value f=>match bo P ts 0 f with
   |some (.fn g cap)=>if(gv P (dY g)&&c.args.size==c.argTypes.size)=af then(mB P ts c.args.toList c.argTypes.toList).bind λaz=>ZRJ aB (dY g) all H K (if g < big then az++cap else cap++az) else jz P o ts all H K
   |_=>ae
  |.invoke recv name=>match bo P ts 0 recv with
   |some (.iface t x)=>(sK aB.mt t name).bind λg=>if(gv P g&&c.args.size==c.argTypes.size)=af then(mB P ts c.args.toList c.argTypes.toList).bind λaz=>ZRI aB g all H (λa d H' hs _=>K a d H' (.im g::hs) 2) (x::az) else ae
   |_=>ae
  |_=>ae
 |_=>jz P o ts all H K
theorem mE{d:TD}{n:Num}(h:d.ll=ab n):d.num=ab n/\n.k=.i64:=by
 unfold TD.ll at h
 all_goals grind
theorem ZzY{hi:HI}{x:ym}{asg:Bool}(ho:if asg=af then o.op=.assign x else o.op=.move x)(h:wN P hi o x asg ts all H K=ab out):∃a d H' hs c,K a d H' hs c=ab out/\Good P o ts all H a d H' hs c:=by
 unfold wN at h;split at h
 .rename_i t d hd hx;split at h
  .refine ZGq (x:=x) ?_ hd hx h
   all_goals grind
  split at h
  .refine ZEm (x:=x) ?_ hd hx h
   all_goals grind
  split at h
  .rename_i ha;rw[yi]at ha;rw[yW ha.1]at ho;exact ZEo ho hd hx h
  .split at h
   .rename_i ha;rw[yi]at ha;rw[yW ha.1]at ho;exact ZGk ho hd hx h
   .exact Qe h
 .exact Qe h
theorem JW{hi:HI}{aB:Sp P}(ok:dp aB)(h:sQ P hi aB o ts all H K=ab out):∃a d H' hs c,K a d H' hs c=ab out/\Good P o ts all H a d H' hs c:=by
 unfold sQ at h;split at h
 .rename_i x ho;exact ZzY (asg:=ag) ho h
 .rename_i x ho;exact ZzY (asg:=af) ho h
 .rename_i t x lo hi' ho;split at h
  .obtain⟨a,h1,h⟩:=yf.1 h;obtain⟨l,h2,h⟩:=yf.1 h;obtain⟨r,h3,h⟩:=yf.1 h;exact ZLA ho h1 h2 h3 h
  .obtain⟨a,h1,h⟩:=yf.1 h;obtain⟨l,h2,h⟩:=yf.1 h;obtain⟨r,h3,h⟩:=yf.1 h;split at h
   .exact ZBE ho h1 h2 h3 h
   split at h
   .exact ZGh ho h1 h2 h3 h
   .exact Qe h
 .rename_i t x ho;obtain⟨d,h1,h⟩:=yf.1 h;split at h
  .exact ZIm ho h1 h
  split at h
  .exact ZGr ho h1 h
  .exact Qe h
 .rename_i t x ix okk ho;obtain⟨d,h1,h⟩:=yf.1 h;exact ZD4 ho h1 h
 .rename_i t ho;exact ZBC ho h
 .rename_i t l c ho;obtain⟨n,h1,h⟩:=yf.1 h;obtain⟨n',h2,h⟩:=yf.1 h;obtain⟨d1,g1,g2⟩:=yf.1 h1;obtain⟨d2,g3,g4⟩:=yf.1 h2;split at h
  .exact ZGu ho (by rw[g1];exact(mE g2).1) (by rw[g3];exact(mE g4).1) (mE g2).2 (mE g4).2 h
  exact ZxV ho (by rw[g1];exact(mE g2).1) (by rw[g3];exact(mE g4).1) (mE g2).2 (mE g4).2 h
 .rename_i t x k v ho;obtain⟨d,h1,h⟩:=yf.1 h;exact ZD8 ho h1 h
 .rename_i t ho;exact ZGm ho h
 .rename_i t x ho;obtain⟨d,h1,h⟩:=yf.1 h;exact ZLy ho h1 h
 .rename_i t x y ho;obtain⟨a,h1,h⟩:=yf.1 h;obtain⟨v,h2,h⟩:=yf.1 h;split at h
  .exact ZEk ho h1 h2 h
  .exact ZGn ho h1 h2 h
 .rename_i t len parts ho;split at h
  .split at h
   .exact ZGt ho h
   .exact ZIy ho h
  split at h
  .exact ZEd ho h
  .exact Qe h
 .rename_i t x ix ho;obtain⟨a,h1,h⟩:=yf.1 h;split at h
  .obtain⟨b,h2,h⟩:=yf.1 h;obtain⟨ip,h3,h⟩:=yf.1 h;obtain⟨q,h4,h⟩:=yf.1 h;rw[Wv h3]at h2;exact ZEi ho h1 h2 h4 h
  .exact Qe h
 .rename_i c ho;split at h
  .rename_i hc;split at h
   .rename_i x t ha ht;obtain⟨d,h1,h⟩:=yf.1 h;split at h
    .exact ZD6 ho hc ha ht h1 h
    split at h
    .exact ZIw ho hc ha ht h1 h
    .exact Qe h
   .cases h
  .rename_i hc;split at h
   .rename_i x y t u ha ht;obtain⟨a,h1,h⟩:=yf.1 h;obtain⟨b,h2,h⟩:=yf.1 h;split at h
    .exact ZBD ho hc ha ht (Zz h1) h2 h
    split at h
    .refine ZEf ho hc ha ht ?_ h2 h;split
     .rw[ZLz];exact Zz h1
     .exact Zz h1
    .exact Qe h
   .cases h
  .rename_i hc;split at h
   .rename_i x y t u ha ht;obtain⟨a,h1,h⟩:=yf.1 h;obtain⟨b,h2,h⟩:=yf.1 h;exact ZIu ho hc ha ht h1 h2 h
   .cases h
  .rename_i hc;split at h
   .rename_i x y t u ha ht;obtain⟨a,h1,h⟩:=yf.1 h;exact ZEa ho hc ha ht h1 h
   .cases h
  .rename_i f hc;split at h
   .rename_i g cap hf;split at h
    .rename_i hb;obtain⟨az,h1,h⟩:=yf.1 h;obtain⟨a,d,H',hs,cc,k1,k2⟩:=ZNU ok h;rcases k2 with k2|k2
     .exact⟨a,d,H',hs,cc,k1,ZLD ho hc hf hb h1 k2⟩
     .exact⟨a,d,H',hs,cc,k1,ZNV ho hc hf hb h1 k2⟩
    .exact Qe h
   .cases h
  .rename_i recv name hc;split at h
   .rename_i t x hf;obtain⟨g,hg,h⟩:=yf.1 h;obtain⟨hb,h⟩:=Za h;obtain⟨az,h1,h⟩:=yf.1 h;obtain⟨a,d,H',hs,cc,k1,k2⟩:=ZNT ok h;exact⟨a,d,H',_,_,k1,ZLE ho hc hf (JS ok.mt hg) hb h1 k2⟩
   .cases h
  .cases h
 .exact Qe h
def JX(ops:Array Oper)(j:Nat):yO Tmp:=(ops[j]?).bind (·.dst)
def kj(b:Bool):TD:=.p (.v .bool b)
def ZNW:TD->Bool
 |.bi []=>af
 |_=>ag
def gT(P:yg)(hi:HI)(aB:Sp P)(ops:Array Oper)(o:Oper)(ts all:yL TD)(H:yL ak)(K:Kn O):yO O:=
 match o.guard with
 |none=>sQ P hi aB o ts all H K
 |some (j,want)=>(JX ops j).bind λt=>match (ts.getD t .aA).boolT with
  |some b=>
   if b=af then
    if af=want then sQ P hi aB o (ts.set t (kj af)) (all.set t (kj af)) H λa d H' hs c=>K a d H' (.b af::hs) c
    else K (all.set t (kj af)) (.bi []) H [.b af] 0
   else
    if ag=want then sQ P hi aB o (ts.set t (kj ag)) (all.set t (kj ag)) H λa d H' hs c=>K a d H' (.b ag::hs) c
    else K (all.set t (kj ag)) (.bi []) H [.b ag] 0
  |none=>if ZNW (ts.getD t .aA) then K all (.bi []) H [.raw] 0 else ae
structure sR(P:yg)(ops:Array Oper)(o:Oper)(ts all:List TD)(H:List ak)(all':List TD)(d:TD)(H':List ak)(hs:List ar)(bC:Nat):Prop where
 same:TD.aE (lk H') all'=TD.aE (lk H) all
 len:all'.length=all.length
 op:∃C,ba C/\∀yJ,cN P ops o (TD.aE (lk H) ts) (aG H) (hs++yJ)=ab (C,d.er (lk H'),aG H',yJ)
 sam:bC=3->aG H'=aG H
 bC:∀yJ,bG P o (TD.aE (lk H) ts) (aG H) (hs++yJ)<=bC
theorem JY{d:TD}{a:yL TD}{H':yL ak}{hs:yL ar}{c:Nat}(h:Good P o ts all H a d H' hs c):∃C,ba C/\(∀yJ,eQ P o (TD.aE (lk H) ts) (aG H) (hs++yJ)=ab (C,d.er (lk H'),aG H',yJ))/\
 ∀yJ,(if(be P o (TD.aE (lk H) ts) (hs++yJ)).isSome then 0 else if(bB P o (TD.aE (lk H) ts) (aG H) (hs++yJ)).isSome then 1 else 2)<=c:=by
 rcases h.op with⟨rfl,rfl,C,h1,h2⟩|⟨rfl,rfl,h0,C,h1,h2⟩|⟨rfl,h0,h00,C,h1,h2⟩|⟨rfl,_,h0,h00,C,h1,h2⟩
 .exact⟨C,h1,λyJ=>by unfold eQ;rw[h2 yJ],λyJ=>by rw[h2 yJ];simp⟩
 .exact⟨C,h1,λyJ=>by unfold eQ;rw[h0 yJ];dsimp only;rw[h2 yJ],λyJ=>by rw[h0 yJ,h2 yJ];simp⟩
 .exact⟨C,h1,λyJ=>by unfold eQ;rw[h0 yJ];dsimp only;rw[h00 yJ];exact h2 yJ,λyJ=>by rw[h0 yJ,h00 yJ];simp⟩
 .exact⟨C,h1,λyJ=>by unfold eQ;rw[h0 yJ];dsimp only;rw[h00 yJ];exact h2 yJ,λyJ=>by rw[h0 yJ,h00 yJ];simp⟩
theorem JZ{d:TD}{a:yL TD}{H':yL ak}{hs:yL ar}{c:Nat}(h:Good P o ts all H a d H' hs c)(hc:c=3):aG H'=aG H:=by
 subst hc;rcases h.op with⟨e,_⟩|⟨e,_⟩|⟨e,_⟩|⟨_,e,_⟩
 all_goals grind
theorem ZGD{l:yL TD}{t:Nat}{b:Bool}(h:(l.getD t .aA).boolT=ab b):l.getD t .aA=kj b:=by
 unfold TD.boolT at h;split at h
 .rename_i x hx;unfold TP.gZ at h;split at h
  .cases h;exact hx
  .cases h
 .cases h
theorem bq{l:yL TD}{t:Nat}{d:TD}(h:l.getD t .aA=d):(l.set t d)=l:=by
 apply List.ext_getElem?
 all_goals grind
theorem ZKd{hi:HI}{aB:Sp P}{ops:Array Oper}(ok:dp aB)(hg:∀j want t,o.guard=ab (j,want)->JX ops j=ab t->ts.getD t .aA=all.getD t .aA)(h:gT P hi aB ops o ts all H K=ab out):
 ∃a d H' hs c,K a d H' hs c=ab out/\sR P ops o ts all H a d H' hs c:=by
 unfold gT at h;split at h
 .rename_i hgd;obtain⟨a,d,H',hs,c,h1,h2⟩:=JW ok h;obtain⟨C,g1,g2,g3⟩:=JY h2;refine⟨a,d,H',hs,c,h1,h2.same,h2.len,⟨C++[],Zr.2 ⟨g1,ao⟩,λyJ=> ?_⟩,JZ h2,λyJ=> ?_⟩
  .unfold cN;rw[hgd];dsimp only;rw[g2 yJ];rfl
  .unfold bG;grind
 .rename_i j want hgd;obtain⟨t,ht,h9⟩:=yf.1 h;clear h;have eall:=hg j want t hgd ht
  have eslot:((ops[j]?).bind (·.dst)).map (λt=>(TD.aE (lk H) ts).getD t .aA)=ab ((ts.getD t .aA).er (lk H)):=by
   rw[show(ops[j]?).bind (·.dst)=ab t from ht,yaa,vY]
  split at h9
  .rename_i b hb;have e1:=ZGD hb;have e2:all.getD t .aA=kj b:=by rw[<-eall];exact e1
   have e3:(ts.getD t .aA).er (lk H)=.p (.bool b):=pi hb;split at h9
   .rename_i hbt;subst hbt;rw[bq e1,bq e2]at h9;split at h9
    .rename_i hw;subst hw;obtain⟨a,d,H',hs,c,h1,h2⟩:=JW ok h9;obtain⟨C,g1,g2,g3⟩:=JY h2;refine⟨a,d,H',_,c,h1,h2.same,h2.len,⟨(af=af)::C++[],Zr.2 ⟨⟨rfl,g1⟩,ao⟩,λyJ=> ?_⟩,JZ h2,λyJ=> ?_⟩
     .unfold cN;rw[hgd];dsimp only;rw[eslot,e3];simp only[yae,if_true,g2 yJ];rfl
     .unfold bG;grind
    .rename_i hw;refine⟨_,_,_,_,_,h9,rfl,rfl,⟨[af=af],⟨rfl,ao⟩,λyJ=> ?_⟩,λ_=>rfl,λyJ=> ?_⟩
     .unfold cN;rw[hgd];dsimp only;rw[eslot,e3];simp only[yae,yy,yX hw];rfl
     .unfold bG;grind
   .rename_i hbt;have hbt:b=ag:=by simpa using hbt
    subst hbt;rw[bq e1,bq e2]at h9;split at h9
    .rename_i hw;subst hw;obtain⟨a,d,H',hs,c,h1,h2⟩:=JW ok h9;obtain⟨C,g1,g2,g3⟩:=JY h2;refine⟨a,d,H',_,c,h1,h2.same,h2.len,⟨(ag=ag)::C++[],Zr.2 ⟨⟨rfl,g1⟩,ao⟩,λyJ=> ?_⟩,JZ h2,λyJ=> ?_⟩
     .unfold cN;rw[hgd];dsimp only;rw[eslot,e3];simp only[yae,if_true,g2 yJ];rfl
     .unfold bG;grind
    .rename_i hw;refine⟨_,_,_,_,_,h9,rfl,rfl,⟨[ag=ag],⟨rfl,ao⟩,λyJ=> ?_⟩,λ_=>rfl,λyJ=> ?_⟩
     .unfold cN;rw[hgd];dsimp only;rw[eslot,e3];simp only[yae,yy,yX hw];rfl
     .unfold bG;grind
  .obtain⟨h1,h9⟩:=Za h9
   have e3:(ts.getD t .aA).er (lk H)=.bi []:=by
    unfold ZNW at h1;split at h1
    .rename_i hx;rw[hx];rfl
    .cases h1
   refine⟨_,_,_,_,_,h9,rfl,rfl,⟨[],zZ,λyJ=> ?_⟩,λ_=>rfl,λyJ=> ?_⟩
   .unfold cN;rw[hgd];dsimp only;rw[eslot,e3];rfl
   .unfold bG;grind
def pB(ts:yL TD)(dst:yO Tmp)(d:TD):yL TD:=
 match dst with
 |some i=>ts.set i d
 |none=>ts
theorem ZGE{L:Lk}(dst:yO Tmp)(d:TD):TD.aE L (pB ts dst d)=fM (TD.aE L ts) dst (d.er L):=by
 cases dst with
 |none=>rfl
 |some i=>simp only[pB,fM,ZH,ybp]
theorem ZCP(dst:yO Tmp)(d:TD):(pB ts dst d).length=ts.length:=by
 cases dst <;> simp[pB]
def sS(P:yg)(hi:HI)(aB:Sp P)(ops:Array Oper):yL Oper->yL TD->yL ak->(yL TD->yL ak->yL ar->yO O)->yO O
 |[],all,H,K=>K all H []
 |o::r,all,H,K=>gT P hi aB ops o all all H λa d H' hs _=>sS P hi aB ops r (pB a o.dst d) H' λa' h' hs'=>K a' h' (hs++hs')
theorem ZCQ{hi:HI}{aB:Sp P}{ops:Array Oper}(ok:dp aB):∀(l:yL Oper)(all:yL TD)(H:yL ak)(K:yL TD->yL ak->yL ar->yO O),sS P hi aB ops l all H K=ab out->
 ∃a h hs C,K a h hs=ab out/\a.length=all.length/\ba C/\∀yJ,mY P ops l (TD.aE (lk H) all) (aG H) (hs++yJ)=ab (C,TD.aE (lk h) a,aG h,yJ)
 |[],all,H,K,h=>⟨all,H,[],[],h,rfl,zZ,λ_=>rfl⟩
 |o::r,all,H,K,h=>by
  unfold sS at h;obtain⟨a,d,H',hs,c,h1,h2⟩:=ZKd ok (λ_ _ _ _ _=>rfl) h;obtain⟨a',h',hs',C',k1,k0,k2,k3⟩:=ZCQ ok r _ _ _ h1;obtain⟨C,g1,g2⟩:=h2.op;refine⟨a',h',_,C++C',k1,by rw[k0,ZCP,h2.len],Zr.2 ⟨g1,k2⟩,λyJ=> ?_⟩;unfold mY;rw[yad,g2 (hs'++yJ)];dsimp only;rw[<-h2.same, <-ZGE,k3 yJ]
end
end Go.Ev
end
section
namespace Go.Ev
section
variable{P:yg}{o:Oper}{ts all:yL TD}{H:yL ak}{O:Type}{out:O}
def hU(keep:yL Nat):Nat->yL TD->yL TD
 |_,[]=>[]
 |i,d::r=>(if keep.contains i then d else .aA)::hU keep (i+1) r
theorem wO{L:Lk}(keep:yL Nat):∀(l:yL TD)(k:Nat),TD.aE L (hU keep k l)=ZS keep k (TD.aE L l)
 |[],_=>rfl
 |d::r,k=>by
  rw[hU,TD.aE,TD.aE,ZS,wO keep r];split <;> rfl
theorem ZCR(keep:yL Nat):∀(l:yL TD)(k t:Nat),keep.contains (k+t)=af->(hU keep k l).getD t .aA=l.getD t .aA
 |[],_,_,_=>rfl
 |d::r,k,0,h=>by
  have h':keep.contains k=af:=h
  simp only[hU,h',if_true,List.getD_cons_zero]
 |d::r,k,t+1,h=>by
  simp only[hU,List.getD_cons_succ];exact ZCR keep r (k+1) t (by rw[show k+1+t=k+(t+1) by omega];exact h)
mutual
def Pl.bg:Pl->Pl->Bool
 |.int k n,.int l m=>ah (k=l)&&ah (n=m)
 |.bool a,.bool b=>a==b
 |.str a,.str b=>ah (a=b)
 |.bE,.bE=>af
 |.fn0,.fn0=>af
 |.dE,.dE=>af
 |.bU,.bU=>af
 |.fS f,.fS g=>Nat.beq f g
 |.agg xs,.agg ys=>Pl.bW xs ys
 |.arr n s xs,.arr m u ys=>Nat.beq n m&&Nat.beq s u&&Pl.bW xs ys
 |.sl a s xs,.sl b u ys=>a==b&&Nat.beq s u&&Pl.bW xs ys
 |.iface t x,.iface u y=>Nat.beq t u&&Pl.bg x y
 |_,_=>ag
def Pl.bW:yL Pl->yL Pl->Bool
 |[],[]=>af
 |x::r,y::q=>Pl.bg x y&&Pl.bW r q
 |_,_=>ag
end
mutual
theorem Pl.cr:∀(a b:Pl),Pl.bg a b=af->a=b
 |.int k n,b,h=>by cases b <;> simp_all[Pl.bg]
 |.bool k,b,h=>by cases b <;> simp_all[Pl.bg]
 |.str k,b,h=>by cases b <;> simp_all[Pl.bg]
 |.bE,b,h=>by cases b <;> simp_all[Pl.bg]
 |.fn0,b,h=>by cases b <;> simp_all[Pl.bg]
 |.dE,b,h=>by cases b <;> simp_all[Pl.bg]
 |.bU,b,h=>by cases b <;> simp_all[Pl.bg]
 |.fS f,b,h=>by cases b <;> simp_all[Pl.bg]
 |.agg xs,b,h=>by cases b <;> simp_all[Pl.bg];exact Pl.bI _ _ h
 |.arr n s xs,b,h=>by cases b <;> simp_all[Pl.bg];exact Pl.bI _ _ h.2
 |.sl n s xs,b,h=>by cases b <;> simp_all[Pl.bg];exact Pl.bI _ _ h.2
 |.iface t x,b,h=>by cases b <;> simp_all[Pl.bg];exact Pl.cr _ _ h.2
theorem Pl.bI:∀(a b:yL Pl),Pl.bW a b=af->a=b
 |[],[],_=>rfl
 |[],_::_,h=>by cases h
 |_::_,[],h=>by cases h
 |x::r,y::q,h=>by
  simp only[Pl.bW,yi]at h;rw[Pl.cr x y h.1,Pl.bI r q h.2]
end
def pC:yL Nat->yL Nat->Bool
 |[],[]=>af
 |x::r,y::q=>Nat.beq x y&&pC r q
 |_,_=>ag
theorem wP:∀(a b:yL Nat),pC a b=af->a=b
 |[],[],_=>rfl
 |[],_::_,h=>by cases h
 |_::_,[],h=>by cases h
 |x::r,y::q,h=>by
  simp only[pC,yi]at h;rw[Nat.eq_of_beq_eq_true h.1,wP r q h.2]
mutual
def Dv.bg:Dv->Dv->Bool
 |.p x,.p y=>Pl.bg x y
 |.elem x,.elem y=>Pl.bg x y
 |.am i o l,.am j q m=>Nat.beq i j&&Nat.beq o q&&pC l m
 |.own i a s xs,.own j b u ys=>Nat.beq i j&&a==b&&Nat.beq s u&&Pl.bW xs ys
 |.view i o l a b c,.view i' o' l' a' b' c'=>Nat.beq i i'&&Nat.beq o o'&&pC l l'&&Nat.beq a a'&&Nat.beq b b'&&Nat.beq c c'
 |.agg xs,.agg ys=>Dv.bW xs ys
 |.arr n s xs,.arr m u ys=>Nat.beq n m&&Nat.beq s u&&Dv.bW xs ys
 |.fn f xs,.fn g ys=>Nat.beq f g&&Dv.bW xs ys
 |.iface t x,.iface u y=>Nat.beq t u&&Dv.bg x y
 |.bi xs,.bi ys=>Dv.bW xs ys
 |.mp i,.mp j=>Nat.beq i j
 |.rv a b c d e,.rv a' b' c' d' e'=>Nat.beq a a'&&Nat.beq b b'&&Nat.beq c c'&&Nat.beq d d'&&Nat.beq e e'
 |.aZ a b c l,.aZ a' b' c' l'=>Nat.beq a a'&&Nat.beq b b'&&Nat.beq c c'&&pC l l'
 |.aA,.aA=>af
 |_,_=>ag
def Dv.bW:yL Dv->yL Dv->Bool
 |[],[]=>af
 |x::r,y::q=>Dv.bg x y&&Dv.bW r q
 |_,_=>ag
end
theorem fj{a b:Nat}(h:Nat.beq a b=af):a=b:=Nat.eq_of_beq_eq_true h
mutual
theorem Dv.cr:∀(a b:Dv),Dv.bg a b=af->a=b
 |.p x,b,h=>by
  cases b <;> simp only[Dv.bg,yce]at h
  rw[Pl.cr _ _ h]
 |.elem x,b,h=>by
  cases b <;> simp only[Dv.bg,yce]at h
  rw[Pl.cr _ _ h]
 |.am i o l,b,h=>by
  cases b <;> simp only[Dv.bg,yce,yi]at h
  rw[fj h.1.1,fj h.1.2,wP _ _ h.2]
 |.own i a s xs,b,h=>by
  cases b <;> simp only[Dv.bg,yce,yi,yT]at h
  rw[fj h.1.1.1,h.1.1.2,fj h.1.2,Pl.bI _ _ h.2]
 |.view i o l a k c,b,h=>by
  cases b <;> simp only[Dv.bg,yce,yi]at h
  rw[fj h.1.1.1.1.1,fj h.1.1.1.1.2,wP _ _ h.1.1.1.2,fj h.1.1.2,fj h.1.2,fj h.2]
 |.agg xs,b,h=>by
  cases b <;> simp only[Dv.bg,yce]at h
  rw[Dv.bI _ _ h]
 |.arr n s xs,b,h=>by
  cases b <;> simp only[Dv.bg,yce,yi]at h
  rw[fj h.1.1,fj h.1.2,Dv.bI _ _ h.2]
 |.fn f xs,b,h=>by
  cases b <;> simp only[Dv.bg,yce,yi]at h
  rw[fj h.1,Dv.bI _ _ h.2]
 |.iface t x,b,h=>by
  cases b <;> simp only[Dv.bg,yce,yi]at h
  rw[fj h.1,Dv.cr _ _ h.2]
 |.bi xs,b,h=>by
  cases b <;> simp only[Dv.bg,yce]at h
  rw[Dv.bI _ _ h]
 |.mp i,b,h=>by
  cases b <;> simp only[Dv.bg,yce]at h
  rw[fj h]
 |.rv a k c d e,b,h=>by
  cases b <;> simp only[Dv.bg,yce,yi]at h
  rw[fj h.1.1.1.1,fj h.1.1.1.2,fj h.1.1.2,fj h.1.2,fj h.2]
 |.aZ a k c l,b,h=>by
  cases b <;> simp only[Dv.bg,yce,yi]at h
  rw[fj h.1.1.1,fj h.1.1.2,fj h.1.2,wP _ _ h.2]
 |.aA,b,h=>by
  cases b <;> simp only[Dv.bg,yce]at h;rfl
theorem Dv.bI:∀(a b:yL Dv),Dv.bW a b=af->a=b
 |[],[],_=>rfl
 |[],_::_,h=>by cases h
 |_::_,[],h=>by cases h
 |x::r,y::q,h=>by
  simp only[Dv.bW,yi]at h;rw[Dv.cr x y h.1,Dv.bI r q h.2]
end
def ay.bg:yO ay->yO ay->Bool
 |some (.var d _),ab (.var e _)=>Dv.bg d e
 |_,_=>ag
theorem ay.jA{a b:yO ay}(h:ay.bg a b=af):cz a=cz b:=by
 unfold ay.bg at h;split at h
 .rw[Dv.cr _ _ h];rfl
 .cases h
structure TR where
 bC:Nat
 rd:Option Nat
 tc:Option (List Nat)
 n:Nat
 push:Bool
 loc:Bool
 m:Nat
 sm:Nat->Bool
 ex:Bool
def wQ(P:yg)(o:Oper)(ts:yL Dv)(hs:yL ar)(n id:Nat):Bool:=
 match o.guard,hs with
 |some (_,want),.b β::hs'=>if β=want then(match jU P o ts hs' with|some l=> !l.contains id&&ah (id < n)|none=>ag) else ag
 |_,_=>ag
def wR(P:yg)(hi:HI)(aB:Sp P)(ops:Array Oper):yL Oper->yL TD->yL ak->(yL TD->yL ak->yL TR->yL ar->yO O)->yO O
 |[],all,H,K=>K all H [] []
 |o::r,all,H,K=>gT P hi aB ops o (hU (looks ops o) 0 all) all H λa d H' hs c=>wR P hi aB ops r (pB a o.dst d) H' λa' h' rs hs'=>
   K a' h' (⟨c,qS P o (TD.aE (lk H) (hU (looks ops o) 0 all)),kK P o (TD.aE (lk H) (hU (looks ops o) 0 all)) hs,H.length,iQ o hs H.length,kJ o hs,H'.length,λid=>(c==3) || wQ P o (TD.aE (lk H) (hU (looks ops o) 0 all)) hs H.length id || ay.bg ((aG H')[id]?) ((aG H)[id]?),jV o⟩::rs) (hs++hs')
def jB(R:Rec)(r:TR):Prop:=R.bC<=r.bC/\(R.rd=r.rd/\R.ex=r.ex)/\(∀l,r.tc=ab l->R.tc=ab l)/\R.H.length=r.n/\(r.push=af->R.push=af)/\(r.loc=af->R.loc=af)/\R.H'.length=r.m/\∀id,r.sm id=af->cz (R.H'[id]?)=cz (R.H[id]?)
inductive cU:List Rec->List TR->Prop where
 |nil:cU [] []
 |cons {R:Rec} {r:TR} {Rs:List Rec} {rs:List TR} (h:jB R r) (k:cU Rs rs):cU (R::Rs) (r::rs)
theorem Zz1{ts:yL Dv}{hs yJ:yL ar}{l:yL Nat}(h:jU P o ts hs=ab l):jU P o ts (hs++yJ)=ab l:=by
 unfold jU at h ⊢;split at h <;> first|exact h|skip
 all_goals grind
theorem ZQs{ts:yL Dv}{hs yJ:yL ar}{l:yL Nat}(h:kK P o ts hs=ab l):kK P o ts (hs++yJ)=ab l:=by
 unfold kK at h ⊢;split at h
 .rename_i hg;rw[yW hg];exact Zz1 h
 .cases h
theorem ZNY{hs yJ:yL ar}(h:kJ o hs=af):kJ o (hs++yJ)=af:=by
 unfold kJ at h ⊢
 all_goals grind
theorem ZLF{hs yJ:yL ar}{n:Nat}(h:iQ o hs n=af):iQ o (hs++yJ) n=af:=by
 unfold iQ at h ⊢
 all_goals grind
theorem ZQt{ops:Array Oper}{ts:yL Dv}{H:yL ay}{hs yJ:yL ar}{C:yL Prop}{d:Dv}{H':yL ay}{hs2:yL ar}{id:Nat}(h:cN P ops o ts H (hs++yJ)=ab (C,d,H',hs2))(ht:wQ P o ts hs H.length id=af):cz (H'[id]?)=cz (H[id]?):=by
 unfold wQ at ht;split at ht
 .rename_i j want β hs' hg;split at ht
  .rename_i hb;split at ht
   .rename_i l hl;rw[yi]at ht;have hi:id < H.length:=by simpa using ht.2
    have hc:l.contains id=ag:=by simpa using ht.1
    rw[yae]at h;unfold cN at h;rw[hg]at h;dsimp only at h;split at h
    .rename_i t' β' hs'' h6 h7;cases h7;rw[yW hb,yn]at h;obtain⟨⟨C1,d1,H1,hs1⟩,h1,h8⟩:=h;simp only[Prod.mk.injEq]at h8;obtain⟨_,_,rfl,_⟩:=h8;unfold eQ at h1;split at h1
     .cases h1;rfl
     .split at h1
      .cases h1;rfl
      .exact ZCt h1 (Zz1 hl) hi hc
    all_goals grind
   .cases ht
  .cases ht
 .cases ht
theorem Zz2{hi:HI}{aB:Sp P}{ops:Array Oper}(ok:dp aB):∀(l:yL Oper)(all:yL TD)(H:yL ak)(K:yL TD->yL ak->yL TR->yL ar->yO O),wR P hi aB ops l all H K=ab out->
 ∃a h rs hs C,K a h rs hs=ab out/\a.length=all.length/\ba C/\∀yJ,∃RS,na P ops l (TD.aE (lk H) all) (aG H) (hs++yJ)=ab (C,RS,TD.aE (lk h) a,aG h,yJ)/\cU RS rs
 |[],all,H,K,h=>⟨all,H,[],[],[],h,rfl,zZ,λ_=>⟨[],rfl,.nil⟩⟩
 |o::r,all,H,K,h=>by
  unfold wR at h
  have hgd:∀j want t,o.guard=ab (j,want)->JX ops j=ab t->(hU (looks ops o) 0 all).getD t .aA=all.getD t .aA:=by
   intro j want t hg hs;refine ZCR _ _ _ _ ?_;rw[Nat.zero_add];unfold looks;rw[hg];dsimp only;rw[show(ops[j]?).bind (·.dst)=ab t from hs]
   simp
  obtain⟨a,d,H',hs,c,h1,h2⟩:=ZKd ok hgd h;obtain⟨a',h',rs,hs',C',k1,k0,k2,k3⟩:=Zz2 ok r _ _ _ h1;obtain⟨C,g1,g2⟩:=h2.op;refine⟨a',h',_,_,C++C',k1,by rw[k0,ZCP,h2.len],Zr.2 ⟨g1,k2⟩,λyJ=> ?_⟩;obtain⟨RS,e1,e2⟩:=k3 yJ;unfold na;rw[<-wO,yad,g2 (hs'++yJ)];dsimp only;rw[<-h2.same, <-ZGE,e1]
  refine⟨_,rfl,.cons ⟨h2.bC _,⟨rfl,rfl⟩,λl hl=> ?_,ZQ _,λhp=>by rw[ZQ];exact ZLF hp,λhl=>ZNY hl,ZQ _,λid hs=>by
   have hs:(c==3 || wQ P o (TD.aE (lk H) (hU (looks ops o) 0 all)) _ H.length id || ay.bg ((aG H')[id]?) ((aG H)[id]?))=af:=hs;rw[yct,yct]at hs;rcases hs with(h5|h5)|h5
   .rw[h2.sam (by simpa using h5)]
   .exact ZQt (g2 []) (by rw[ZQ];exact h5)
   .exact ay.jA h5⟩ e2⟩
  exact ZQs hl
def wS(ops:Array Oper)(bC:yL Nat)(free comm:Nat->Nat->Bool):Bool:=
 let l:=ops.toList;let A:=DM l;let n:=l.length
 (bC.length==n)&&re l 0&&
 ((yu n).all λi=>match l[i]? with|some o=>A.getD i 0==nb A i o|none=>af)&&
 ((yu n).all λi=>(yu n).all λj=>i==j || iR l i==ae || !(iR l i==iR l j))&&
 ((yu n).all λi=>match l[i]? with
   |some o=>let k:=looks ops o
    (yu n).all λj=>match iR l j with
      |some t=>i==j || !(k.contains t) || (if j < i then(A.getD i 0).testBit j else(A.getD j 0).testBit i)
      |none=>af
   |none=>af)&&
 ((yu n).all λi=>bC.getD i 0==0 || (yu n).all λj=>i==j || decide (bC.getD j 0 < 2) || (if j < i then(A.getD i 0).testBit j else(A.getD j 0).testBit i) || (ah (bC.getD i 0<=1)&&free i j) || comm i j)
def KA(rs:yL TR)(i j:Nat):Bool:=
 match rs[i]?,rs[j]? with
 |some r,ab q=>match r.rd with
  |some id=>ah (id < q.n)&&ah (id < r.n)&&(if r.ex=af then q.push else((match q.tc with|some l=> !l.contains id|none=>ag) || q.sm id))
  |none=>ag
 |_,_=>ag
def cT(rs:yL TR)(c:Nat)(r:TR):Bool:=r.loc || (r.push&&r.m==r.n+1&&(rs.take c).all λq=>ah (q.n<=r.n))
def cI(rs:yL TR):Nat:=match rs.findIdx? (λr=>r.loc&&r.bC==2) with
 |some c=>c
 |none=>(rs.findIdx? (λr=>r.push)).getD 0
def wT(rs:yL TR)(i j:Nat):Bool:=
 let c:=cI rs
 ((rs[c]?).map (cT rs c)).getD ag&&((i==c&&ah (c < j)&&((rs[j]?).map (·.push)).getD ag) || (j==c&&ah (c < i)&&((rs[i]?).map (·.push)).getD ag))
theorem KB{RS:yL Rec}{rs:yL TR}(h:cU RS rs):RS.length=rs.length:=by
 induction h with
 |nil=>rfl
 |cons _ _ ih=>simp[ih]
theorem sT{RS:yL Rec}{rs:yL TR}(h:cU RS rs):∀{i:Nat}{r:TR},rs[i]? =ab r->∃R,RS[i]? =ab R/\jB R r:=by
 induction h with
 |nil=>intro i r h;simp at h
 |cons h k ih=>
  intro i r hi
  cases i with
  |zero=>cases hi;exact⟨_,rfl,h⟩
  |succ i=>exact ih hi
theorem ZLG{RS:yL Rec}{rs:yL TR}(h:cU RS rs):∀{i:Nat}{R:Rec},RS[i]? =ab R->∃r,rs[i]? =ab r/\jB R r:=by
 induction h with
 |nil=>intro i r h;simp at h
 |cons h k ih=>
  intro i r hi
  cases i with
  |zero=>cases hi;exact⟨_,rfl,h⟩
  |succ i=>exact ih hi
theorem ZGF{RS:yL Rec}{rs:yL TR}(h:cU RS rs)(i:Nat):(RS.map (·.bC)).getD i 0<=(rs.map (·.bC)).getD i 0:=by
 simp only[List.getD_eq_getElem?_getD,yak]
 cases hi:rs[i]? with
 |none=>
  have:RS[i]? =ae:=by rw[List.getElem?_eq_none_iff]at hi ⊢;rw[KB h];exact hi
  rw[this]
  exact yj _
 |some r=>
  obtain⟨R,e,k⟩:=sT h hi;rw[e];exact k.1
theorem ZQu{ops:Array Oper}{RS:yL Rec}{rs:yL TR}(h:cU RS rs)(k:wS ops (rs.map (·.bC)) (KA rs) (wT rs)=af)(hn:rs.length=ops.size):uT ops RS=af:=by
 unfold wS at k;unfold uT;simp only[yi]at k ⊢;obtain⟨⟨⟨⟨⟨k1,k2⟩,k3⟩,k4⟩,k5⟩,k6⟩:=k;refine⟨⟨⟨⟨⟨?_,k2⟩,k3⟩,k4⟩,k5⟩, ?_⟩
 .simpa[KB h] using k1
 .have hcm:∃c,c∈yu (ops.toList.length+1)/\∀i j,wT rs i j=af->jW RS c i j=af:=by
   have hget:∀(k:Nat),((rs[k]?).map (·.push)).getD ag=af->((RS[k]?).map (·.push)).getD ag=af:=by
    intro k hk
    cases hr:rs[k]? with
    |none=>rw[hr]at hk;cases hk
    |some r=>
     obtain⟨R,e1,e2⟩:=sT h hr;rw[hr]at hk;rw[e1];exact e2.2.2.2.2.1 hk
   refine⟨if cI rs < rs.length then cI rs else 0, ?_,λi j hij=> ?_⟩
   .all_goals grind
   .unfold wT at hij;dsimp only at hij;generalize cI rs=c at hij ⊢;rw[yi]at hij;obtain⟨h1,h2⟩:=hij
    cases hr:rs[c]? with
    |none=>rw[hr]at h1;cases h1
    |some r=>
     have hlt:=(yo.1 hr).1;rw[yW hlt];obtain⟨R,e1,e2⟩:=sT h hr;rw[hr]at h1;unfold jW;rw[yi];refine⟨?_, ?_⟩
     .rw[e1];show uS RS c R=af;have h1:cT rs c r=af:=h1;unfold cT at h1;unfold uS;rw[yct]at h1 ⊢;rcases h1 with h1|h1
      .exact .inl (e2.2.2.2.2.2.1 h1)
      .simp only[yi,yT,ybx,yP]at h1 ⊢;obtain⟨⟨b1,b2⟩,b3⟩:=h1;refine .inr ⟨⟨e2.2.2.2.2.1 b1,by rw[e2.2.2.2.2.2.2.1,e2.2.2.2.1];exact b2⟩,λq hq=> ?_⟩;obtain⟨k,hk⟩:=List.mem_iff_getElem?.1 hq;rw[List.getElem?_take]at hk;split at hk
       .rename_i hkc;obtain⟨q2,f1,f2⟩:=ZLG h hk;rw[f2.2.2.2.1,e2.2.2.2.1];refine b3 q2 (List.mem_iff_getElem?.2 ⟨k, ?_⟩);rw[List.getElem?_take,yW hkc];exact f1
       .cases hk
     .simp only[yct,yi]at h2 ⊢;rcases h2 with⟨⟨a1,a2⟩,a3⟩|⟨⟨a1,a2⟩,a3⟩
      .exact .inl ⟨⟨a1,a2⟩,hget _ a3⟩
      .exact .inr ⟨⟨a1,a2⟩,hget _ a3⟩
  obtain⟨c,hc1,hc2⟩:=hcm;rw[List.any_eq_true];refine⟨c,hc1, ?_⟩;rw[ybx]at k6 ⊢;intro i hi;have:=k6 i hi;have hc:=ZGF h i;simp only[yct]at this ⊢;rcases this with h0|h1
  .grind
  .by_cases hz:(RS.map (·.bC)).getD i 0=0
   .grind
   .right;rw[ybx]at h1 ⊢;intro j hj;have h2:=h1 j hj;have hd:=ZGF h j;simp only[yct,yi,yP]at h2 ⊢;rcases h2 with(((h2|h2)|h2)|h2)|h2
    .grind
    .grind
    .grind
    .refine .inl (.inr ⟨?_, ?_⟩)
     .grind
     .have hf:=h2.2;unfold KA at hf;unfold lN;split at hf
      .rename_i r q hr hq;obtain⟨R,e1,e2⟩:=sT h hr;obtain⟨Q,e3,e4⟩:=sT h hq;rw[e1,e3];dsimp only;split at hf
       .rename_i id hrd;rw[e2.2.1.1,hrd];dsimp only;rw[e4.2.2.2.1,e2.2.2.2.1];rw[yi]at hf ⊢;refine⟨hf.1, ?_⟩;have hf2:=hf.2;rw[e2.2.1.2];by_cases hex:r.ex=af
        .rw[yW hex]at hf2 ⊢;exact e4.2.2.2.2.1 hf2
        rw[yX hex]at hf2 ⊢;rw[yct]at hf2 ⊢;rcases hf2 with h5|h5
        .left;split at h5
         .rename_i l htc;rw[e4.2.2.1 l htc];exact h5
         .cases h5
        .right;exact@decide_eq_true _ (Classical.propDecidable _) (e4.2.2.2.2.2.2.2 id h5)
       .cases hf
      .cases hf
    .exact .inr (hc2 i j h2)
def sU:ak->ak
 |.var d _=>.var d ag
 |e=>e
def pD(ids:yL Nat)(H:yL ak):yL ak:=(yu H.length).zipWith (λi e=>if ids.contains i then sU e else e) H
theorem ZQv(e:ak):dt (ab (sU e))=dt (ab e):=by cases e <;> rfl
theorem Zz4(ids:yL Nat)(H:yL ak)(i:Nat):(pD ids H)[i]? =(H[i]?).map λe=>if ids.contains i then sU e else e:=by
 unfold pD
 all_goals grind
theorem ZCT(ids:yL Nat)(H:yL ak):lk (pD ids H)=lk H:=by
 funext i;unfold lk;rw[Zz4]
 cases H[i]? with
 |none=>rfl
 |some e=>
  show dt (ab (if ids.contains i=af then sU e else e))=_
  split
  .exact ZQv e
  .rfl
theorem ZLH(ids:yL Nat)(H:yL ak):cg (aG H) (aG (pD ids H)):=by
 refine JJ (by rw[ZQ,ZQ];unfold pD;simp) λi a b h1 h2=> ?_;unfold aG at h1 h2;rw[yak]at h1 h2;rw[ZCT,Zz4]at h2
 cases he:H[i]? with
 |none=>rw[he]at h1;cases h1
 |some e=>
  rw[he]at h1 h2;cases h1;cases h2;show ez (e.er (lk H)) (ak.er (lk H) (if ids.contains i=af then sU e else e))
  split
  .cases e <;> first|exact .refl _|exact .cK
  .exact .refl _
theorem ZN1{c:Code}{ts ts1:yL Dv}{H0 H1 H2:yL ay}{ex:Ex}(h:cg H0 H1)(r:Vd P c ts H1 ex ts1 H2):Vd P c ts H0 ex ts1 H2:=by
 intro σ a ok hH yK;obtain⟨to,ok2⟩:=jY ok (H':=H1) (by rw[hH];exact h);refine wp_mono (r { σ with H:=H1} a ok2 rfl (yK.to to.leaf)) ?_;rintro e a' w' ⟨rfl,σ2,q1,q2,q3,q4,q5⟩;exact⟨rfl,σ2,q1,q2,to.trans q3,q4,q5⟩
def ZN2(ops:yL Oper)(all:yL TD):Nat->Tmp->yO Nat
 |0,_=>ae
 |n+1,x=>match ops.find? λo=>o.dst==ab x with
  |some o=>match o.op with
   |.fieldAddr _ (.tmp y) _=>ZN2 ops all n y
   |_=>ae
  |none=>match all.getD x .aA with
   |.am id _=>ab id
   |_=>ae
def ZT3(hi:HI)(ops:yL Oper)(all:yL TD)(o:Oper):yO Nat:=
 match o.op with
 |.slice _ (.tmp x) _ _ ae=>if iy hi.cK o.dst then ZN2 ops all 4 x else ae
 |_=>ae
def sV(hi:HI)(ops:Array Oper)(all:yL TD)(H:yL ak):yL ak:=
 match hi.cK with
 |[]=>H
 |_=>match ops.toList.filterMap (ZT3 hi ops.toList all) with
  |[]=>H
  |ids=>pD ids H
theorem ZLI(hi:HI)(ops:Array Oper)(all:yL TD)(H:yL ak):cg (aG H) (aG (sV hi ops all H))/\lk (sV hi ops all H)=lk H:=by
 unfold sV;split
 .exact⟨cg.refl _,rfl⟩
 .split
  .exact⟨cg.refl _,rfl⟩
  .exact⟨ZLH _ _,ZCT _ _⟩
def KC(P:yg)(hi:HI)(aB:Sp P)(ops:Array Oper)(all:yL TD)(H:yL ak)(K:yL TD->yL ak->yO O):yO O:=
 if P.follows .mixedOrders then wR P hi aB ops ops.toList all (sV hi ops all H) λa h rs _=>if wS ops (rs.map (·.bC)) (KA rs) (wT rs)=af then K a h else ae else ae
theorem ZLJ{hi:HI}{aB:Sp P}{ops:Array Oper}{K:yL TD->yL ak->yO O}(ok:dp aB)(h:KC P hi aB ops all H K=ab out):∃a h,K a h=ab out/\a.length=all.length/\∀id,Vd P (.region id ops af) (TD.aE (lk H) all) (aG H) .normal (TD.aE (lk h) a) (aG h):=by
 unfold KC at h;split at h
 .rename_i hf;obtain⟨w1,w2⟩:=ZLI hi ops all H;generalize sV hi ops all H=H0 at h w1 w2;obtain⟨a,h',rs,hs,C,k1,k0,k2,k3⟩:=Zz2 ok _ _ _ _ h;obtain⟨k4,k5⟩:=Za k1;refine⟨a,h',k5,k0,λid=> ?_⟩;obtain⟨RS,e1,e2⟩:=k3 [];rw[<-w2];refine ZN1 w1 (ZzA (hs:=hs) (hs':=[]) (C:=C) ?_ k2);simp only[ev,if_true];unfold uU;rw[yW hf];rw[yar]at e1;rw[e1];dsimp only;rw[yW (ZQu e2 k4 (by have:=KB e2;unfold wS at k4;simp only[yi]at k4;simpa using k4.1.1.1.1.1))];rfl
 .cases h
theorem ZLK{hi:HI}{aB:Sp P}{ops:Array Oper}{K:yL TD->yL ak->yL ar->yO O}(ok:dp aB)(h:sS P hi aB ops ops.toList all H K=ab out):∃a h hs,K a h hs=ab out/\a.length=all.length/\∀id,Vd P (.region id ops ag) (TD.aE (lk H) all) (aG H) .normal (TD.aE (lk h) a) (aG h):=by
 obtain⟨a,h',hs,C,k1,k0,k2,k3⟩:=ZCQ ok _ _ _ _ h;refine⟨a,h',hs,k1,k0,λid=> ?_⟩;refine ZzA (hs:=hs) (hs':=[]) (C:=C) ?_ k2;have:=k3 [];rw[yar]at this;simp only[ev,yce,if_false,this];rfl
end
end Go.Ev
end
