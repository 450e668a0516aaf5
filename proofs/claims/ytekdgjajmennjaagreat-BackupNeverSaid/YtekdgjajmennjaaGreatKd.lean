/- Parts of the proof, in one file. -/
import Derived.Test.YtekdgjajmennjaaGreatKc
open Bool renaming and_eq_true → yi
open Go renaming TypeId → yb, Program → yg, Operand → yn, FuncId → yu
open List renaming getElem?_eq_some_iff → yo, range → yq, length_append → yr, nil_append → yv, length_map → yx, cons_append → yaa, replicate → yab, getElem?_eq_getElem → yac, map_cons → yad, getElem?_map → yaf, getElem?_append_left → yah, length_cons → yai, map_append → yaj, append_assoc → yak, getElem?_eq_none → yan, map_map → yaw, take_length → yay, all_eq_true → yba, map_set → ybb, getElem?_cons_zero → ybh, append_nil → ybj, map_take → yby, map_congr_left → ycg, length_nil → ych, getElem?_set_self → ycl, length_replicate → yco
open Nat renaming le_refl → ym, lt_or_ge → ybp
open Option renaming bind_eq_some_iff → yc, bind_some → yf, map_eq_some_iff → yp, map_some → yz
open Option.some renaming injEq → yj, inj → ybe
set_option linter.unusedVariables false
set_option linter.unusedSimpArgs false
section
namespace Go.Ev
mutual
theorem Znj{L M:Lk}(h:∀id t,ZS L id t none=ZS M id t none):∀(d:TD),d.er L=d.er M
 |.p _=>rfl
 |.elem _=>rfl
 |.ref _ _=>rfl
 |.own id nn t c=>by
  cases c with
  |none=>rw[TD.er,TD.er,h]
  |some _=>rfl
 |.view _ _ _ _ _=>rfl
 |.agg xs=>by rw[TD.er,TD.er,ers_cont h xs]
 |.arr _ _ xs=>by rw[TD.er,TD.er,ers_cont h xs]
 |.fn _ xs=>by rw[TD.er,TD.er,ers_cont h xs]
 |.iface _ x=>by rw[TD.er,TD.er,Znj h x]
 |.tup xs=>by rw[TD.er,TD.er,ers_cont h xs]
 |.mp _=>rfl
 |.rv _ _ _ _ _=>rfl
 |.rref _ _ _=>rfl
 |.rw _=>by simp only[TD.er,Zap,h]
 |.rp _ _=>by simp only[TD.er,Zap,h]
 |.junk=>rfl
theorem ers_cont{L M:Lk}(h:∀id t,ZS L id t none=ZS M id t none):∀(ds:List TD),TD.ers L ds=TD.ers M ds
 |[]=>rfl
 |x::r=>by rw[TD.ers,TD.ers,Znj h x,ers_cont h r]
end
theorem ZHg{L M:Lk}(h:∀id t,ZS L id t none=ZS M id t none)(e:TEnt):e.er L=e.er M:=by
 cases e with
 |var d st=>rw[TEnt.er,TEnt.er,Znj h]
 |row v s st e d=>rw[TEnt.er,TEnt.er,Znj h]
 |rowM t np v st e pre mid post=>rw[TEnt.er,TEnt.er,Znj h]
 |_=>rfl
mutual
def TD.free(n:Nat):TD→Bool
 |.own id _ _ c=>c.isSome || id !=n
 |.rw id=>id !=n
 |.rp id _=>id !=n
 |.agg xs=>TD.frees n xs
 |.arr _ _ xs=>TD.frees n xs
 |.fn _ xs=>TD.frees n xs
 |.iface _ x=>TD.free n x
 |.tup xs=>TD.frees n xs
 |_=>true
def TD.frees(n:Nat):List TD→Bool
 |[]=>true
 |x::r=>TD.free n x&&TD.frees n r
end
def TEnt.free(n:Nat):TEnt→Bool
 |.var d _=>d.free n
 |.row _ _ _ _ d=>d.free n
 |.rowM _ _ _ _ _ _ d _=>d.free n
 |_=>true
mutual
theorem QM{L M:Lk}{n:Nat}(h:∀id t,id≠n→ZS L id t none=ZS M id t none):∀(d:TD),d.free n=true→d.er L=d.er M
 |.p _,_=>rfl
 |.elem _,_=>rfl
 |.ref _ _,_=>rfl
 |.own id nn t c,hf=>by
  cases c with
  |none=>
   have:id≠n:=by simpa[TD.free] using hf
   rw[TD.er,TD.er,h id t this]
  |some _=>rfl
 |.view _ _ _ _ _,_=>rfl
 |.agg xs,hf=>by rw[TD.er,TD.er,ers_free h xs hf]
 |.arr _ _ xs,hf=>by rw[TD.er,TD.er,ers_free h xs hf]
 |.fn _ xs,hf=>by rw[TD.er,TD.er,ers_free h xs hf]
 |.iface _ x,hf=>by rw[TD.er,TD.er,QM h x hf]
 |.tup xs,hf=>by rw[TD.er,TD.er,ers_free h xs hf]
 |.mp _,_=>rfl
 |.rv _ _ _ _ _,_=>rfl
 |.rref _ _ _,_=>rfl
 |.rw id,hf=>by
  have:id≠n:=by simpa[TD.free] using hf
  simp only[TD.er,Zap,h id _ this]
 |.rp id _,hf=>by
  have:id≠n:=by simpa[TD.free] using hf
  simp only[TD.er,Zap,h id _ this]
 |.junk,_=>rfl
theorem ers_free{L M:Lk}{n:Nat}(h:∀id t,id≠n→ZS L id t none=ZS M id t none):∀(ds:List TD),TD.frees n ds=true→TD.ers L ds=TD.ers M ds
 |[],_=>rfl
 |x::r,hf=>by
  simp only[TD.frees,yi] at hf;rw[TD.ers,TD.ers,QM h x hf.1,ers_free h r hf.2]
end
mutual
def TD.stale(L:Lk)(n:Nat):TD→TD
 |.own id nn t c=>if id=n then .own id nn t (some (ZS L id t c)) else .own id nn t c
 |.agg xs=>.agg (TD.stales L n xs)
 |.arr m s xs=>.arr m s (TD.stales L n xs)
 |.fn f xs=>.fn f (TD.stales L n xs)
 |.iface t x=>.iface t (TD.stale L n x)
 |.tup xs=>.tup (TD.stales L n xs)
 |.p x=>.p x
 |.elem x=>.elem x
 |.ref id path=>.ref id path
 |.view id path s lo n=>.view id path s lo n
 |.mp id=>.mp id
 |.rv id v s lo n=>.rv id v s lo n
 |.rref id v path=>.rref id v path
 |.rw id=>if id=n then .rv id (Zap L id 0) (Zap L id 1) 0 (Zap L id 2) else .rw id
 |.rp id path=>if id=n then .rref id (Zap L id 0) path else .rp id path
 |.junk=>.junk
def TD.stales(L:Lk)(n:Nat):List TD→List TD
 |[]=>[]
 |x::r=>TD.stale L n x::TD.stales L n r
end
def TEnt.stale(L:Lk)(n:Nat):TEnt→TEnt
 |.var d st=>.var (d.stale L n) st
 |.row v s st e d=>.row v s st e (d.stale L n)
 |.rowM t np v st e pre d post=>.rowM t np v st e pre (d.stale L n) post
 |e=>e
mutual
theorem ZiV{L M:Lk}{n:Nat}(h:∀id t,id≠n→ZS L id t none=ZS M id t none):∀(d:TD),(d.stale L n).er M=d.er L
 |.p _=>rfl
 |.elem _=>rfl
 |.ref _ _=>rfl
 |.own id nn t c=>by
  rw[TD.stale];split
  ·rfl
  ·rename_i hn
   cases c with
   |none=>rw[TD.er,TD.er,h id t hn]
   |some _=>rfl
 |.view _ _ _ _ _=>rfl
 |.agg xs=>by rw[TD.stale,TD.er,TD.er,ers_stale h xs]
 |.arr _ _ xs=>by rw[TD.stale,TD.er,TD.er,ers_stale h xs]
 |.fn _ xs=>by rw[TD.stale,TD.er,TD.er,ers_stale h xs]
 |.iface _ x=>by rw[TD.stale,TD.er,TD.er,ZiV h x]
 |.tup xs=>by rw[TD.stale,TD.er,TD.er,ers_stale h xs]
 |.mp _=>rfl
 |.rv _ _ _ _ _=>rfl
 |.rref _ _ _=>rfl
 |.rw id=>by
  rw[TD.stale];split
  ·rfl
  ·rename_i hn
   simp only[TD.er,Zap,h id _ hn]
 |.rp id _=>by
  rw[TD.stale];split
  ·rfl
  ·rename_i hn
   simp only[TD.er,Zap,h id _ hn]
 |.junk=>rfl
theorem ers_stale{L M:Lk}{n:Nat}(h:∀id t,id≠n→ZS L id t none=ZS M id t none):∀(ds:List TD),TD.ers M (TD.stales L n ds)=TD.ers L ds
 |[]=>rfl
 |x::r=>by rw[TD.stales,TD.ers,TD.ers,ZiV h x,ers_stale h r]
end
theorem Zga{L M:Lk}{n:Nat}(h:∀id t,id≠n→ZS L id t none=ZS M id t none)(e:TEnt):(e.stale L n).er M=e.er L:=by
 cases e with
 |var d st=>rw[TEnt.stale,TEnt.er,TEnt.er,ZiV h]
 |row v s st e d=>rw[TEnt.stale,TEnt.er,TEnt.er,ZiV h]
 |rowM t np v st e pre d post=>rw[TEnt.stale,TEnt.er,TEnt.er,ZiV h]
 |_=>rfl
def TEnt.isLog:TEnt→Bool
 |.log _ _ _=>true
 |.rowT _ _ _ _ _=>true
 |.rowN _ _ _ _ _ _ _=>true
 |.rowM _ _ _ _ _ _ _ _=>true
 |_=>false
theorem ZCw{e:TEnt}(h:e.isLog=false):lkE (some e)=none:=by
 cases e <;> first|rfl|cases h
theorem QN{H:List TEnt}{e:TEnt}(h:e.isLog=false):lk (H++[e])=lk H:=by
 funext id;unfold lk;rcases Nat.lt_trichotomy id H.length with hl|hl|hl
 ·rw[yah hl]
 ·subst hl;rw[List.getElem?_concat_length,ZCw h,yan (ym _)];rfl
 ·rw[yan (by simp;omega),yan (by omega)]
theorem XI{H:List TEnt}{id:Nat}{e x:TEnt}(hx:H[id]? =some x)(h1:x.isLog=false)(h2:e.isLog=false):lk (H.set id e)=lk H:=by
 funext j;unfold lk;by_cases hj:id=j
 ·subst hj;rw[getElem?_set_eq' hx,hx,ZCw h1,ZCw h2]
 ·rw[getElem?_set_ne' hj]
theorem QO{H:List TEnt}{e:TEnt}(h:lk (H++[e])=lk H):erH (H++[e])=erH H++[e.er (lk H)]:=by
 unfold erH;rw[h,yaj];rfl
theorem Yo{H:List TEnt}{id:Nat}{e:TEnt}(h:lk (H.set id e)=lk H):erH (H.set id e)=(erH H).set id (e.er (lk H)):=by
 unfold erH;rw[h,ybb]
theorem Znk{H:List TEnt}{T:Ty}{e:yb}(id:Nat)(t:Ty):ZS (lk H) id t none=ZS (lk (H++[.log T e []])) id t none:=by
 unfold ZS lk;dsimp only;rcases Nat.lt_trichotomy id H.length with hl|hl|hl
 ·rw[yah hl]
 ·subst hl;rw[List.getElem?_concat_length,yan (ym _)];show[]=(Ty.castL T t []).getD []
  cases h:Ty.castL T t [] with
  |none=>rfl
  |some y=>
   obtain⟨e,h2⟩:=Zy h;subst e;subst h2;rfl
 ·rw[yan (by omega),yan (by simp;omega)]
theorem ZxL{H:List TEnt}{T:Ty}{e:yb}:erH (H++[.log T e []])=erH H++[.log T.size e []]:=by
 unfold erH;rw[yaj];congr 1;exact ycg λx _=>(ZHg (λid t=>Znk id t) x).symm
theorem QP{H:List TEnt}{e:TEnt}(id:Nat)(t:Ty)(h:id≠H.length):ZS (lk H) id t none=ZS (lk (H++[e])) id t none:=by
 unfold ZS lk;dsimp only;rcases Nat.lt_or_gt_of_ne h with hl|hl
 ·rw[yah hl]
 ·rw[yan (by omega),yan (by simp;omega)]
theorem ZEd{H:List TEnt}{T:Ty}{e:yb}{l:List T.den}(h:H.all (TEnt.free H.length)=true):erH (H++[.log T e l])=erH H++[.log T.size e (l.map T.enc)]:=by
 unfold erH;rw[yaj];congr 1;refine ycg λx hx=> ?_
 cases x with
 |var d st=>
  rw[TEnt.er,TEnt.er];congr 1
  exact(QM (λid t hn=>QP id t hn) d (yba.1 h _ hx)).symm
 |row v s st e d=>
  rw[TEnt.er,TEnt.er];congr 1
  exact(QM (λid t hn=>QP id t hn) d (yba.1 h _ hx)).symm
 |rowM t np v st e pre d post=>
  rw[TEnt.er,TEnt.er,QM (λid t hn=>QP id t hn) d (yba.1 h _ hx)]
 |_=>rfl
theorem WE{H:List TEnt}{n:Nat}{e:TEnt}(L:Lk)(id:Nat)(t:Ty)(h:id≠n):ZS (lk H) id t none=ZS (lk ((H.map (TEnt.stale L n)).set n e)) id t none:=by
 have h1:lk ((H.map (TEnt.stale L n)).set n e) id=lk H id:=by
  unfold lk;rw[getElem?_set_ne' (Ne.symm h),yaf]
  cases H[id]? with
  |none=>rfl
  |some x=>cases x <;> rfl
 unfold ZS;rw[h1]
theorem ZHh{H:List TEnt}{n:Nat}{T:Ty}{e:yb}{l:List T.den}:erH ((H.map (TEnt.stale (lk H) n)).set n (.log T e l))=(erH H).set n (.log T.size e (l.map T.enc)):=by
 unfold erH;rw[ybb,yaw];congr 1;refine ycg λx hx=> ?_;exact Zga (λid t hn=>WE (lk H) id t hn) x
def TP.isV:TP→Option (Σ t:Ty,t.den)
 |.v t x=>some ⟨t,x⟩
 |_=>none
def TP.setF:TP→Nat→TP→Option TP
 |.v (.st fs) x,i,z=>match z.isV with
  |some q=>(Ty.upd fs x i q.1 q.2).map (.v (.st fs))
  |none=>some (.agg ((Ty.flds fs x).set i z))
 |.agg l,i,z=>some (.agg (l.set i z))
 |_,_,_=>none
theorem ZJQ{x y z:TP}{i:Nat}(h:x.setF i z=some y):∀xs,x.pe=.agg xs→y.pe=.agg (xs.set i z.pe):=by
 cases x with
 |v u a=>
  cases u with
  |st fs=>
   intro xs hx;have hx':Pl.agg (Ty.encs fs a)=.agg xs:=hx;injection hx' with hx';subst hx';simp only[TP.setF] at h;split at h
   ·rename_i q hq;obtain⟨x',h1,rfl⟩:=Zc h
    have hz:z=.v q.1 q.2:=by
     unfold TP.isV at hq;split at hq
     ·cases hq;rfl
     ·cases hq
    show Pl.agg (Ty.encs fs x')=_;rw[ZD2 fs a i q.1 q.2 x' h1,hz];rfl
   ·cases h;show Pl.agg (TP.pes ((Ty.flds fs a).set i z))=_;rw[XS,ybb, ←XS]
    exact congrArg (λl=>Pl.agg (l.set i z.pe)) (ZrT fs a)
  |_=>cases h
 |agg l=>
  intro xs hx;cases h;rw[TP.pe] at hx;injection hx with hx;subst hx
  rw[TP.pe,XS,XS,ybb]
 |_=>cases h
def ZM7(x:Pl)(i o:Nat):Bool:=
 match x with
 |.agg xs=>o==Pl.sizes (xs.take i)
 |_=>false
def ZK0(x:TP)(i:Nat):TD→Option TD
 |.p y=>(x.setF i y).map .p
 |d=>x.parts.map λl=>.agg ((l.map .p).set i d)
def ZHi(a:ARow)(i:Nat):TD→Option TD
 |.p z=>(TP.to ZiS z a.t).map λy'=>.p (.v (.arr a.n a.t) (a.l.set i y'))
 |d=>some (.arr a.n a.t.size ((a.l.map λy=>TD.p (.v a.t y)).set i d))
theorem ZCx{L:Lk}(l:List TP):TD.ers L (l.map .p)=(TP.pes l).map .p:=by
 rw[Zv,XS,yaw,yaw];rfl
def ZK1(n s:Nat)(xs:List TP)(i:Nat):TD→Option TD
 |.p _=>none
 |d=>some (.arr n s ((xs.map .p).set i d))
abbrev Kg(O:Type):=TD→List Hint→(TD→Option TD)→Option O
def gpT{O:Type}(L:Lk):List Stp→TD→Kg O→Option O
 |[],d,K=>K d [] some
 |.fld i o::r,.p x,K=>(x.fld i).bind λz=>if ZM7 x.pe i o=true then gpT L r (.p z) λsub hs put=>K sub hs λnew=>(put new).bind λd=>ZK0 x i d else none
 |.ix i s::r,.p (.arr n s' xs),K=>(xs[i]?).bind λz=>if s=s' then gpT L r (.p z) λsub hs put=>K sub (.el z.pe::hs) λnew=>(put new).bind λd=>ZK1 n s' xs i d else none
 |.ix i s::r,.p x,K=>x.arow.bind λa=>if s=a.t.size then(a.l[i]?).bind λy=>gpT L r (.p (.v a.t y)) λsub hs put=>K sub (.el (a.t.enc y)::hs) λnew=>
   (put new).bind λd=>ZHi a i d else none
 |.fld i o::r,.agg ds,K=>(ds[i]?).bind λz=>if o=Dv.sizes ((TD.ers L ds).take i) then gpT L r z λsub hs put=>K sub hs λnew=>(put new).map λy=>.agg (ds.set i y) else none
 |.ix i s::r,.arr n s' ds,K=>(ds[i]?).bind λz=>if s=s' then gpT L r z λsub hs put=>K sub hs λnew=>(put new).map λy=>.arr n s' (ds.set i y) else none
 |_,_,_=>none
def V5:List Stp→Nat
 |[]=>0
 |q::r=>q.o+V5 r
theorem Y2(l:List Stp):Xl l=V5 l:=by
 have:∀(l:List Stp)(n:Nat),l.foldl (λn q=>n+q.o) n=n+V5 l:=by
  intro l
  induction l with
  |nil=>intro n;rfl
  |cons q r ih=>intro n;rw[List.foldl_cons,ih,V5];omega
 rw[Xl,this];omega
theorem YK{O:Type}{L:Lk}:∀(path:List Stp)(d:TD)(K:Kg O)(out:O),gpT L path d K=some out→
 ∃sub hs put C,K sub hs put=some out∧AllP C∧(∀rest,Z3 (d.er L) (path.map Stp.i) (hs++rest)=some (C,V5 path,sub.er L,rest))∧
  ∀new d',put new=some d'→∀rest,Xi (new.er L) (d.er L) (path.map Stp.i) (hs++rest)=some (d'.er L)
 |[],d,K,out,h=>⟨d,[],some,[],h,trivial,λ_=>rfl,λnew d' h _=>by cases h;rfl⟩
 |q::r,d,K,out,h=>by
  cases q with
  |fld i o=>
   cases d with
   |p x=>
    simp only[gpT] at h;obtain⟨z,h1,h⟩:=yc.1 h;obtain⟨h2,h⟩:=Za h;obtain⟨sub,hs,put,C,k1,k2,k3,k4⟩:=YK r (.p z) _ out h;obtain⟨xs,e1,e2⟩:=ZGY h1
    have h3:o=Pl.sizes (xs.take i):=by
     unfold ZM7 at h2;rw[e1] at h2;simpa using h2
    refine⟨sub,hs,_,C,k1,k2,λrest=> ?_,λnew d' hp rest=> ?_⟩
    ·rw[TD.er,e1];show Z3 (.p (.agg xs)) (i::r.map Stp.i) (hs++rest)=_;unfold Z3;rw[e2];dsimp only;have:=k3 rest;rw[TD.er] at this;rw[this,yz,V5,h3];rfl
    ·obtain⟨d1,p1,hp⟩:=yc.1 hp;have:=k4 new d1 p1 rest;unfold ZK0 at hp;rw[TD.er] at this;rw[TD.er,e1];show Xi (new.er L) (.p (.agg xs)) (i::r.map Stp.i) (hs++rest)=_;unfold Xi;rw[e2];dsimp only;rw[this];split at hp
     ·obtain⟨x',p3,rfl⟩:=Zc hp;rw[TD.er,TD.er,ZJQ p3 xs e1]
     ·rename_i hne;obtain⟨l,p3,rfl⟩:=Zc hp
      have e3:TP.pes l=xs:=by
       have:=ZsO p3;rw[e1] at this;injection this with this;exact this.symm
      rw[TD.er,Zv,ybb, ←Zv,ZCx,e3]
      cases d1 <;> first|rfl|exact absurd rfl (hne _)
   |agg ds=>
    simp only[gpT] at h;obtain⟨z,h1,h⟩:=yc.1 h;split at h
    ·rename_i h2;obtain⟨sub,hs,put,C,k1,k2,k3,k4⟩:=YK r z _ out h;refine⟨sub,hs,_,C,k1,k2,λrest=> ?_,λnew d' hp rest=> ?_⟩
     ·rw[TD.er];show Z3 (.agg (TD.ers L ds)) (i::r.map Stp.i) (hs++rest)=_;unfold Z3;rw[Vp h1];dsimp only;rw[k3 rest,yz,V5,h2];rfl
     ·obtain⟨y,p1,rfl⟩:=Zc hp;rw[TD.er];show Xi (new.er L) (.agg (TD.ers L ds)) (i::r.map Stp.i) (hs++rest)=_;unfold Xi;rw[Vp h1];dsimp only;rw[k4 new y p1 rest,yz,TD.er,Zv,Zv,ybb]
    ·cases h
   |_=>cases h
  |ix i s=>
   cases d with
   |p x=>
    by_cases hx:∃n s' xs,x=.arr n s' xs
    ·obtain⟨n,s',xs,rfl⟩:=hx;simp only[gpT] at h;obtain⟨z,h1,h⟩:=yc.1 h;split at h
     ·rename_i h2;obtain⟨sub,hs,put,C,k1,k2,k3,k4⟩:=YK r (.p z) _ out h;have hz:(TP.pes xs)[i]? =some z.pe:=by rw[XS,yaf,h1];rfl
      refine⟨sub,_,_,((TP.pes xs)[i]? =some z.pe)::C,k1,⟨hz,k2⟩,λrest=> ?_,λnew d' hp rest=> ?_⟩
      ·rw[TD.er,TP.pe];show Z3 (.p (.arr n s' (TP.pes xs))) (i::r.map Stp.i) (_::(hs++rest))=_;unfold Z3;dsimp only;have:=k3 rest;rw[TD.er] at this;rw[this,yz,V5, ←h2];rfl
      ·obtain⟨d1,p1,hp⟩:=yc.1 hp;have:=k4 new d1 p1 rest;rw[TD.er] at this;rw[TD.er,TP.pe];show Xi (new.er L) (.p (.arr n s' (TP.pes xs))) (i::r.map Stp.i) (_::(hs++rest))=_;unfold Xi;dsimp only;rw[this];by_cases hd:∃y,d1=.p y
       ·obtain⟨y,rfl⟩:=hd;cases hp
       ·have e:ZK1 n s' xs i d1=some (.arr n s' ((xs.map .p).set i d1)):=by cases d1 <;> first|rfl|exact absurd ⟨_,rfl⟩ hd
        rw[e] at hp;cases hp;rw[TD.er,Zv,ybb, ←Zv,ZCx];cases d1 <;> first|rfl|exact absurd ⟨_,rfl⟩ hd
     ·cases h
    have hg:gpT L (.ix i s::r) (.p x) K=x.arow.bind λa=>if s=a.t.size then(a.l[i]?).bind λy=>gpT L r (.p (.v a.t y)) λsub hs put=>K sub (.el (a.t.enc y)::hs) λnew=>(put new).bind λd=>ZHi a i d else none:=by
     cases x <;> first|rfl|exact absurd ⟨_,_,_,rfl⟩ hx
    rw[hg] at h;obtain⟨a,h1,h⟩:=yc.1 h;split at h
    ·rename_i hs0;obtain⟨y,h2,h⟩:=yc.1 h;obtain⟨sub,hs,put,C,k1,k2,k3,k4⟩:=YK r (.p (.v a.t y)) _ out h;refine⟨sub,_,_,((a.l.map a.t.enc)[i]? =some (a.t.enc y))::C,k1,⟨Znd h2,k2⟩,λrest=> ?_,λnew d' hp rest=> ?_⟩
     ·rw[TD.er,Wj h1];show Z3 (.p (.arr a.n a.t.size _)) (i::r.map Stp.i) (_::(hs++rest))=_;unfold Z3;dsimp only;have:=k3 rest;rw[TD.er,TP.pe] at this;rw[this,yz,V5,hs0];rfl
     ·obtain⟨d1,p1,hp⟩:=yc.1 hp;have:=k4 new d1 p1 rest;unfold ZHi at hp;rw[TD.er,TP.pe] at this;rw[TD.er,Wj h1];show Xi (new.er L) (.p (.arr a.n a.t.size _)) (i::r.map Stp.i) (_::(hs++rest))=_;unfold Xi;dsimp only;rw[this];split at hp
      ·rename_i z;obtain⟨y',p3,rfl⟩:=Zc hp;rw[TD.er];dsimp only;rw[ZcG z a.t y' p3, ←ybb];rfl
      ·rename_i hne;cases hp;rw[TD.er,Zv,ybb,yaw,yaw];cases d1 <;> first|rfl|exact absurd rfl (hne _)
    ·cases h
   |arr n s' ds=>
    simp only[gpT] at h;obtain⟨z,h1,h⟩:=yc.1 h;split at h
    ·rename_i h2;obtain⟨sub,hs,put,C,k1,k2,k3,k4⟩:=YK r z _ out h;refine⟨sub,hs,_,C,k1,k2,λrest=> ?_,λnew d' hp rest=> ?_⟩
     ·rw[TD.er];show Z3 (.arr n s' (TD.ers L ds)) (i::r.map Stp.i) (hs++rest)=_;unfold Z3;rw[Vp h1];dsimp only;rw[k3 rest,yz,V5, ←h2];rfl
     ·obtain⟨y,p1,rfl⟩:=Zc hp;rw[TD.er];show Xi (new.er L) (.arr n s' (TD.ers L ds)) (i::r.map Stp.i) (hs++rest)=_;unfold Xi;rw[Vp h1];dsimp only;rw[k4 new y p1 rest,yz,TD.er,Zv,Zv,ybb]
    ·cases h
   |_=>cases h
theorem Qq{H:List TEnt}{id:Nat}{T:Ty}{v:List Unit}{st:Bool}{e:yb}{l:List T.den}(hd:H[id]? =some (.rowT T v st e l)):(TD.rw id).er (lk H)=.rv id v.length T.size 0 l.length∧
 ∀path,(TD.rp id path).er (lk H)=.rref id v.length (Xl path) (path.map Stp.i):=by
 have h:ZS (lk H) id (.sl (.st [])) none=([v,yab T.size (),yab l.length ()]:List (List Unit)):=by
  unfold ZS lk;dsimp only;rw[hd];rfl
 refine⟨?_,λpath=> ?_⟩
 ·rw[TD.er];unfold Zap;rw[h];show Dv.rv id v.length (yab T.size ()).length 0 (yab l.length ()).length=_;rw[yco,yco]
 ·rw[TD.er];unfold Zap;rw[h];rfl
abbrev Kn(O:Type):=List TD→TD→List TEnt→List Hint→Nat→Option O
def GoodR(P:yg)(o:Oper)(ts:List TD)(H:List TEnt)(d:TD)(hs:List Hint):Prop:=
 (∀rest,evN P o (TD.ers (lk H) ts) (hs++rest)=none)∧∃C,AllP C∧∀rest,evR P o (TD.ers (lk H) ts) (erH H) (hs++rest)=some (C,d.er (lk H),rest)
def GoodE(P:yg)(o:Oper)(ts:List TD)(H:List TEnt)(d:TD)(H':List TEnt)(hs:List Hint):Prop:=
 (∀rest,evN P o (TD.ers (lk H) ts) (hs++rest)=none)∧(∀rest,evR P o (TD.ers (lk H) ts) (erH H) (hs++rest)=none)∧
   ∃C,AllP C∧∀rest,evE P o (TD.ers (lk H) ts) (erH H) (hs++rest)=some (C,d.er (lk H'),erH H',rest)
theorem or3{a b c d:Prop}(h:c):a∨b∨c∨d:=.inr (.inr (.inl h))
structure Good(P:yg)(o:Oper)(ts all:List TD)(H:List TEnt)(all':List TD)(d:TD)(H':List TEnt)(hs:List Hint)(cls:Nat):Prop where
 same:TD.ers (lk H') all'=TD.ers (lk H) all
 len:all'.length=all.length
 op:(cls=0∧H'=H∧GoodN (lk H) P o ts d hs)∨(cls=1∧H'=H∧GoodR P o ts H d hs)∨(cls=2∧GoodE P o ts H d H' hs)∨(cls=3∧erH H'=erH H∧GoodE P o ts H d H' hs)
section
variable{P:yg}{o:Oper}{ts all:List TD}{H:List TEnt}{O:Type}{K:Kn O}{out:O}
def ZsX(H:List TEnt)(id:Nat):Option TD:=
 match H[id]? with
 |some (.var d _)=>some d
 |_=>none
theorem Zdz{id:Nat}{d:TD}(h:ZsX H id=some d):∃st,H[id]? =some (.var d st)∧(erH H)[id]? =some (.var (d.er (lk H)) st):=by
 unfold ZsX at h;split at h
 ·rename_i d' st hd;cases h;exact⟨st,hd,ZF hd⟩
 ·cases h
def ZCy(H:List TEnt)(id v:Nat):Option TD:=
 match H[id]? with
 |some (.row w _ _ _ d)=>if(w==v)=true then some d else none
 |_=>none
theorem ZAr{id v:Nat}{d:TD}(h:ZCy H id v=some d):∃w s st e,H[id]? =some (.row w s st e d)∧(w==v)=true:=by
 unfold ZCy at h;split at h
 ·rename_i w s st e d' hd;split at h
  ·rename_i hw;cases h;exact⟨w,s,st,e,hd,hw⟩
  ·cases h
 ·cases h
def ZHj(P:yg)(t:yb)(all:List TD)(H:List TEnt)(K:Kn O):TD→Option O
 |.ref id path=>(ZsX H id).bind λd=>gpT (lk H) path d λsub hs _=>if okT P t (sub.er (lk H))=true then K all sub H hs 1 else none
 |.rref id v path=>(ZCy H id v).bind λd=>gpT (lk H) path d λsub hs _=>if okT P t (sub.er (lk H))=true then K all sub H hs 1 else none
 |_=>none
theorem ZCz{t:yb}{x:yn}{xd:TD}(ho:o.op=.load t x)(hx:arT P ts 0 x=some xd)(h:ZHj P t all H K xd=some out):∃a d H' hs c,K a d H' hs c=some out∧Good P o ts all H a d H' hs c:=by
 have hv:=Zn (L:=lk H) hx;unfold ZHj at h;split at h
 ·rename_i id path;obtain⟨d,h1,h⟩:=yc.1 h;obtain⟨st,h2,h3⟩:=Zdz h1;obtain⟨sub,hs,put,C,k1,k2,k3,_⟩:=YK _ _ _ _ h;obtain⟨k4,k5⟩:=Za k1;refine⟨_,_,_,_,_,k5,rfl,rfl,.inr (.inl ⟨rfl,rfl,λrest=> ?_,C++[V5 path=Xl path],Zj.2 ⟨k2,(Y2 _).symm,ytt⟩,λrest=> ?_⟩)⟩
  ·unfold evN;rw[ho];dsimp only;rw[hv];rfl
  ·unfold evR;rw[ho];dsimp only;rw[hv];dsimp only[TD.er];rw[h3];dsimp only;rw[k3 rest];dsimp only;rw[if_pos k4]
 ·rename_i id v path;obtain⟨d,h1,h⟩:=yc.1 h;obtain⟨w,s,st,e,h2,h3⟩:=ZAr h1;obtain⟨sub,hs,put,C,k1,k2,k3,_⟩:=YK _ _ _ _ h;obtain⟨k4,k5⟩:=Za k1;refine⟨_,_,_,_,_,k5,rfl,rfl,.inr (.inl ⟨rfl,rfl,λrest=> ?_,C++[V5 path=Xl path],Zj.2 ⟨k2,(Y2 _).symm,ytt⟩,λrest=> ?_⟩)⟩
  ·unfold evN;rw[ho];dsimp only;rw[hv];rfl
  ·unfold evR;rw[ho];dsimp only;rw[hv];dsimp only[TD.er];rw[ZF h2];dsimp only[TEnt.er];rw[k3 rest];dsimp only;rw[if_pos (by rw[yi];exact⟨k4,h3⟩)]
 ·cases h
def ZCA(P:yg)(t:yb)(lo hi:Option Int)(all:List TD)(H:List TEnt)(K:Kn O):TD→Option O
 |.rv id v s l0 n=>match P.underlying t,H[id]? with
  |some (.slice e),some (.row w s' _ _ d)=>hi.bind λh=>(rowN (d.er (lk H)) s').bind λN=>if(P.cellsOf e=s&&(P.info? e).isSome&&w==v&&s'==s&&s' !=0)=true then
    if(decide (0≤lo.getD 0)&&decide (lo.getD 0≤h)&&decide (l0+h.toNat≤N))=true then K all (.rv id v s (l0+(lo.getD 0).toNat) (h.toNat - (lo.getD 0).toNat)) H [.raw] 1 else none else none
  |_,_=>none
 |_=>none
theorem ZAs{t:yb}{x:yn}{lo hi:Option yn}{l h':Option Int}{xd:TD}(ho:o.op=.slice t x lo hi none)(hx:arT P ts t x=some xd)(hl:ZeC P ts lo=some l)(hh:ZeC P ts hi=some h')(h:ZCA P t l h' all H K xd=some out):
 ∃a d H' hs c,K a d H' hs c=some out∧Good P o ts all H a d H' hs c:=by
 have hv:=Zn (L:=lk H) hx;have hl:=QL (L:=lk H) hl;have hh:=QL (L:=lk H) hh;unfold ZCA at h;split at h
 ·rename_i id v s l0 n;split at h
  ·rename_i e w s' st e' d hu hd;obtain⟨h2,q1,g1⟩:=yc.1 h;obtain⟨N,q2,g2⟩:=yc.1 g1;obtain⟨h3,g3⟩:=Za g2;obtain⟨h4,g4⟩:=Za g3;clear h g1 g2 g3;simp only[yi,decide_eq_true_eq] at h4;subst q1;refine⟨_,_,_,_,_,g4,rfl,rfl,.inr (.inl ⟨rfl,rfl,λrest=> ?_,[0≤l.getD 0,l.getD 0≤h2,l0+h2.toNat≤N],⟨h4.1.1,h4.1.2,h4.2,ytt⟩,λrest=> ?_⟩)⟩
   ·unfold evN;rw[ho];dsimp only;rw[hu,hv,hl,hh];rfl
   ·unfold evR;rw[ho];dsimp only;rw[hu,hv,hl,hh];dsimp only[TD.er];rw[yaa,yv];dsimp only;rw[ZF hd];dsimp only[TEnt.er];rw[q2];dsimp only;rw[if_pos h3]
  ·cases h
 ·cases h
def Znl{α β:Type}(o:Option α)(f:α→Option β)(g:Option β):Option β:=
 match o with
 |some a=>f a
 |none=>g
def Zk0(P:yg)(kt:yb)(k:Ty):Bool:=ZfZ P kt&&(k.flat&&ZAo P 20 kt k)
structure MapE where
 tid:yb
 k:Ty
 v:Ty
 l:List (k.den×v.den)
def ZsY(H:List TEnt)(id:Nat):Option MapE:=
 match H[id]? with
 |some (.map tid k v l)=>some ⟨tid,k,v,l⟩
 |_=>none
theorem ZaN{id:Nat}{m:MapE}(h:ZsY H id=some m):H[id]? =some (.map m.tid m.k m.v m.l)∧(erH H)[id]? =some (.map m.tid (kvl m.k.enc m.v.enc m.l)):=by
 unfold ZsY at h;split at h
 ·rename_i hd;cases h;exact⟨hd,ZF hd⟩
 ·cases h
def ZAt(x:TD)(k:Ty):Option k.den:=x.inner.bind λy=>TP.to Zfy y k
theorem ZiW{L:Lk}{x:TD}{k:Ty}{y:k.den}(h:ZAt x k=some y):x.er L=.p (k.enc y):=by
 obtain⟨p,h1,h2⟩:=yc.1 h;rw[Ys h1,TD.er,Zf7 p k y h2]
theorem Znm{kt:yb}{k:Ty}(h:Zk0 P kt k=true):∀x y:k.den,k.enc x=k.enc y↔x=y:=by
 simp only[Zk0,yi] at h;exact λx y=>⟨Znf k x y h.2.1,λe=>by rw[e]⟩
theorem QQ{kt:yb}{k:Ty}(h:Zk0 P kt k=true):∀x:k.den,fitP P 20 kt (k.enc x):=by
 simp only[Zk0,yi] at h;exact Zng 20 kt k h.2.2
theorem Zo3{kt:yb}{k:Ty}(h:Zk0 P kt k=true):ZfZ P kt=true:=by
 simp only[Zk0,yi] at h;exact h.1
def Zqb(P:yg)(t:yb):Option TP:=
 match Yr P t with
 |.p z=>ZxB P t z
 |_=>none
theorem Zgb{t:yb}{z:TP}(h:Zqb P t=some z):Yr P t=.p z.pe:=by
 unfold Zqb at h;split at h
 ·rename_i y hy;rw[hy,Zo1 h]
 ·cases h
def ZCB(ok:Bool)(d:TD)(b:Bool):TD:=if ok then .tup [d,.p (.v .bool b)] else d
def ZxM(P:yg)(t:yb)(all:List TD)(H:List TEnt)(ok:Bool)(K:Kn O)(kd:yb→Option TD):TD→Option O
 |.mp id=>match P.underlying t with
  |some (.map kt et)=>(ZsY H id).bind λm=>(kd kt).bind λx=>(ZAt x m.k).bind λkey=>(Zqb P et).bind λz=>
   if(Zk0 P kt m.k&&Zka P et)=true then
    Znl (@ZiR m.k.den m.v.den (Ty.deq m.k) m.l key) (λy=>K all (ZCB ok (.p (.v m.v y)) true) H [.el (m.v.enc y)] 1) (K all (ZCB ok (.p z) false) H [.raw] 1)
   else none
  |_=>none
 |_=>none
theorem Zwy{L:Lk}{ok:Bool}{d:TD}{b:Bool}:(ZCB ok d b).er L=if ok then .tup [d.er L,.p (.bool b)] else d.er L:=by
 cases ok <;> rfl
theorem ZxN{t:yb}{x ix:yn}{ok:Bool}{xd:TD}(ho:o.op=.lookup t x ix ok)(hx:arT P ts t x=some xd)(h:ZxM P t all H ok K (λkt=>arT P ts kt ix) xd=some out):
 ∃a d H' hs c,K a d H' hs c=some out∧Good P o ts all H a d H' hs c:=by
 have hv:=Zn (L:=lk H) hx;unfold ZxM at h;split at h
 ·rename_i id;split at h
  ·rename_i kt et hu;obtain⟨m,h1,h⟩:=yc.1 h;obtain⟨kd,h2,h⟩:=yc.1 h;obtain⟨key,h3,h⟩:=yc.1 h;obtain⟨z,h4,h⟩:=yc.1 h;obtain⟨h5,h⟩:=Za h;rw[yi] at h5;obtain⟨e1,e2⟩:=ZaN h1;have hk:=Zn (L:=lk H) h2;rw[ZiW h3] at hk
   have nN:∀hs,evN P o (TD.ers (lk H) ts) hs=none:=λhs=>by
    unfold evN;rw[ho]
   letI:=Ty.deq m.k
   unfold Znl at h;split at h
   ·rename_i y hy
    refine⟨_,_,_,_,_,h,rfl,rfl,.inr (.inl ⟨rfl,rfl,λ_=>nN _,[fitP P 20 kt (m.k.enc key),Qi P kt (kvl m.k.enc m.v.enc m.l),X6 (kvl m.k.enc m.v.enc m.l) (m.k.enc key) (some (m.v.enc y))],
     ⟨QQ h5.1 key,Zf5 (QQ h5.1) _,@ZCi _ _ (Ty.deq m.k) _ _ (Znm h5.1) _ _ _ hy,ytt⟩,λrest=> ?_⟩)⟩
    unfold evR;rw[ho];dsimp only;rw[hu,hv];dsimp only[TD.er];rw[hk,e2]
    try dsimp only
    rw[yaa,yv]
    try dsimp only
    rw[if_pos (Zo3 h5.1),Zwy];rfl
   ·rename_i hy
    refine⟨_,_,_,_,_,h,rfl,rfl,.inr (.inl ⟨rfl,rfl,λ_=>nN _,[fitP P 20 kt (m.k.enc key),Qi P kt (kvl m.k.enc m.v.enc m.l),X6 (kvl m.k.enc m.v.enc m.l) (m.k.enc key) none],
     ⟨QQ h5.1 key,Zf5 (QQ h5.1) _,@ZCj _ _ (Ty.deq m.k) _ _ (Znm h5.1) _ _ (by rw[hy];rfl),ytt⟩,λrest=> ?_⟩)⟩
    unfold evR;rw[ho];dsimp only;rw[hu,hv];dsimp only[TD.er];rw[hk,e2]
    try dsimp only
    rw[yaa,yv]
    try dsimp only
    rw[if_pos (by rw[Zo3 h5.1,h5.2];rfl),Zwy,Zgb h4];rfl
  ·cases h
 ·cases h
def ZxO(P:yg)(t:yb)(all:List TD)(H:List TEnt)(K:Kn O):TD→Option O
 |.mp id=>match P.underlying t with
  |some (.map _ _)=>(ZsY H id).bind λm=>K all (.p (.v (.int .i64) (m.l.length:Int))) H [] 1
  |_=>none
 |_=>none
theorem ZxP{t:yb}{x:yn}{c:Call}{xd:TD}(ho:o.op=.call c)(hc:c.callee=.builtin .len)(ha:c.args.toList=[x])(ht:c.argTypes.toList=[t])(hx:arT P ts t x=some xd)(h:ZxO P t all H K xd=some out):
 ∃a d H' hs c,K a d H' hs c=some out∧Good P o ts all H a d H' hs c:=by
 have hv:=Zn (L:=lk H) hx;unfold ZxO at h;split at h
 ·rename_i id;split at h
  ·rename_i kt et hu;obtain⟨m,h1,h⟩:=yc.1 h;obtain⟨e1,e2⟩:=ZaN h1;refine⟨_,_,_,_,_,h,rfl,rfl,.inr (.inl ⟨rfl,rfl,λrest=> ?_,[],trivial,λrest=> ?_⟩)⟩
   ·unfold evN;rw[ho];dsimp only;rw[hc];dsimp only;rw[ha,ht];dsimp only;rw[hu,hv]
   ·unfold evR;rw[ho];dsimp only;rw[hc];dsimp only;rw[ha,ht];dsimp only;rw[hu,hv];dsimp only[TD.er];rw[e2];simp[TP.pe,Ty.enc,kvl]
  ·cases h
 ·cases h
theorem ZaO{e:TEnt}(h:e.isLog=false):TD.ers (lk (H++[e])) all=TD.ers (lk H) all:=by rw[QN h]
theorem ZAu{T:Ty}{e:yb}:TD.ers (lk (H++[.log T e []])) all=TD.ers (lk H) all:=(ers_cont (λid t=>Znk id t) all).symm
theorem ZdA{e:TEnt}(h:TD.frees H.length all=true):TD.ers (lk (H++[e])) all=TD.ers (lk H) all:=(ers_free (λid t hn=>QP id t hn) all h).symm
theorem ZaP{T:Ty}{e:yb}{l:List T.den}:ZS (lk (H++[.log T e l])) H.length T none=l:=by
 unfold ZS lk;dsimp only;rw[List.getElem?_concat_length];show(Ty.castL T T l).getD []=l;unfold Ty.castL;split
 ·rfl
 ·rename_i h _;exact absurd rfl h
def ZCC(P:yg)(t:yb)(dst:Tmp)(all:List TD)(H:List TEnt)(K:Kn O):TD→Option O
 |.p (.sl (some false) T [])=>match P.underlying t with
  |some (.slice e)=>(P.info? e).bind λi=>if(zOk i&&i.size !=0&&decide (i.size=T.size))=true then K all (.own H.length none T none) (H++[.log T e []]) [.fresh dst] 2 else none
  |_=>none
 |_=>none
theorem ZAv{x:yn}{dst:Tmp}{xd:TD}(ho:o.op=.assign x)(hd:o.dst=some dst)(hx:arT P ts o.type x=some xd)(h:ZCC P o.type dst all H K xd=some out):
 ∃a d H' hs c,K a d H' hs c=some out∧Good P o ts all H a d H' hs c:=by
 have hv:=Zn (L:=lk H) hx;unfold ZCC at h;split at h
 ·rename_i T;split at h
  ·rename_i e hu;obtain⟨i,h1,h⟩:=yc.1 h;obtain⟨h2,h⟩:=Za h;simp only[yi,decide_eq_true_eq] at h2;refine⟨_,_,_,_,_,h,ZAu,rfl,or3 (⟨rfl,λrest=> ?_,λrest=> ?_,[],trivial,λrest=> ?_⟩)⟩
   ·unfold evN;rw[ho];rfl
   ·unfold evR;rw[ho]
   ·unfold evE;rw[ho];dsimp only;rw[yaa,yv];dsimp only;rw[if_pos hd,hu,hv,show(TD.p (TP.sl (some false) T [])).er (lk H)=Dv.p (.sl (some false) T.size []) from rfl]
    dsimp only;rw[h1];dsimp only;rw[if_pos (by simpa using h2.1),ZxL,Zx,TD.er,ZaP,h2.2];rfl
  ·cases h
 ·cases h
def ZsZ(P:yg)(t:yb)(all:List TD)(H:List TEnt)(K:Kn O):Option O:=
 match P.underlying t with
 |some (.map kt et)=>(ZgU P tyD kt).bind λk=>(ZgU P tyD et).bind λv=>K all (.mp H.length) (H++[.map t k v []]) [] 2
 |_=>none
theorem Zu6{t:yb}(ho:o.op=.makeMap t none)(h:ZsZ P t all H K=some out):∃a d H' hs c,K a d H' hs c=some out∧Good P o ts all H a d H' hs c:=by
 unfold ZsZ at h;split at h
 ·rename_i kt et hu;obtain⟨k,h1,h⟩:=yc.1 h;obtain⟨v,h2,h⟩:=yc.1 h;refine⟨_,_,_,_,_,h,ZaO rfl,rfl,or3 (⟨rfl,λrest=> ?_,λrest=> ?_,[],trivial,λrest=> ?_⟩)⟩
  ·unfold evN;rw[ho]
  ·unfold evR;rw[ho]
  ·unfold evE;rw[ho];dsimp only;rw[QO (QN rfl),Zx];rfl
 ·cases h
def ZiX(n:Int)(b:Nat):Bool:=decide (0≤n)&&ZAk n.toNat b
def Zl0(P:yg)(t:yb)(own row:Bool)(n n':Int)(all:List TD)(H:List TEnt)(K:Kn O):Option O:=
 match P.underlying t with
 |some (.slice e)=>(P.info? e).bind λi=>(ZgU P tyD e).bind λT=>
  if row then
   if(zOk i&&i.size !=0&&decide (i.size=T.size))=true then if(decide (n=0)&&ZiX n' i.bytes)=true then K all (.rv H.length 0 i.size 0 0) (H++[.row 0 i.size true e (.p (.v (.arr 0 T) []))]) [.arr] 2 else none else none
  else if own then
   if(zOk i&&i.size !=0&&decide (i.size=T.size))=true then if(decide (n=0)&&ZiX n' i.bytes)=true then K all (.own H.length (some true) T none) (H++[.log T e []]) [.own] 2 else none else none
  else(Zqb P e).bind λz=>(TP.to Zfy z T).bind λy=>
   if(zOk i&&decide (i.size=1)&&z.pe.size==1&& !z.pe.isAgg&&decide (T.size=1))=true then if(decide (n'=n)&&ZiX n i.bytes)=true then
    K all (.view H.length [] 1 0 n.toNat) (H++[.var (.p (.v (.arr n.toNat T) (yab n.toNat y))) true]) [.raw] 2 else none else none
 |_=>none
theorem Zq6{t:yb}{l c:yn}{n n':Num}{own row:Bool}(ho:o.op=.makeSlice t l c)(hl:(arT P ts 0 l).bind TD.num=some n)(hc:(arT P ts 0 c).bind TD.num=some n')(hk:n.k=.i64)(hk':n'.k=.i64)
 (h:Zl0 P t own row n.n n'.n all H K=some out):∃a d H' hs c,K a d H' hs c=some out∧Good P o ts all H a d H' hs c:=by
 obtain⟨ld,l1,l2⟩:=yc.1 hl;obtain⟨cd,c1,c2⟩:=yc.1 hc;have hv:=Zn (L:=lk H) l1;have hw:=Zn (L:=lk H) c1;rw[Vq l2,hk] at hv;rw[Vq c2,hk'] at hw;unfold Zl0 at h;have nN:∀hs,evN P o (TD.ers (lk H) ts) hs=none:=λhs=>by unfold evN;rw[ho]
 have nR:∀hs,evR P o (TD.ers (lk H) ts) (erH H) hs=none:=λhs=>by unfold evR;rw[ho]
 split at h
 ·rename_i e hu;obtain⟨i,h1,h⟩:=yc.1 h;obtain⟨T,h2,h⟩:=yc.1 h;split at h
  ·obtain⟨h3,h⟩:=Za h;obtain⟨h4,h⟩:=Za h;simp only[yi,decide_eq_true_eq] at h3;simp only[ZiX,yi,decide_eq_true_eq] at h4;obtain⟨g1,g2⟩:=VI h4.2.2;refine⟨_,_,_,_,_,h,ZaO rfl,rfl,or3 (⟨rfl,λrest=>nN _,λrest=>nR _,[n.n=0,0≤n'.n,n'.n.toNat*i.bytes≤Zo,n'.n.toNat≤maxLen],⟨h4.1,h4.2.1,g1,g2,ytt⟩,λrest=> ?_⟩)⟩;unfold evE;rw[ho];dsimp only;rw[hu,hv,hw];dsimp only;rw[h1,yaa,yv];dsimp only;rw[if_pos (by simpa using h3.1),QO (QN rfl),Zx];simp only[TEnt.er,TD.er,TP.pe,Zxz,h3.2];rfl
  split at h
  ·obtain⟨h3,h⟩:=Za h;obtain⟨h4,h⟩:=Za h;simp only[yi,decide_eq_true_eq] at h3;simp only[ZiX,yi,decide_eq_true_eq] at h4;obtain⟨g1,g2⟩:=VI h4.2.2;refine⟨_,_,_,_,_,h,ZAu,rfl,or3 (⟨rfl,λrest=>nN _,λrest=>nR _,[n.n=0,0≤n'.n,n'.n.toNat*i.bytes≤Zo,n'.n.toNat≤maxLen],⟨h4.1,h4.2.1,g1,g2,ytt⟩,λrest=> ?_⟩)⟩;unfold evE;rw[ho];dsimp only;rw[hu,hv,hw];dsimp only;rw[h1,yaa,yv];dsimp only;rw[if_pos (by simpa using h3.1),ZxL,Zx,TD.er,ZaP,h3.2];rfl
  ·obtain⟨z,z1,h⟩:=yc.1 h;obtain⟨y,z2,h⟩:=yc.1 h;obtain⟨h3,h⟩:=Za h;obtain⟨h4,h⟩:=Za h;simp only[yi,decide_eq_true_eq,beq_iff_eq] at h3;simp only[ZiX,yi,decide_eq_true_eq] at h4;obtain⟨g1,g2⟩:=VI h4.2.2;refine⟨_,_,_,_,_,h,ZaO rfl,rfl,or3 (⟨rfl,λrest=>nN _,λrest=>nR _,[n'.n=n.n,0≤n.n,n.n.toNat*i.bytes≤Zo,n.n.toNat≤maxLen],⟨h4.1,h4.2.1,g1,g2,ytt⟩,λrest=> ?_⟩)⟩;unfold evE;rw[ho];dsimp only;rw[hu,hv,hw];dsimp only;rw[h1,yaa,yv];dsimp only;rw[Zgb z1];dsimp only;rw[if_pos (by simp only[yi,decide_eq_true_eq];exact h3.1),QO (QN rfl),Zx,Zf7 z T y z2];simp only[TEnt.er,TD.er,TP.pe,Xl,List.map_nil,List.foldl_nil];congr 5;show _=[Ent.var (Dv.p (Pl.arr n.n.toNat T.size (List.map T.enc (yab n.n.toNat y)))) true];rw[List.map_replicate,h3.2]
 ·cases h
end
end Go.Ev
end
section
namespace Go.Ev
section
variable{P:yg}{o:Oper}{ts all:List TD}{H:List TEnt}{O:Type}{K:Kn O}{out:O}
theorem VJ{id:Nat}{e x:TEnt}(hx:H[id]? =some x)(h1:x.isLog=false)(h2:e.isLog=false):TD.ers (lk (H.set id e)) all=TD.ers (lk H) all:=by rw[XI hx h1 h2]
def Zki(P:yg)(t:yb)(all:List TD)(H:List TEnt)(K:Kn O)(kd vd:yb→Option TD):TD→Option O
 |.mp id=>match P.underlying t with
  |some (.map kt et)=>(ZsY H id).bind λm=>(kd kt).bind λx=>(ZAt x m.k).bind λkey=>((vd et).bind (TD.flat (lk H))).bind λz=>(TP.to ZiS z m.v).bind λy=>
   if Zk0 P kt m.k=true then K all .junk (H.set id (.map m.tid m.k m.v (@ZlT m.k.den m.v.den (Ty.deq m.k) m.l key y))) [.kvs (kvl m.k.enc m.v.enc (@ZlT m.k.den m.v.den (Ty.deq m.k) m.l key y))] 2 else none
  |_=>none
 |_=>none
theorem ZxQ{t:yb}{x k v:yn}{xd:TD}(ho:o.op=.mapUpdate t x k v)(hx:arT P ts t x=some xd)(h:Zki P t all H K (λkt=>arT P ts kt k) (λet=>arT P ts et v) xd=some out):
 ∃a d H' hs c,K a d H' hs c=some out∧Good P o ts all H a d H' hs c:=by
 have hv:=Zn (L:=lk H) hx;unfold Zki at h;split at h
 ·rename_i id;split at h
  ·rename_i kt et hu;obtain⟨m,h1,h⟩:=yc.1 h;obtain⟨kd,h2,h⟩:=yc.1 h;obtain⟨key,h3,h⟩:=yc.1 h;obtain⟨z,h4,h⟩:=yc.1 h;obtain⟨zd,h40,h41⟩:=yc.1 h4;obtain⟨y,h6,h⟩:=yc.1 h;obtain⟨h5,h⟩:=Za h;obtain⟨e1,e2⟩:=ZaN h1;have hk:=Zn (L:=lk H) h2;rw[ZiW h3] at hk;have hz:=Zn (L:=lk H) h40
   letI:=Ty.deq m.k
   refine⟨_,_,_,_,_,h,VJ e1 rfl rfl,rfl,or3 (⟨rfl,λrest=> ?_,λrest=> ?_,[fitP P 20 kt (m.k.enc key),Qi P kt (kvl m.k.enc m.v.enc m.l),VG (kvl m.k.enc m.v.enc m.l) (m.k.enc key) z.pe.soft (kvl m.k.enc m.v.enc (ZlT m.l key y))],
    ⟨QQ h5 key,Zf5 (QQ h5) _,by rw[ZcG z m.v y h6];exact ZlV (Znm h5) _ _ _,ytt⟩,λrest=> ?_⟩)⟩
   ·unfold evN;rw[ho]
   ·unfold evR;rw[ho]
   ·unfold evE;rw[ho];dsimp only;rw[hu,hv];dsimp only[TD.er];rw[hk,hz,Znc h41,e2]
    try dsimp only
    rw[yaa,yv]
    try dsimp only
    rw[if_pos (Zo3 h5),Yo (XI e1 rfl rfl)];rfl
  ·cases h
 ·cases h
theorem ZxR{t:yb}{x k v:yn}{xd:TD}(ho:o.op=.insert t x k v)(hx:arT P ts t x=some xd)(h:Zki P t all H K (λkt=>arT P ts kt k) (λet=>arT P ts et v) xd=some out):
 ∃a d H' hs c,K a d H' hs c=some out∧Good P o ts all H a d H' hs c:=by
 have hv:=Zn (L:=lk H) hx;unfold Zki at h;split at h
 ·rename_i id;split at h
  ·rename_i kt et hu;obtain⟨m,h1,h⟩:=yc.1 h;obtain⟨kd,h2,h⟩:=yc.1 h;obtain⟨key,h3,h⟩:=yc.1 h;obtain⟨z,h4,h⟩:=yc.1 h;obtain⟨zd,h40,h41⟩:=yc.1 h4;obtain⟨y,h6,h⟩:=yc.1 h;obtain⟨h5,h⟩:=Za h;obtain⟨e1,e2⟩:=ZaN h1;have hk:=Zn (L:=lk H) h2;rw[ZiW h3] at hk;have hz:=Zn (L:=lk H) h40
   letI:=Ty.deq m.k
   refine⟨_,_,_,_,_,h,VJ e1 rfl rfl,rfl,or3 (⟨rfl,λrest=> ?_,λrest=> ?_,[fitP P 20 kt (m.k.enc key),Qi P kt (kvl m.k.enc m.v.enc m.l),VG (kvl m.k.enc m.v.enc m.l) (m.k.enc key) z.pe.soft (kvl m.k.enc m.v.enc (ZlT m.l key y))],
    ⟨QQ h5 key,Zf5 (QQ h5) _,by rw[ZcG z m.v y h6];exact ZlV (Znm h5) _ _ _,ytt⟩,λrest=> ?_⟩)⟩
   ·unfold evN;rw[ho]
   ·unfold evR;rw[ho]
   ·unfold evE;rw[ho];dsimp only;rw[hu,hv];dsimp only[TD.er];rw[hk,hz,Znc h41,e2]
    try dsimp only
    rw[yaa,yv]
    try dsimp only
    rw[if_pos (Zo3 h5),Yo (XI e1 rfl rfl)];rfl
  ·cases h
 ·cases h
def ZxS(P:yg)(t:yb)(all:List TD)(H:List TEnt)(K:Kn O)(kd:Option TD):TD→Option O
 |.mp id=>match P.underlying t with
  |some (.map kt et)=>(ZsY H id).bind λm=>kd.bind λx=>(ZAt x m.k).bind λkey=>
   if Zk0 P kt m.k=true then K all (.tup []) (H.set id (.map m.tid m.k m.v (@ZAd m.k.den m.v.den (Ty.deq m.k) m.l key))) [.kvs (kvl m.k.enc m.v.enc (@ZAd m.k.den m.v.den (Ty.deq m.k) m.l key))] 2 else none
  |_=>none
 |_=>none
theorem ZxT{t u:yb}{x k:yn}{c:Call}{xd:TD}(ho:o.op=.call c)(hc:c.callee=.builtin .delete)(ha:c.args.toList=[x,k])(ht:c.argTypes.toList=[t,u])(hx:arT P ts t x=some xd)
 (h:ZxS P t all H K (arT P ts u k) xd=some out):∃a d H' hs c,K a d H' hs c=some out∧Good P o ts all H a d H' hs c:=by
 have hv:=Zn (L:=lk H) hx;unfold ZxS at h;split at h
 ·rename_i id;split at h
  ·rename_i kt et hu;obtain⟨m,h1,h⟩:=yc.1 h;obtain⟨kd,h2,h⟩:=yc.1 h;obtain⟨key,h3,h⟩:=yc.1 h;obtain⟨h5,h⟩:=Za h;obtain⟨e1,e2⟩:=ZaN h1;have hk:=Zn (L:=lk H) h2;rw[ZiW h3] at hk
   letI:=Ty.deq m.k
   refine⟨_,_,_,_,_,h,VJ e1 rfl rfl,rfl,or3 (⟨rfl,λrest=> ?_,λrest=> ?_,[fitP P 20 kt (m.k.enc key),Qi P kt (kvl m.k.enc m.v.enc m.l),ZbB (kvl m.k.enc m.v.enc m.l) (m.k.enc key) (kvl m.k.enc m.v.enc (ZAd m.l key))],
    ⟨QQ h5 key,Zf5 (QQ h5) _,ZsM (Znm h5) _ _,ytt⟩,λrest=> ?_⟩)⟩
   ·unfold evN;rw[ho];dsimp only;rw[hc]
   ·unfold evR;rw[ho];dsimp only;rw[hc]
   ·unfold evE;rw[ho];dsimp only;rw[hc];dsimp only;rw[ha,ht];dsimp only;rw[hu,hv];dsimp only[TD.er];rw[hk,e2]
    try dsimp only
    rw[yaa,yv]
    try dsimp only
    rw[if_pos (Zo3 h5),Yo (XI e1 rfl rfl)];rfl
  ·cases h
 ·cases h
def TP.nilT(x:TP)(T:Ty):Bool:=
 match x with
 |.sl (some false) t []=>decide (t.size=T.size)
 |_=>false
theorem ZxU{x:TP}{T:Ty}(h:x.nilT T=true):x.pe=.sl (some false) T.size []:=by
 unfold TP.nilT at h;split at h
 ·rename_i t;show Pl.sl (some false) t.size []=_;rw[of_decide_eq_true h]
 ·cases h
def ZbZ(T:Ty)(new:TD):List Nat→TD→Option TD
 |[],.p x=>if x.nilT T then some new else none
 |i::r,.p x=>x.parts.bind λl=>(l[i]?).bind λz=>(ZbZ T new r (.p z)).map λy=>.agg ((l.map .p).set i y)
 |i::r,.agg ds=>(ds[i]?).bind λz=>(ZbZ T new r z).map λy=>.agg (ds.set i y)
 |_,_=>none
theorem ZaQ{L:Lk}{T:Ty}{new:TD}:∀(path:List Nat)(d d':TD),ZbZ T new path d=some d'→Yy (d.er L) path T.size (new.er L)=some (d'.er L)
 |[],d,d',h=>by
  cases d with
  |p x=>
   simp only[ZbZ] at h;split at h
   ·rename_i hn;cases h;rw[TD.er,ZxU hn];simp[Yy]
   ·cases h
  |_=>cases h
 |i::r,d,d',h=>by
  cases d with
  |p x=>
   simp only[ZbZ] at h;obtain⟨l,h1,h⟩:=yc.1 h;obtain⟨z,h2,h⟩:=yc.1 h;obtain⟨y,h3,rfl⟩:=Zc h;have:=ZaQ (L:=L) r (.p z) y h3;rw[TD.er,ZsO h1];unfold Yy;rw[show(TP.pes l)[i]? =some z.pe by rw[XS,yaf,h2];rfl];dsimp only;rw[TD.er] at this
   rw[this,yz,TD.er,Zv,ybb, ←Zv,ZHd]
  |agg ds=>
   simp only[ZbZ] at h;obtain⟨z,h2,h⟩:=yc.1 h;obtain⟨y,h3,rfl⟩:=Zc h;have:=ZaQ (L:=L) r z y h3;rw[TD.er];unfold Yy;rw[Vp h2];dsimp only
   rw[this,yz,TD.er,Zv,Zv,ybb]
  |_=>cases h
def Znn(d:TD)(n:Nat):List (List Nat×Ty×yb)→Option (TD×List (Ty×yb))
 |[]=>some (d,[])
 |q::r=>(ZbZ q.2.1 (.own n none q.2.1 none) q.1 d).bind λd'=>(Znn d' (n+1) r).map λz=>(z.1,(q.2.1,q.2.2)::z.2)
def ghH(l:List (List Nat×Ty×yb)):List Hint:=l.map λq=>.ghost q.1 q.2.1.size q.2.2
def ZAw(l:List (Ty×yb)):List TEnt:=l.map λq=>.log q.1 q.2 []
def ZHk(L:Lk)(n:Nat):Prop:=∀id t,n≤id→ZS L id t none=[]
theorem Zl1{L:Lk}:∀(l:List (List Nat×Ty×yb))(d:TD)(n:Nat)(z:TD×List (Ty×yb)),ZHk L n→Znn d n l=some z→∀rest,
 Ye (d.er L) n (ghH l++.raw::rest)=(z.1.er L,z.2.map (λq=>Ent.log q.1.size q.2 []),.raw::rest)
 |[],d,n,z,hN,h,rest=>by cases h;rfl
 |q::r,d,n,z,hN,h,rest=>by
  simp only[Znn] at h;obtain⟨d',h1,h⟩:=yc.1 h;obtain⟨w,h2,rfl⟩:=Zc h;have e:=ZaQ (L:=L) q.1 d d' h1;rw[TD.er,hN n q.2.1 (ym _)] at e;have ih:=Zl1 r d' (n+1) w (λid t h=>hN id t (by omega)) h2 rest;show Ye (d.er L) n (.ghost q.1 q.2.1.size q.2.2::(ghH r++.raw::rest))=_;unfold Ye;rw[show Yy (d.er L) q.1 q.2.1.size (Dv.own n none q.2.1.size [])=some (d'.er L) from e]
  dsimp only;rw[ih];rfl
theorem ZHl(H:List TEnt):ZHk (lk H) H.length:=λid t h=>by
 unfold ZS lk;rw[yan h];rfl
theorem Zo4:∀(l:List (Ty×yb))(H:List TEnt),(∀id t,ZS (lk H) id t none=ZS (lk (H++ZAw l)) id t none)∧erH (H++ZAw l)=erH H++l.map (λq=>Ent.log q.1.size q.2 [])
 |[],H=>by simp[ZAw]
 |q::l,H=>by
  have e:H++ZAw (q::l)=(H++[.log q.1 q.2 []])++ZAw l:=by simp[ZAw]
  obtain⟨h1,h2⟩:=Zo4 l (H++[.log q.1 q.2 []]);rw[e];refine⟨λid t=>(Znk id t).trans (h1 id t), ?_⟩;rw[h2,ZxL];simp
def newVar(hi:HI)(dst:Option Tmp)(d:TD)(all:List TD)(H:List TEnt)(K:Kn O):Option O:=
 match dst with
 |some t=>match hi.ghost.lookup t with
  |some l=>(Znn d (H.length+1) l).bind λz=>K all (.ref H.length []) (H++[.var z.1 true]++ZAw z.2) (ghH l++[.raw]) 2
  |none=>K all (.ref H.length []) (H++[.var d true]) [.raw] 2
 |none=>none
theorem Zqc{hi:HI}{dst:Option Tmp}{d:TD}(h:newVar hi dst d all H K=some out):
 ∃H' hs gd gl,K all (.ref H.length []) H' hs 2=some out∧TD.ers (lk H') all=TD.ers (lk H) all∧erH H'=erH H++Ent.var gd true::gl∧∀rest,Ye (d.er (lk H)) ((erH H).length+1) (hs++rest)=(gd,gl,.raw::rest):=by
 unfold newVar at h;split at h
 ·rename_i t;split at h
  ·rename_i l hl;obtain⟨z,h1,h⟩:=yc.1 h;obtain⟨c1,c2⟩:=Zo4 z.2 (H++[.var z.1 true]);have hL:lk (H++[.var z.1 true])=lk H:=QN rfl;refine⟨_,_,z.1.er (lk H),z.2.map (λq=>Ent.log q.1.size q.2 []),h, ?_, ?_,λrest=> ?_⟩
   ·rw[←ers_cont c1 all,hL]
   ·rw[c2,QO hL];simp[TEnt.er]
   ·rw[Zx,yak];exact Zl1 l d _ z (λid t hh=>ZHl H id t (by omega)) h1 rest
  ·refine⟨_,_,d.er (lk H),[],h,ZaO rfl, ?_,λrest=> ?_⟩
   ·rw[QO (QN rfl)];rfl
   ·rfl
 ·cases h
def ZCD(P:yg)(hi:HI)(dst:Option Tmp)(t:yb)(all:List TD)(H:List TEnt)(K:Kn O):Option O:=
 (P.info? t).bind λi=>(Zqb P t).bind λz=>if(zOk i&&okT P t (Yr P t)&&(Yr P t).solid)=true then newVar hi dst (.p z) all H K else none
theorem ZAx{hi:HI}{t:yb}(ho:o.op=.alloc t)(h:ZCD P hi o.dst t all H K=some out):∃a d H' hs c,K a d H' hs c=some out∧Good P o ts all H a d H' hs c:=by
 unfold ZCD at h;obtain⟨i,h1,h⟩:=yc.1 h;obtain⟨z,h2,h⟩:=yc.1 h;obtain⟨h3,h⟩:=Za h;obtain⟨H',hs,gd,gl,k1,k2,k3,k4⟩:=Zqc h;refine⟨_,_,_,_,_,k1,k2,rfl,or3 (⟨rfl,λrest=> ?_,λrest=> ?_,[],trivial,λrest=> ?_⟩)⟩
 ·unfold evN;rw[ho]
 ·unfold evR;rw[ho]
 ·have k5:=k4 rest;rw[TD.er, ←Zgb h2] at k5;unfold evE;rw[ho];dsimp only;rw[h1];dsimp only;rw[k5];dsimp only;rw[if_pos h3,k3,Zx];rfl
def ZJR(L:Lk)(d:TD):TD:=
 match d.plain L with
 |some y=>.p y
 |none=>d
theorem ZJS{L:Lk}(d:TD):(ZJR L d).er L=ZB1 (d.er L):=by
 unfold ZJR ZB1
 cases h:d.plain L with
 |none=>rw[ZsW h]
 |some y=>rw[Zwv h];rfl
def ZLQ(hi:HI)(dst:Option Tmp)(all:List TD)(H:List TEnt)(K:Kn O)(d:TD):Option O:=
 if((ZJR (lk H) d).er (lk H)).solid=true then newVar hi dst (ZJR (lk H) d) all H K else none
theorem ZFD{hi:HI}{t:yb}{x:yn}{xd:TD}(ho:o.op=.box t x)(hx:arT P ts t x=some xd)(h:ZLQ hi o.dst all H K xd=some out):∃a d H' hs c,K a d H' hs c=some out∧Good P o ts all H a d H' hs c:=by
 have hv:=Zn (L:=lk H) hx;unfold ZLQ at h;obtain⟨h3,h⟩:=Za h;obtain⟨H',hs,gd,gl,k1,k2,k3,k4⟩:=Zqc h;refine⟨_,_,_,_,_,k1,k2,rfl,or3 (⟨rfl,λrest=> ?_,λrest=> ?_,[],trivial,λrest=> ?_⟩)⟩
 ·unfold evN;rw[ho]
 ·unfold evR;rw[ho]
 ·have k5:=k4 rest;rw[ZJS] at k5 h3;unfold evE;rw[ho];dsimp only;rw[hv,k5];dsimp only;rw[if_pos h3,k3,Zx];rfl
def TD.meltP(L:Lk)(v:TD):TD:=
 match v.flat L with
 |some x=>.p x
 |none=>v
theorem Zs0{L:Lk}(v:TD):(v.meltP L).er L=(v.er L).meltP:=by
 unfold TD.meltP Dv.meltP;rw[Znb];cases v.flat L <;> rfl
def ZxV(L:Lk)(path:List Stp)(d v:TD):Option TD:=
 match d,path with
 |.p _,_=>some (v.meltP L)
 |_,[]=>some (v.meltP L)
 |_,_=>some v
theorem Zo5{L:Lk}{path:List Stp}{d v new:TD}(h:ZxV L path d v=some new):ZbW (path.map Stp.i) (d.er L) (v.er L)=some (new.er L):=by
 unfold ZxV at h;split at h
 ·cases h;unfold ZbW;rw[TD.er];dsimp only;rw[Zs0]
 ·cases h;unfold ZbW;split
  ·rw[Zs0]
  ·simp only[List.map_nil];rw[Zs0]
 ·rename_i h1 h2;cases h;unfold ZbW;split
  ·rename_i z hz;cases d <;> first|cases hz|skip
   rename_i q;exact absurd rfl (h1 q)
  ·cases path with
   |nil=>exact absurd rfl h2
   |cons _ _=>rfl
def ZeS(P:yg)(t:yb)(new sub:Dv):Bool:=new.solid&&new.size==sub.size&&P.cellsOf t==new.size&&(P.info? t).isSome&&new.isAgg==sub.isAgg
def ZM8(hi:HI):yn→List (List Nat×Ty×yb)
 |.tmp t=>(hi.gst.lookup t).getD []
 |_=>[]
def ZCE(P:yg)(gs:List (List Nat×Ty×yb))(t:yb)(all:List TD)(H:List TEnt)(K:Kn O)(v:TD):TD→Option O
 |.ref id path=>match H[id]? with
  |some (.var d true)=>gpT (lk H) path d λsub hs put=>(ZxV (lk H) path d v).bind λnew=>(put new).bind λd'=>(Znn d' H.length gs).bind λz=>
   if ZeS P t (new.er (lk H)) (sub.er (lk H))=true then K all .junk (H.set id (.var z.1 true)++ZAw z.2) (hs++(ghH gs++[.raw])) 2 else none
  |_=>none
 |.rref id v' path=>match H[id]? with
  |some (.row w s true e d)=>gpT (lk H) path d λsub hs put=>(ZxV (lk H) path d v).bind λnew=>(put new).bind λd'=>
   if(ZeS P t (new.er (lk H)) (sub.er (lk H))&&w==v'&&rowN (d'.er (lk H)) s==rowN (d.er (lk H)) s)=true then K all .junk (H.set id (.row v' s true e d')) hs 2 else none
  |_=>none
 |_=>none
theorem ZAy{gs:List (List Nat×Ty×yb)}{t:yb}{x y:yn}{xd yd:TD}(ho:o.op=.store t x y)(hx:arT P ts 0 x=some xd)(hy:arT P ts t y=some yd)(h:ZCE P gs t all H K yd xd=some out):
 ∃a d H' hs c,K a d H' hs c=some out∧Good P o ts all H a d H' hs c:=by
 have hv:=Zn (L:=lk H) hx;have hw:=Zn (L:=lk H) hy;unfold ZCE at h;split at h
 ·rename_i id path;split at h
  ·rename_i d hd;obtain⟨sub,hs,put,C,k1,k2,k3,k4⟩:=YK _ _ _ _ h;obtain⟨new,h1,h2⟩:=yc.1 k1;obtain⟨d',h3,h2⟩:=yc.1 h2;obtain⟨z,h5,h2⟩:=yc.1 h2;obtain⟨h4,h2⟩:=Za h2;unfold ZeS at h4;obtain⟨g1,g2⟩:=Zo4 z.2 (H.set id (.var z.1 true));have hL:lk (H.set id (.var z.1 true))=lk H:=XI hd rfl rfl;refine⟨_,_,_,_,_,h2, ?_,rfl,or3 (⟨rfl,λrest=> ?_,λrest=> ?_,C++[V5 path=Xl path],Zj.2 ⟨k2,(Y2 _).symm,ytt⟩,λrest=> ?_⟩)⟩
   ·rw[←ers_cont g1 all,hL]
   ·unfold evN;rw[ho]
   ·unfold evR;rw[ho]
   ·have k5:=Zl1 gs d' H.length z (ZHl H) h5 rest;unfold evE;rw[ho];dsimp only;rw[hv,hw];dsimp only[TD.er];rw[ZF hd];dsimp only[TEnt.er];rw[yak,k3 (ghH gs++[Hint.raw]++rest)];dsimp only;rw[Zo5 h1];dsimp only;rw[k4 new d' h3 _];dsimp only;rw[if_pos h4,Zx,yak];rw[show([Hint.raw]++rest)=.raw::rest from rfl,k5]
    dsimp only;rw[g2,Yo hL];rfl
  ·cases h
 ·rename_i id v' path;split at h
  ·rename_i w s e d hd;obtain⟨sub,hs,put,C,k1,k2,k3,k4⟩:=YK _ _ _ _ h;obtain⟨new,h1,h2⟩:=yc.1 k1;obtain⟨d',h3,h2⟩:=yc.1 h2;obtain⟨h4,h2⟩:=Za h2;rw[yi,yi] at h4;obtain⟨⟨h4,h5⟩,h6⟩:=h4;have h4':=h4;unfold ZeS at h4';have hL:lk (H.set id (.row v' s true e d'))=lk H:=XI hd rfl rfl;refine⟨_,_,_,_,_,h2,VJ hd rfl rfl,rfl,or3 (⟨rfl,λrest=> ?_,λrest=> ?_,C++[V5 path=Xl path],Zj.2 ⟨k2,(Y2 _).symm,ytt⟩,λrest=> ?_⟩)⟩
   ·unfold evN;rw[ho]
   ·unfold evR;rw[ho]
   ·unfold evE;rw[ho];dsimp only;rw[hv,hw];dsimp only[TD.er];rw[ZF hd];dsimp only[TEnt.er];rw[k3 rest];dsimp only;rw[Zo5 h1];dsimp only;rw[k4 new d' h3 _];dsimp only;rw[if_pos (by simp only[yi] at h4' ⊢;exact⟨⟨h4',h5⟩,h6⟩),Yo hL];rfl
  ·cases h
 ·cases h
def ZxW(P:yg)(ts:List TD)(t:yb)(len:Nat)(parts:List (Nat×yn))(all:List TD)(H:List TEnt)(K:Kn O):Option O:=
 ZCv (lk H) P ts t len parts λT l e=>K all (.rv H.length 0 T.size 0 len) (H++[.row 0 T.size true e (.p (.v (.arr len T) l))]) [.arr] 2
theorem ZxX{t:yb}{len:Nat}{parts:Array (Nat×yn)}(ho:o.op=.buildSlice t len parts)(h:ZxW P ts t len parts.toList all H K=some out):
 ∃a d H' hs c,K a d H' hs c=some out∧Good P o ts all H a d H' hs c:=by
 unfold ZxW at h;obtain⟨e,T,l,i,xs,h1,hu,hi,hl,hz,hs,hx⟩:=Zf8 h;refine⟨_,_,_,_,_,h1,ZaO rfl,rfl,or3 (⟨rfl,λrest=> ?_,λrest=> ?_,[],trivial,λrest=> ?_⟩)⟩
 ·unfold evN;rw[ho];rfl
 ·unfold evR;rw[ho]
 ·unfold evE;rw[ho];dsimp only;rw[yaa,yv];dsimp only;rw[hu];dsimp only;rw[hi,hl];dsimp only;rw[if_pos (by simpa using hz),hx,QO (QN rfl),Zx,hs];rfl
def ZHm(P:yg)(ts:List TD)(e:yb):List (Nat×yn)→Option (List TD)
 |[]=>some []
 |q::r=>match arT P ts e q.2,ZHm P ts e r with
  |some d,some ds=>some (d::ds)
  |_,_=>none
theorem ZEe{L:Lk}{e:yb}:∀{parts:List (Nat×yn)}{ds:List TD},ZHm P ts e parts=some ds→(parts.map λq=>Zp P (TD.ers L ts) e q.2)=TD.ers L ds
 |[],ds,h=>by cases h;rfl
 |q::r,ds,h=>by
  simp only[ZHm] at h;split at h
  ·rename_i d l h1 h2;cases h;rw[yad,Zn h1,ZEe h2,TD.ers]
  ·cases h
def ZM9(P:yg)(ts:List TD)(t:yb)(L:Lk)(parts:List (Nat×yn)):Bool:=
 match P.underlying t with
 |some (.slice e)=>match ZHm P ts e parts with
  |some ds=>ds.all λd=>(d.flat L).isSome
  |none=>true
 |_=>true
def Zs1(P:yg)(ts:List TD)(t:yb)(len:Nat)(parts:List (Nat×yn))(all:List TD)(H:List TEnt)(K:Kn O):Option O:=
 match P.underlying t with
 |some (.slice e)=>(P.info? e).bind λi=>(ZHm P ts e parts).bind λds=>
  if((parts.map (·.1)==yq len)&&((TD.ers (lk H) ds).all λd=>d.solid&&d.size==P.cellsOf e)&&(zOk i&&i.size !=0&&decide (len*i.size≤16777216)))=true then
   K all (.rv H.length 0 i.size 0 len) (H++[.row 0 i.size true e (.arr len i.size ds)]) [.raw] 2 else none
 |_=>none
theorem Zu7{t:yb}{len:Nat}{parts:Array (Nat×yn)}(ho:o.op=.buildSlice t len parts)(h:Zs1 P ts t len parts.toList all H K=some out):
 ∃a d H' hs c,K a d H' hs c=some out∧Good P o ts all H a d H' hs c:=by
 unfold Zs1 at h;split at h
 ·rename_i e hu;obtain⟨i,hi,h⟩:=yc.1 h;obtain⟨ds,hd,h⟩:=yc.1 h;obtain⟨hk,h1⟩:=Za h;rw[yi,yi] at hk;refine⟨_,_,_,_,_,h1,ZaO rfl,rfl,or3 (⟨rfl,λrest=> ?_,λrest=> ?_,[],trivial,λrest=> ?_⟩)⟩
  ·unfold evN;rw[ho];rfl
  ·unfold evR;rw[ho]
  ·unfold evE;rw[ho];dsimp only;rw[yaa,yv];dsimp only;rw[hu];dsimp only
   have hl:Zdb P (TD.ers (lk H) ts) e (P.cellsOf e) len parts.toList=some (TD.ers (lk H) ds):=by
    unfold Zdb;rw[if_pos hk.1.1,ZEe hd,if_pos hk.1.2]
   rw[hi,hl];dsimp only;rw[if_pos (by simpa using hk.2),QO (QN rfl),Zx];rfl
 ·cases h
def ZxY(P:yg)(ts:List TD)(t:yb)(len:Nat)(parts:List (Nat×yn))(all:List TD)(H:List TEnt)(K:Kn O):Option O:=
 ZCv (lk H) P ts t len parts λT l e=>if(TD.frees H.length all&&H.all (TEnt.free H.length))=true then K all (.own H.length (some true) T none) (H++[.log T e l]) [.own] 2 else none
theorem ZxZ{t:yb}{len:Nat}{parts:Array (Nat×yn)}(ho:o.op=.buildSlice t len parts)(h:ZxY P ts t len parts.toList all H K=some out):
 ∃a d H' hs c,K a d H' hs c=some out∧Good P o ts all H a d H' hs c:=by
 unfold ZxY at h;obtain⟨e,T,l,i,xs,h1,hu,hi,hl,hz,hs,hx⟩:=Zf8 h;obtain⟨h2,h1⟩:=Za h1;rw[yi] at h2;refine⟨_,_,_,_,_,h1,ZdA h2.1,rfl,or3 (⟨rfl,λrest=> ?_,λrest=> ?_,[],trivial,λrest=> ?_⟩)⟩
 ·unfold evN;rw[ho];rfl
 ·unfold evR;rw[ho]
 ·unfold evE;rw[ho];dsimp only;rw[yaa,yv];dsimp only;rw[hu];dsimp only;rw[hi,hl];dsimp only;rw[if_pos (by simpa using hz),hx,ZEd h2.2,Zx,TD.er,ZaP,hs]
def ZAz(P:yg)(T:Ty)(u:yb)(H:List TEnt)(K:List T.den→List Hint→Option O)(x:TD):Option O:=
 match x with
 |.view id path s lo n=>match P.underlying u with
  |some (.slice _)=>(ZsX H id).bind λd=>gpT (lk H) path d λsub hs _=>sub.inner.bind λy=>y.arow.bind λr=>(Ty.castL r.t T r.l).bind λl=>
   if(decide (s=T.size))=true then if(decide (lo+n≤r.n))=true then K ((l.drop lo).take n) hs else none else none
  |_=>none
 |.rv id v s lo n=>match P.underlying u,H[id]? with
  |some (.slice _),some (.row w s' _ _ d)=>d.inner.bind λy=>y.arow.bind λr=>(Ty.castL r.t T r.l).bind λl=>
   if(decide (s=T.size)&&decide (s'=T.size)&&w==v)=true then if(decide (lo+n≤r.n))=true then K ((l.drop lo).take n) [] else none else none
  |_,_=>none
 |.rw id=>match P.underlying u,H[id]? with
  |some (.slice _),some (.rowT T' v st e l')=>(Ty.castL T' T l').bind λl=>K l []
  |_,_=>none
 |x=>(ZxF (lk H) P T u x).bind λl=>K l []
theorem Zl2{T:Ty}{u:yb}{x:TD}{K:List T.den→List Hint→Option O}(h:ZAz P T u H K x=some out):
 ∃l hs C,K l hs=some out∧AllP C∧∀rest,ZoL P T.size u (erH H) (hs++rest) (x.er (lk H))=some (C,l.map T.enc,rest):=by
 unfold ZAz at h;split at h
 ·rename_i id path s lo n;split at h
  ·rename_i e hu;obtain⟨d,h1,h⟩:=yc.1 h;obtain⟨st,h2,h3⟩:=Zdz h1;obtain⟨sub,hs,put,C,k1,k2,k3,_⟩:=YK _ _ _ _ h;obtain⟨y,p1,k1⟩:=yc.1 k1;obtain⟨r,p2,k1⟩:=yc.1 k1;obtain⟨l,p3,k1⟩:=yc.1 k1;obtain⟨p4,k1⟩:=Za k1;obtain⟨p5,k1⟩:=Za k1;have p4:=of_decide_eq_true p4;have p5:=of_decide_eq_true p5
   have esub:sub.er (lk H)=.p (.arr r.n T.size (l.map T.enc)):=by
    rw[Ys p1,TD.er,Wj p2];obtain⟨e,p3⟩:=Zy p3;obtain⟨n0,t0,l0⟩:=r;dsimp only at e p3 ⊢;subst e;subst p3;rfl
   refine⟨_,_,C++[V5 path=Xl path,lo+n≤r.n],k1,Zj.2 ⟨k2,(Y2 _).symm,p5,ytt⟩,λrest=> ?_⟩;unfold ZoL;rw[TD.er];dsimp only;rw[hu,h3];dsimp only;rw[k3 rest,esub];dsimp only;rw[if_pos (by simp[p4]),yby,List.map_drop]
  ·cases h
 ·rename_i id v s lo n;split at h
  ·rename_i e w s' st e' d hu hd;obtain⟨y,p1,k1⟩:=yc.1 h;obtain⟨r,p2,k1⟩:=yc.1 k1;obtain⟨l,p3,k1⟩:=yc.1 k1;obtain⟨p4,k1⟩:=Za k1;obtain⟨p5,k1⟩:=Za k1;simp only[yi,decide_eq_true_eq] at p4;have p5:=of_decide_eq_true p5
   have esub:d.er (lk H)=.p (.arr r.n T.size (l.map T.enc)):=by
    rw[Ys p1,TD.er,Wj p2];obtain⟨e,p3⟩:=Zy p3;obtain⟨n0,t0,l0⟩:=r;dsimp only at e p3 ⊢;subst e;subst p3;rfl
   refine⟨_,_,[lo+n≤r.n],k1,⟨p5,ytt⟩,λrest=> ?_⟩;unfold ZoL;rw[TD.er];dsimp only;rw[hu,ZF hd,TEnt.er,esub];dsimp only;rw[if_pos (by simp[p4]),yby,List.map_drop];rfl
  ·cases h
 ·rename_i id;split at h
  ·rename_i e T' v st e' l' hu hd;obtain⟨l,p3,k1⟩:=yc.1 h;obtain⟨eT,p3⟩:=Zy p3;subst eT;subst p3;refine⟨l,[],[0+l.length≤l.length],k1,⟨by omega,ytt⟩,λrest=> ?_⟩;unfold ZoL;rw[(Qq hd).1];dsimp only;rw[hu,ZF hd,TEnt.er];dsimp only;rw[if_pos (by simp),List.drop_zero, ←yx (f:=T'.enc),yay];simp
  ·cases h
 ·rename_i hx hx2 hx3;obtain⟨l,h1,h⟩:=yc.1 h;refine⟨l,[],[],h,trivial,λrest=> ?_⟩;rw[yv];unfold ZoL;split
  ·rename_i e;cases x <;> first|cases e|skip
   exact absurd rfl (hx _ _ _ _ _)
  ·rename_i e;cases x <;> first|cases e|skip
   ·exact absurd rfl (hx2 _ _ _ _ _)
   ·exact absurd rfl (hx3 _)
  ·rw[ZgW h1];rfl
structure LogE where
 t:Ty
 e:yb
 l:List t.den
def ZHn(H:List TEnt)(id:Nat):Option LogE:=
 match H[id]? with
 |some (.log t e l)=>some ⟨t,e,l⟩
 |_=>none
theorem ZCF{id:Nat}{m:LogE}(h:ZHn H id=some m):H[id]? =some (.log m.t m.e m.l):=by
 unfold ZHn at h;split at h
 ·rename_i hd;cases h;exact hd
 ·cases h
def apB(n m b:Nat):Bool:=decide ((n+m)*b≤Zo)&&decide (n+m≤maxLen)
def Zx0(P:yg)(own row:Bool)(t u:yb)(all:List TD)(H:List TEnt)(K:Kn O)(y:TD):TD→Option O
 |.own id nn T none=>match P.underlying t with
  |some (.slice e)=>(P.info? e).bind λi=>(ZHn H id).bind λm=>(Ty.castL m.t T m.l).bind λzs=>ZAz P T u H (λys hs=>
   if(zOk i&&decide (i.size=T.size)&&decide (m.e=e)&&decide (T.size≠0))=true then if apB zs.length ys.length i.bytes=true then
    K (TD.stales (lk H) id all) (.own id none T none) ((H.map (TEnt.stale (lk H) id)).set id (.log T e (zs++ys))) hs 2 else none else none) y
  |_=>none
 |.rv id v s lo n=>match P.underlying t with
  |some (.slice e)=>(P.info? e).bind λi=>(ZgU P tyD e).bind λT=>ZAz P T u H (λys hs=>if ys.isEmpty=true then
    if(zOk i&&decide (P.cellsOf e=T.size))=true then K all (.rv id v s lo n) H (.bare::hs) 2 else none
   else match H[id]? with
    |some (.row w s' true e' d)=>d.inner.bind λy0=>y0.arow.bind λr=>(Ty.castL r.t T r.l).bind λxs=>
     if(zOk i&&decide (i.size=T.size)&&decide (s'=T.size)&&decide (e'=e)&&decide (T.size≠0)&&w==v&&decide (lo=0)&&decide (s=T.size))=true then if(decide (n≤r.n)&&apB n ys.length i.bytes)=true then
      K all (.rv id (v+1) s 0 (n+ys.length)) (H.set id (.row (v+1) s true e (.p (.v (.arr (n+ys.length) T) (xs.take n++ys))))) (.raw::hs) 2 else none else none
    |_=>none) y
  |_=>none
 |.p (.sl (some false) _ [])=>if row then match P.underlying t with
  |some (.slice e)=>(P.info? e).bind λi=>(ZgU P tyD e).bind λT=>(ZxF (lk H) P T u y).bind λys=>
   if(zOk i&&i.size !=0&&decide (i.size=T.size)&&decide (P.cellsOf e=T.size))=true then if ZAk ys.length i.bytes=true then
    K all (.rv H.length 0 i.size 0 ys.length) (H++[.row 0 i.size true e (.p (.v (.arr ys.length T) ys))]) [.arr] 2 else none else none
  |_=>none else if own then match P.underlying t with
  |some (.slice e)=>(P.info? e).bind λi=>(ZgU P tyD e).bind λT=>(ZxF (lk H) P T u y).bind λys=>
   if(zOk i&&i.size !=0&&decide (i.size=T.size)&&decide (P.cellsOf e=T.size)&&TD.frees H.length all&&H.all (TEnt.free H.length))=true then if ZAk ys.length i.bytes=true then
    K all (.own H.length none T none) (H++[.log T e ys]) [.own] 2 else none else none
  |_=>none else none
 |_=>none
theorem ZHo{id:Nat}{T:Ty}{e:yb}{l:List T.den}(H:List TEnt)(h:id < H.length):ZS (lk (H.set id (.log T e l))) id T none=l:=by
 unfold ZS lk;dsimp only;rw[ycl h];show(Ty.castL T T l).getD []=l;unfold Ty.castL;split
 ·rfl
 ·rename_i h _;exact absurd rfl h
theorem ZaR{L:Lk}{n:Nat}:∀(l:List TD),(TD.stales L n l).length=l.length
 |[]=>rfl
 |_::r=>by rw[TD.stales,yai,yai,ZaR r]
def ZCG(H:List TEnt):TD→TD
 |.own id nn T (some zs)=>match H[id]? with
  |some (.log t e l)=>match Ty.castL t T l with
   |some l'=>if@decide (l'=zs) (@instDecidableEqList T.den (Ty.deq T) l' zs)=true then .own id nn T none else .own id nn T (some zs)
   |none=>.own id nn T (some zs)
  |_=>.own id nn T (some zs)
 |d=>d
theorem ZFE(d:TD):(ZCG H d).er (lk H)=d.er (lk H):=by
 unfold ZCG;split
 ·rename_i id nn T zs;split
  ·rename_i t e l hd;split
   ·rename_i l' hc;split
    ·rename_i he;have he:=@of_decide_eq_true _ (@instDecidableEqList T.den (Ty.deq T) l' zs) he;rw[TD.er,TD.er]
     have:ZS (lk H) id T none=zs:=by
      unfold ZS lk;dsimp only;rw[hd];show(Ty.castL t T l).getD []=zs;rw[hc, ←he];rfl
     rw[this];rfl
    ·rfl
   ·rfl
  ·rfl
 ·rfl
theorem Zx1{own row:Bool}{t u:yb}{x y:yn}{c:Call}{xd yd:TD}(ho:o.op=.call c)(hc:c.callee=.builtin .append)(ha:c.args.toList=[x,y])(ht:c.argTypes.toList=[t,u])
 (hv:Zp P (TD.ers (lk H) ts) t x=xd.er (lk H)) (hy:arT P ts u y=some yd) (h:Zx0 P own row t u all H K yd xd=some out):∃a d H' hs c,K a d H' hs c=some out∧Good P o ts all H a d H' hs c:=by
 have hw:=Zn (L:=lk H) hy;unfold Zx0 at h;split at h
 ·rename_i id nn T;split at h
  ·rename_i e hu;obtain⟨i,h1,h⟩:=yc.1 h;obtain⟨m,h2,h⟩:=yc.1 h;obtain⟨zs,h3,h⟩:=yc.1 h;obtain⟨ys,hs,C,k1,k2,k3⟩:=Zl2 h;obtain⟨k4,k6⟩:=Za k1;obtain⟨k5,kk⟩:=Za k6;clear k1 k6;simp only[yi,decide_eq_true_eq] at k4;obtain⟨⟨⟨g1,g2⟩,g3⟩,g4⟩:=k4;simp only[apB,yi,decide_eq_true_eq] at k5;have hl:=ZCF h2;obtain⟨mt,me,ml⟩:=m;dsimp only at h3 g3 hl;obtain⟨eT,h3⟩:=Zy h3;subst eT;subst h3;subst g3;have hlt:id < H.length:=(yo.1 hl).1
   have ec:ZS (lk H) id mt none=zs:=by
    unfold ZS lk;dsimp only;rw[hl];show(Ty.castL mt mt zs).getD []=zs;unfold Ty.castL;split
    ·rfl
    ·rename_i h _;exact absurd rfl h
   refine⟨_,_,_,_,_,kk,ers_stale (λid' t hn=>WE (lk H) id' t hn) all,ZaR all,or3 (⟨rfl,λrest=> ?_,λrest=> ?_,
    C++[zs.map mt.enc=zs.map mt.enc,((zs.map mt.enc).length+(ys.map mt.enc).length)*i.bytes≤Zo,(zs.map mt.enc).length+(ys.map mt.enc).length≤maxLen],Zj.2 ⟨k2,rfl,by simpa using k5.1,by simpa using k5.2,ytt⟩,λrest=> ?_⟩)⟩
   ·unfold evN;rw[ho];dsimp only;rw[hc];dsimp only;rw[ha,ht];split
    ·rename_i e1 e2 e3;simp only[List.cons.injEq,and_true] at e1 e2;obtain⟨rfl,rfl⟩:=e1;obtain⟨rfl,rfl⟩:=e2;rw[hu,hv];rfl
    ·rfl
   ·unfold evR;rw[ho];dsimp only;rw[hc]
   ·unfold evE;rw[ho];dsimp only;rw[hc];dsimp only;rw[ha,ht];dsimp only;rw[hu,hv,hw];dsimp only[TD.er];rw[ec,h1,k3 rest,ZF hl];dsimp only[TEnt.er];rw[if_pos (by simp[g1,g2,g4]),ZHh,ZHo _ (by rw[yx];exact hlt),yaj]
  ·cases h
 ·rename_i id v s lo n;split at h
  ·rename_i e hu;obtain⟨i,h1,h⟩:=yc.1 h;obtain⟨T,h2,h⟩:=yc.1 h;obtain⟨ys,hs,C,k1,k2,k3⟩:=Zl2 h
   have nN:∀hs,evN P o (TD.ers (lk H) ts) hs=none:=λhs=>by
    unfold evN;rw[ho];dsimp only;rw[hc];dsimp only;rw[ha,ht]
    cases hs with
    |nil=>rfl
    |cons h0 hr=>cases h0 <;> first|rfl|(dsimp only;rw[hu,hv];rfl)
   have nR:∀hs,evR P o (TD.ers (lk H) ts) (erH H) hs=none:=λhs=>by
    unfold evR;rw[ho];dsimp only;rw[hc]
   split at k1
   ·rename_i hemp;obtain⟨k4,k5⟩:=Za k1;simp only[yi,decide_eq_true_eq] at k4;have hys:ys=[]:=by simpa using hemp
    refine⟨_,_,_,_,_,k5,rfl,rfl,or3 (⟨rfl,λrest=>nN _,λrest=>nR _,C++[ys.map T.enc=[]],Zj.2 ⟨k2,by rw[hys];rfl,ytt⟩,λrest=> ?_⟩)⟩;unfold evE;rw[ho];dsimp only;rw[hc];dsimp only;rw[ha,ht];dsimp only;rw[hu,hv,hw];dsimp only[TD.er];rw[yaa];dsimp only;rw[h1,k4.2,k3 rest];dsimp only;rw[if_pos k4.1]
   ·split at k1
    ·rename_i w s' e' d hd;obtain⟨y0,p1,q1⟩:=yc.1 k1;obtain⟨r,p2,q2⟩:=yc.1 q1;obtain⟨xs,p3,q3⟩:=yc.1 q2;obtain⟨p4,q4⟩:=Za q3;obtain⟨p5,q5⟩:=Za q4;simp only[yi,decide_eq_true_eq,beq_iff_eq] at p4;obtain⟨⟨⟨⟨⟨⟨⟨g1,g2⟩,g3⟩,g4⟩,g5⟩,g6⟩,g7⟩,g8⟩:=p4;simp only[apB,yi,decide_eq_true_eq] at p5
     have esub:d.er (lk H)=.p (.arr r.n T.size (xs.map T.enc)):=by
      rw[Ys p1,TD.er,Wj p2];obtain⟨e,p3⟩:=Zy p3;obtain⟨n0,t0,l0⟩:=r;dsimp only at e p3 ⊢;subst e;subst p3;rfl
     refine⟨_,_,_,_,_,q5,VJ hd rfl rfl,rfl,or3 (⟨rfl,λrest=>nN _,λrest=>nR _,C++[n≤r.n,(n+(ys.map T.enc).length)*i.bytes≤Zo,n+(ys.map T.enc).length≤maxLen,true=true∨n=r.n],
      Zj.2 ⟨k2,p5.1,by simpa using p5.2.1,by simpa using p5.2.2,.inl rfl,ytt⟩,λrest=> ?_⟩)⟩
     unfold evE;rw[ho];dsimp only;rw[hc];dsimp only;rw[ha,ht];dsimp only;rw[hu,hv,hw];dsimp only[TD.er];rw[yaa];dsimp only;rw[h1,g8,k3 rest,ZF hd,TEnt.er,esub];dsimp only;rw[if_pos (by simp[g1,g2,g3,g4,g5,g6,g7]),Yo (XI hd rfl rfl)];simp only[TEnt.er,TD.er,TP.pe,Zxz,yx,yaj,yby]
    ·cases k1
  ·cases h
 ·rename_i T0;split at h
  ·split at h
   ·rename_i e hu;obtain⟨i,h1,h⟩:=yc.1 h;obtain⟨T,h2,h⟩:=yc.1 h;obtain⟨ys,h3,h⟩:=yc.1 h;obtain⟨k4,h⟩:=Za h;obtain⟨k5,h⟩:=Za h;simp only[yi,decide_eq_true_eq] at k4;obtain⟨⟨⟨g1,g2⟩,g3⟩,g4⟩:=k4;obtain⟨g7,g8⟩:=VI k5;refine⟨_,_,_,_,_,h,ZaO rfl,rfl,or3 (⟨rfl,λrest=> ?_,λrest=> ?_,[(ys.map T.enc).length*i.bytes≤Zo,(ys.map T.enc).length≤maxLen],⟨by rw[yx];exact g7,by rw[yx];exact g8,ytt⟩,λrest=> ?_⟩)⟩
    ·unfold evN;rw[ho];dsimp only;rw[hc];dsimp only;rw[ha,ht];rfl
    ·unfold evR;rw[ho];dsimp only;rw[hc]
    ·unfold evE;rw[ho];dsimp only;rw[hc];dsimp only;rw[ha,ht];dsimp only;rw[hu,hv,hw,show(TD.p (TP.sl (some false) T0 [])).er (lk H)=Dv.p (.sl (some false) T0.size []) from rfl]
     dsimp only;rw[h1,g4,ZgW h3,yaa,yv];dsimp only;rw[if_pos (by simp only[yi];exact⟨g1,g2⟩),QO (QN rfl),Zx];simp only[TEnt.er,TD.er,TP.pe,Zxz,yx,g3]
   ·cases h
  split at h
  ·split at h
   ·rename_i e hu;obtain⟨i,h1,h⟩:=yc.1 h;obtain⟨T,h2,h⟩:=yc.1 h;obtain⟨ys,h3,h⟩:=yc.1 h;obtain⟨k4,h⟩:=Za h;obtain⟨k5,h⟩:=Za h;simp only[yi,decide_eq_true_eq] at k4;obtain⟨⟨⟨⟨⟨g1,g2⟩,g3⟩,g4⟩,g5⟩,g6⟩:=k4;obtain⟨g7,g8⟩:=VI k5;refine⟨_,_,_,_,_,h,ZdA g5,rfl,or3 (⟨rfl,λrest=> ?_,λrest=> ?_,[(ys.map T.enc).length*i.bytes≤Zo,(ys.map T.enc).length≤maxLen],⟨by rw[yx];exact g7,by rw[yx];exact g8,ytt⟩,λrest=> ?_⟩)⟩
    ·unfold evN;rw[ho];dsimp only;rw[hc];dsimp only;rw[ha,ht];rfl
    ·unfold evR;rw[ho];dsimp only;rw[hc]
    ·unfold evE;rw[ho];dsimp only;rw[hc];dsimp only;rw[ha,ht];dsimp only;rw[hu,hv,hw,show(TD.p (TP.sl (some false) T0 [])).er (lk H)=Dv.p (.sl (some false) T0.size []) from rfl]
     dsimp only;rw[h1,g4,ZgW h3,yaa,yv];dsimp only;rw[if_pos (by simp only[yi];exact⟨g1,g2⟩),ZEd g6,Zx,TD.er,ZaP,g3]
   ·cases h
  ·cases h
 ·cases h
def ZCH(P:yg)(t:yb)(all:List TD)(H:List TEnt)(K:Kn O):TD→Option O
 |.rv id v s lo n=>match P.underlying t,H[id]? with
  |some (.slice e),some (.row w s' true e' d)=>(P.info? e).bind λi=>(Zqb P e).bind λz=>d.inner.bind λy=>y.arow.bind λr=>(TP.to ZiS z r.t).bind λz'=>
   if(zOk i&&decide (i.size=s)&&decide (s'=s)&&decide (r.t.size=s)&&w==v&&s !=0&&z.pe.size==s&&decide (n=1))=true then if decide (lo+1≤r.n)=true then
    K all (.tup []) (H.set id (.row v s true e' (.p (.v (.arr r.n r.t) (r.l.set lo z'))))) [] 2 else none else none
  |_,_=>none
 |_=>none
theorem ZAA{t:yb}{x:yn}{c:Call}{xd:TD}(ho:o.op=.call c)(hc:c.callee=.builtin .clear)(ha:c.args.toList=[x])(ht:c.argTypes.toList=[t])
 (hx:arT P ts t x=some xd) (h:ZCH P t all H K xd=some out):∃a d H' hs c,K a d H' hs c=some out∧Good P o ts all H a d H' hs c:=by
 have hv:=Zn (L:=lk H) hx;unfold ZCH at h;split at h
 ·rename_i id v s lo n;split at h
  ·rename_i e w s' e' d hu hd;obtain⟨i,h1,h⟩:=yc.1 h;obtain⟨z,h2,h⟩:=yc.1 h;obtain⟨y,p1,q1⟩:=yc.1 h;obtain⟨r,p2,q2⟩:=yc.1 q1;obtain⟨z',p3,q3⟩:=yc.1 q2;obtain⟨p4,q4⟩:=Za q3;obtain⟨p5,k1⟩:=Za q4;clear q1 q2 q3 q4 h;simp only[yi,decide_eq_true_eq] at p4;obtain⟨⟨⟨⟨⟨⟨⟨g1,g2⟩,g3⟩,g4⟩,g5⟩,g6⟩,g7⟩,g8⟩:=p4;have g8':=g8;subst g8;have p5:=of_decide_eq_true p5;have esub:d.er (lk H)=.p (.arr r.n r.t.size (r.l.map r.t.enc)):=by rw[Ys p1,TD.er,Wj p2]
   refine⟨_,_,_,_,_,k1,VJ hd rfl rfl,rfl,or3 (⟨rfl,λrest=> ?_,λrest=> ?_,[1=1,lo+1≤r.n],⟨rfl,p5,ytt⟩,λrest=> ?_⟩)⟩
   ·unfold evN;rw[ho];dsimp only;rw[hc]
   ·unfold evR;rw[ho];dsimp only;rw[hc]
   ·unfold evE;rw[ho];dsimp only;rw[hc];dsimp only;rw[ha,ht];dsimp only;rw[hu,hv];dsimp only[TD.er];rw[h1,Zgb h2,ZF hd,TEnt.er,esub];dsimp only;rw[if_pos (by simp only[yi,decide_eq_true_eq];exact⟨⟨⟨⟨⟨⟨g1,g2⟩,g3⟩,g4⟩,g5⟩,g6⟩,g7⟩),Yo (XI hd rfl rfl),ZcG z r.t z' p3];have eset:(r.l.set lo z').map r.t.enc=(r.l.map r.t.enc).set lo (r.t.enc z'):=ybb ..;show some ([1=1,lo+1≤r.n],Dv.tup [],(erH H).set id (Ent.row v s true e' (.p (.arr r.n s ((r.l.map r.t.enc).set lo (r.t.enc z'))))),rest)=some ([1=1,lo+1≤r.n],Dv.tup [],(erH H).set id (Ent.row v s true e' (.p (.arr r.n r.t.size ((r.l.set lo z').map r.t.enc)))),rest);rw[eset,g4]
  ·cases h
 ·cases h
def ZHp(P:yg)(t u:yb)(all:List TD)(H:List TEnt)(K:Kn O)(y:TD):TD→Option O
 |.view id path s lo n=>match P.underlying t,H[id]? with
  |some (.slice e),some (.var d true)=>gpT (lk H) path d λsub hs put=>sub.inner.bind λy0=>y0.arow.bind λr=>(ZxF (lk H) P r.t u y).bind λys=>
   (put (.p (.v (.arr r.n r.t) (r.l.take lo++(ys++r.l.drop (lo+ys.length)))))).bind λd'=>
     if(decide (r.t.size=s)&&decide (P.cellsOf e=s)&&(P.info? e).isSome&&decide (ys.length≤n)&&decide (lo+n≤r.n))=true then K all (.p (.v (.int .i64) (ys.length:Int))) (H.set id (.var d' true)) hs 2 else none
  |_,_=>none
 |_=>none
theorem ZCI{t u:yb}{x y:yn}{c:Call}{xd yd:TD}(ho:o.op=.call c)(hc:c.callee=.builtin .copy)(ha:c.args.toList=[x,y])(ht:c.argTypes.toList=[t,u])
 (hx:arT P ts t x=some xd) (hy:arT P ts u y=some yd) (h:ZHp P t u all H K yd xd=some out):∃a d H' hs c,K a d H' hs c=some out∧Good P o ts all H a d H' hs c:=by
 have hv:=Zn (L:=lk H) hx;have hw:=Zn (L:=lk H) hy;unfold ZHp at h;split at h
 ·rename_i id path s lo n;split at h
  ·rename_i e d hu hd;obtain⟨sub,hs,put,C,k1,k2,k3,k4⟩:=YK _ _ _ _ h;obtain⟨y0,p1,k1⟩:=yc.1 k1;obtain⟨r,p2,k1⟩:=yc.1 k1;obtain⟨ys,p3,k1⟩:=yc.1 k1;obtain⟨d',p4,k1⟩:=yc.1 k1;obtain⟨p5,k1⟩:=Za k1;simp only[yi,decide_eq_true_eq] at p5;obtain⟨⟨⟨⟨g1,g2⟩,g3⟩,g4⟩,g5⟩:=p5;have esub:sub.er (lk H)=.p (.arr r.n r.t.size (r.l.map r.t.enc)):=by rw[Ys p1,TD.er,Wj p2]
   refine⟨_,_,_,_,_,k1,VJ hd rfl rfl,rfl,or3 (⟨rfl,λrest=> ?_,λrest=> ?_,C++[V5 path=Xl path,(ys.map r.t.enc).length≤n,lo+n≤r.n],Zj.2 ⟨k2,(Y2 _).symm,by rw[yx];exact g4,g5,ytt⟩,λrest=> ?_⟩)⟩
   ·unfold evN;rw[ho];dsimp only;rw[hc]
   ·unfold evR;rw[ho];dsimp only;rw[hc]
   ·unfold evE;rw[ho];dsimp only;rw[hc];dsimp only;rw[ha,ht];dsimp only;rw[hu,hv,hw];dsimp only[TD.er];rw[←g1,ZgW p3,ZF hd];dsimp only[TEnt.er];rw[k3 rest,esub];dsimp only;have:=k4 _ _ p4 rest
    have e1:(TD.p (.v (.arr r.n r.t) (r.l.take lo++(ys++r.l.drop (lo+ys.length))))).er (lk H)=.p (.arr r.n r.t.size (ZoK (r.l.map r.t.enc) (ys.map r.t.enc) lo)):=by
     show Dv.p (Pl.arr r.n r.t.size ((r.l.take lo++(ys++r.l.drop (lo+ys.length))).map r.t.enc))=_;unfold ZoK;rw[yaj,yaj,yby,List.map_drop,yx]
    rw[e1] at this;rw[this];dsimp only;rw[if_pos (by simp only[yi,decide_eq_true_eq];exact⟨⟨trivial,by rw[g1];exact g2⟩,g3⟩),Yo (XI hd rfl rfl),yx];rfl
  ·cases h
 ·cases h
def ZCJ(H:List TEnt)(id:Nat):Bool:=
 match H[id]? with
 |some (.var _ false)=>true
 |_=>false
def ZLR(P:yg)(t:yb)(lo hi:Option Int)(all:List TD)(H:List TEnt)(K:Kn O):TD→Option O
 |.ref id path=>match P.underlying t with
  |some (.array n e)=>(ZsX H id).bind λd=>gpT (lk H) path d λsub hs _=>sub.inner.bind λy=>y.arow.bind λr=>
   if(decide (n=r.n)&&okB P e r.t.size&&decide (n≤maxLen))=true then if ZaM n lo hi=true then(if ZCJ H id=true then K all (.p (.sl (some true) r.t (We r.l lo hi))) H (.frz::hs) 1 else
    K all (.p (.sl (some true) r.t (We r.l lo hi))) (H.set id (.var d false)) (.frz::hs) 2) else none else none
  |_=>none
 |_=>none
theorem ZFF{t:yb}{x:yn}{lo hi:Option yn}{l h':Option Int}{xd:TD}(ho:o.op=.slice t x lo hi none)(hx:arT P ts t x=some xd)(hl:ZeC P ts lo=some l)(hh:ZeC P ts hi=some h')
 (h:ZLR P t l h' all H K xd=some out):∃a d H' hs c,K a d H' hs c=some out∧Good P o ts all H a d H' hs c:=by
 have hv:=Zn (L:=lk H) hx;have hl:=QL (L:=lk H) hl;have hh:=QL (L:=lk H) hh;unfold ZLR at h;split at h
 ·rename_i id path;split at h
  ·rename_i n e hu;obtain⟨d,h1,h⟩:=yc.1 h;obtain⟨st,h2,h3⟩:=Zdz h1;obtain⟨sub,hs,put,C,k1,k2,k3,_⟩:=YK _ _ _ _ h;obtain⟨y,p1,k1⟩:=yc.1 k1;obtain⟨r,p2,k1⟩:=yc.1 k1;obtain⟨p4,k1⟩:=Za k1;obtain⟨p5,k1⟩:=Za k1;have esub:sub.er (lk H)=.p (.arr r.n r.t.size (r.l.map r.t.enc)):=by rw[Ys p1,TD.er,Wj p2]
   have nN:∀rest,evN P o (TD.ers (lk H) ts) (.frz::hs++rest)=none:=λrest=>by
    unfold evN;rw[ho];dsimp only;rw[hu,hv,hl,hh];rfl
   split at k1
   ·rename_i hst
    have hst':st=false:=by
     unfold ZCJ at hst;rw[h2] at hst
     cases st with
     |false=>rfl
     |true=>cases hst
    subst hst';refine⟨_,_,_,_,_,k1,rfl,rfl,.inr (.inl ⟨rfl,rfl,nN,C++[V5 path=Xl path]++Yt n l h',Zj.2 ⟨Zj.2 ⟨k2,(Y2 _).symm,ytt⟩,Zdy p5⟩,λrest=> ?_⟩)⟩;unfold evR;rw[ho];dsimp only;rw[hu,hv,hl,hh];dsimp only[TD.er];rw[yaa];dsimp only;rw[h3];dsimp only;rw[k3 rest,esub];dsimp only;rw[if_pos (by simpa[okB,and_assoc] using p4),TP.pe,ZeO]
   rename_i hst
   have hst':st=true:=by
    unfold ZCJ at hst;rw[h2] at hst
    cases st with
    |true=>rfl
    |false=>exact absurd rfl hst
   subst hst';refine⟨_,_,_,_,_,k1,VJ h2 rfl rfl,rfl,or3 (⟨rfl,nN,λrest=> ?_,C++[V5 path=Xl path]++Yt n l h',Zj.2 ⟨Zj.2 ⟨k2,(Y2 _).symm,ytt⟩,Zdy p5⟩,λrest=> ?_⟩)⟩
   ·unfold evR;rw[ho];dsimp only;rw[hu,hv,hl,hh];dsimp only[TD.er];rw[yaa];dsimp only;rw[h3]
   ·unfold evE;rw[ho];dsimp only;rw[hu,hv,hl,hh];dsimp only[TD.er];rw[yaa];dsimp only;rw[h3];dsimp only;rw[k3 rest,esub];dsimp only;rw[if_pos (by simpa[okB,and_assoc] using p4),Yo (XI h2 rfl rfl),TP.pe,ZeO];rfl
  ·cases h
 ·cases h
def Zx2(dst:Tmp)(all:List TD)(H:List TEnt)(K:Kn O):TD→Option O
 |.view id path s lo n=>(ZsX H id).bind λd=>gpT (lk H) path d λsub hs _=>sub.inner.bind λy=>y.arow.bind λr=>
  if(decide (r.t.size=s))=true then if(decide (lo+n≤r.n))=true then K all (.p (.sl (some true) r.t ((r.l.drop lo).take n))) (H.set id (.var d false)) (.still dst::hs) 2 else none else none
 |.rv id v s lo n=>match H[id]? with
  |some (.row w s' _ e d)=>d.inner.bind λy=>y.arow.bind λr=>
   if(decide (r.t.size=s)&&decide (s'=s)&&w==v)=true then if(decide (lo+n≤r.n))=true then K all (.p (.sl none r.t ((r.l.drop lo).take n))) (H.set id (.row v s false e d)) [.still dst] 2 else none else none
  |_=>none
 |_=>none
theorem ZAB{dst:Tmp}{xd:TD}(h:Zx2 dst all H K xd=some out):∃a d H' hs,K a d H' (.still dst::hs) 2=some out∧TD.ers (lk H') a=TD.ers (lk H) all∧a.length=all.length∧
 ∃C,AllP C∧∀rest,Zdk (xd.er (lk H)) (erH H) (hs++rest)=some (C,d.er (lk H'),erH H',rest):=by
 unfold Zx2 at h;split at h
 ·rename_i id path s lo n;obtain⟨d,h1,h⟩:=yc.1 h;obtain⟨st,h2,h3⟩:=Zdz h1;obtain⟨sub,hs,put,C,k1,k2,k3,_⟩:=YK _ _ _ _ h;obtain⟨y,p1,k1⟩:=yc.1 k1;obtain⟨r,p2,k1⟩:=yc.1 k1;obtain⟨p4,k1⟩:=Za k1;obtain⟨p5,k1⟩:=Za k1;have p4:=of_decide_eq_true p4;have p5:=of_decide_eq_true p5;have esub:sub.er (lk H)=.p (.arr r.n r.t.size (r.l.map r.t.enc)):=by rw[Ys p1,TD.er,Wj p2]
  refine⟨_,_,_,_,k1,VJ h2 rfl rfl,rfl,C++[V5 path=Xl path,lo+n≤r.n],Zj.2 ⟨k2,(Y2 _).symm,p5,ytt⟩,λrest=> ?_⟩;unfold Zdk;rw[show(TD.view id path s lo n).er (lk H)=Dv.view id (Xl path) (path.map Stp.i) s lo n from rfl]
  try dsimp only
  rw[h3]
  try dsimp only
  rw[k3 rest,esub]
  try dsimp only
  rw[if_pos p4,Yo (XI h2 rfl rfl),TD.er,TP.pe,yby,List.map_drop,p4]
  try rfl
 ·rename_i id v s lo n;split at h
  ·rename_i w s' st e d hd;obtain⟨y,p1,k1⟩:=yc.1 h;obtain⟨r,p2,k1⟩:=yc.1 k1;obtain⟨p4,k1⟩:=Za k1;obtain⟨p5,k1⟩:=Za k1;simp only[yi,decide_eq_true_eq] at p4;have p5:=of_decide_eq_true p5;have esub:d.er (lk H)=.p (.arr r.n r.t.size (r.l.map r.t.enc)):=by rw[Ys p1,TD.er,Wj p2]
   refine⟨_,_,_,[],k1,VJ hd rfl rfl,rfl,[lo+n≤r.n],⟨p5,ytt⟩,λrest=> ?_⟩;rw[yv];unfold Zdk;rw[show(TD.rv id v s lo n).er (lk H)=Dv.rv id v s lo n from rfl]
   dsimp only;rw[ZF hd,TEnt.er,esub];dsimp only;rw[if_pos (by simp[p4]),Yo (XI hd rfl rfl),TEnt.er,esub,TD.er,TP.pe,yby,List.map_drop,p4.1.1]
  ·cases h
 ·cases h
theorem ZAC{x:yn}{dst:Tmp}{xd:TD}(ho:o.op=.assign x∨o.op=.move x)(hd:o.dst=some dst)(hx:arT P ts o.type x=some xd)(h:Zx2 dst all H K xd=some out):
 ∃a d H' hs c,K a d H' hs c=some out∧Good P o ts all H a d H' hs c:=by
 have hv:=Zn (L:=lk H) hx;obtain⟨a,d,H',hs,k1,k2,k3,C,k4,k5⟩:=ZAB h;refine⟨_,_,_,_,_,k1,k2,k3,or3 (⟨rfl,λrest=> ?_,λrest=> ?_,C,k4,λrest=> ?_⟩)⟩
 ·rcases ho with ho|ho <;> (unfold evN;rw[ho];rfl)
 ·rcases ho with ho|ho <;> (unfold evR;rw[ho])
 ·rcases ho with ho|ho
  ·unfold evE;rw[ho];dsimp only;rw[yaa];dsimp only;rw[if_pos hd,hv];exact k5 rest
  ·unfold evE;rw[ho];dsimp only;rw[yaa];dsimp only;rw[if_pos hd,hv];exact k5 rest
def TD.isRw:TD→Bool
 |.rw _=>true
 |_=>false
def TD.isRp:TD→Bool
 |.rp _ _=>true
 |_=>false
theorem ZEf{id:Nat}{T:Ty}{v:List Unit}{st st':Bool}{e e':yb}{l l':List T.den}(hd:H[id]? =some (.rowT T v st e l))(hl:l'.length=l.length):lk (H.set id (.rowT T v st' e' l'))=lk H:=by
 funext j;unfold lk;by_cases hj:id=j
 ·subst hj;rw[getElem?_set_eq' hd,hd];show some _=some _;rw[hl]
 ·rw[getElem?_set_ne' hj]
def Zx3(P:yg)(t:yb)(i:Int)(all:List TD)(H:List TEnt)(K:Kn O):TD→Option O
 |.rw id=>match P.underlying t,H[id]? with
  |some (.slice e),some (.rowT T v st e' l)=>if okB P e T.size=true then if inB i l.length=true then K all (.rp id [.ix i.toNat T.size]) H [] 0 else none else none
  |_,_=>none
 |_=>none
theorem Zx4{t:yb}{x ix:yn}{xd:TD}{q:IntKind×Int}{ip:TP}(ho:o.op=.indexAddr t x ix)(hx:arT P ts t x=some xd)(hi:arT P ts 0 ix=some (.p ip))(hq:ZsS ip=some q)(h:Zx3 P t q.2 all H K xd=some out):
 ∃a d H' hs c,K a d H' hs c=some out∧Good P o ts all H a d H' hs c:=by
 have hv:=Zn (L:=lk H) hx;have hw:=Zn (L:=lk H) hi;rw[TD.er,(Zm9 hq).1] at hw;unfold Zx3 at h;split at h
 ·rename_i id;split at h
  ·rename_i e T v st e' l hu hd;obtain⟨h3,h⟩:=Za h;obtain⟨h4,h⟩:=Za h;refine⟨_,_,_,_,_,h,rfl,rfl,.inl ⟨rfl,rfl,[0≤q.2,q.2 < (l.length:Int)],⟨(WM h4).1,(WM h4).2,ytt⟩,λrest=> ?_⟩⟩;simp only[yv];unfold evN;rw[ho];dsimp only;rw[hu,hv,hw,(Qq hd).1,(Qq hd).2];dsimp only;rw[if_pos (by simpa[okB] using h3)];simp[Xl,Stp.o,Stp.i]
  ·cases h
 ·cases h
def ZHq(P:yg)(t:yb)(all:List TD)(H:List TEnt)(K:Kn O):TD→Option O
 |.rw id=>match P.underlying t,H[id]? with
  |some (.slice _),some (.rowT T v st e' l)=>K all (.p (.v (.int .i64) (l.length:Int))) H [] 0
  |_,_=>none
 |_=>none
theorem ZCK{t:yb}{x:yn}{c:Call}{xd:TD}(ho:o.op=.call c)(hc:c.callee=.builtin .len)(ha:c.args.toList=[x])(ht:c.argTypes.toList=[t])(hx:arT P ts t x=some xd)(h:ZHq P t all H K xd=some out):
 ∃a d H' hs c,K a d H' hs c=some out∧Good P o ts all H a d H' hs c:=by
 have hv:=Zn (L:=lk H) hx;unfold ZHq at h;split at h
 ·rename_i id;split at h
  ·rename_i e T v st e' l hu hd;refine⟨_,_,_,_,_,h,rfl,rfl,.inl ⟨rfl,rfl,[],trivial,λrest=> ?_⟩⟩;simp only[yv];unfold evN;rw[ho];dsimp only;rw[hc];dsimp only;rw[ha,ht];dsimp only;rw[hu,hv,(Qq hd).1];rfl
  ·cases h
 ·cases h
def ZCL(P:yg)(t:yb)(all:List TD)(H:List TEnt)(K:Kn O):TD→Option O
 |.rp id path=>match H[id]? with
  |some (.rowT T v st e l)=>gpT (lk H) path (.p (.v (.arr l.length T) l)) λsub hs _=>if okT P t (sub.er (lk H))=true then K all sub H hs 1 else none
  |_=>none
 |_=>none
theorem ZAD{t:yb}{x:yn}{xd:TD}(ho:o.op=.load t x)(hx:arT P ts 0 x=some xd)(h:ZCL P t all H K xd=some out):∃a d H' hs c,K a d H' hs c=some out∧Good P o ts all H a d H' hs c:=by
 have hv:=Zn (L:=lk H) hx;unfold ZCL at h;split at h
 ·rename_i id path;split at h
  ·rename_i T v st e l hd;obtain⟨sub,hs,put,C,k1,k2,k3,_⟩:=YK _ _ _ _ h;obtain⟨k4,k5⟩:=Za k1;refine⟨_,_,_,_,_,k5,rfl,rfl,.inr (.inl ⟨rfl,rfl,λrest=> ?_,C++[V5 path=Xl path],Zj.2 ⟨k2,(Y2 _).symm,ytt⟩,λrest=> ?_⟩)⟩
   ·unfold evN;rw[ho];dsimp only;rw[hv];rfl
   ·unfold evR;rw[ho];dsimp only;rw[hv,(Qq hd).2];dsimp only;rw[ZF hd];dsimp only[TEnt.er];have k6:Z3 (.p (.arr l.length T.size (l.map T.enc))) (path.map Stp.i) (hs++rest)=some (C,V5 path,sub.er (lk H),rest):=k3 rest;rw[k6];dsimp only;rw[if_pos (by rw[yi];exact⟨k4,by simp⟩)]
  ·cases h
 ·cases h
def Zx5(P:yg)(t:yb)(all:List TD)(H:List TEnt)(K:Kn O)(v:TD):TD→Option O
 |.rp id (.ix i s::r)=>match H[id]? with
  |some (.rowT T u true e l)=>if s=T.size then(l[i]?).bind λy=>gpT (lk H) r (.p (.v T y)) λsub hs put=>(put (v.meltP (lk H))).bind λd1=>d1.inner.bind λz=>(TP.to ZiS z T).bind λy'=>
   if ZeS P t ((v.meltP (lk H)).er (lk H)) (sub.er (lk H))=true then K all .junk (H.set id (.rowT T u true e (l.set i y'))) (.el (T.enc y)::hs) 2 else none else none
  |_=>none
 |_=>none
theorem Zx6{t:yb}{x y:yn}{xd yd:TD}(ho:o.op=.store t x y)(hx:arT P ts 0 x=some xd)(hy:arT P ts t y=some yd)(h:Zx5 P t all H K yd xd=some out):
 ∃a d H' hs c,K a d H' hs c=some out∧Good P o ts all H a d H' hs c:=by
 have hv:=Zn (L:=lk H) hx;have hw:=Zn (L:=lk H) hy;unfold Zx5 at h;split at h
 ·rename_i id i s r;split at h
  ·rename_i T u e l hd;split at h
   ·rename_i hs0;obtain⟨y0,h2,h⟩:=yc.1 h;obtain⟨sub,hs,put,C,k1,k2,k3,k4⟩:=YK r (.p (.v T y0)) _ out h;obtain⟨d1,p1,k1⟩:=yc.1 k1;obtain⟨z,p2,k1⟩:=yc.1 k1;obtain⟨y',p3,k1⟩:=yc.1 k1;obtain⟨h4,k1⟩:=Za k1;have h4':=h4;unfold ZeS at h4';have hL:lk (H.set id (.rowT T u true e (l.set i y')))=lk H:=ZEf hd (by rw[List.length_set])
    have hg:∀rest,Z3 (.p (.arr l.length T.size (l.map T.enc))) (i::r.map Stp.i) (.el (T.enc y0)::(hs++rest))=some (((l.map T.enc)[i]? =some (T.enc y0))::C,i*T.size+V5 r,sub.er (lk H),rest):=by
     intro rest;unfold Z3;dsimp only;have:=k3 rest;rw[TD.er,TP.pe] at this;rw[this,yz]
    have hp:∀rest,Xi ((yd.meltP (lk H)).er (lk H)) (.p (.arr l.length T.size (l.map T.enc))) (i::r.map Stp.i) (.el (T.enc y0)::(hs++rest))=some (.p (.arr l.length T.size ((l.set i y').map T.enc))):=by
     intro rest;have:=k4 _ d1 p1 rest;rw[TD.er,TP.pe] at this;unfold Xi;dsimp only;rw[this,Ys p2,TD.er];dsimp only;rw[ZcG z T y' p3, ←ybb]
    refine⟨_,_,_,_,_,k1,by rw[hL],rfl,or3 (⟨rfl,λrest=> ?_,λrest=> ?_,(((l.map T.enc)[i]? =some (T.enc y0))::C)++[i*T.size+V5 r=Xl (.ix i s::r)],
     Zj.2 ⟨⟨Znd h2,k2⟩,by rw[Y2,V5,Stp.o,hs0],ytt⟩,λrest=> ?_⟩)⟩
    ·unfold evN;rw[ho]
    ·unfold evR;rw[ho]
    ·unfold evE;rw[ho];dsimp only;rw[hv,hw,(Qq hd).2];dsimp only;rw[ZF hd];dsimp only[TEnt.er];rw[yad,show(Stp.ix i s).i=i from rfl,yaa,hg rest]
     dsimp only;have hst:ZbW (i::r.map Stp.i) (.p (.arr l.length T.size (l.map T.enc))) (yd.er (lk H))=some ((yd.meltP (lk H)).er (lk H)):=Zo5 (path:=.ix i s::r) (d:=.p (.v (.arr l.length T) l)) (v:=yd) (new:=yd.meltP (lk H)) (L:=lk H) rfl;rw[hst];dsimp only;rw[hp rest];dsimp only;rw[if_pos (by simp only[yi] at h4' ⊢;exact⟨⟨h4',by simp⟩,by simp[rowN]⟩),Yo hL];simp only[TEnt.er,List.length_set];rfl
   ·cases h
  ·cases h
 ·cases h
def Zx7(dst:Tmp)(all:List TD)(H:List TEnt)(K:Kn O):TD→Option O
 |.rw id=>match H[id]? with
  |some (.rowT T v st e l)=>K all (.p (.sl none T l)) (H.set id (.rowT T v false e l)) [.still dst] 2
  |_=>none
 |_=>none
theorem Zx8{x:yn}{dst:Tmp}{xd:TD}(ho:o.op=.assign x∨o.op=.move x)(hd:o.dst=some dst)(hx:arT P ts o.type x=some xd)(h:Zx7 dst all H K xd=some out):
 ∃a d H' hs c,K a d H' hs c=some out∧Good P o ts all H a d H' hs c:=by
 have hv:=Zn (L:=lk H) hx;unfold Zx7 at h;split at h
 ·rename_i id;split at h
  ·rename_i T v st e l hr;have hL:lk (H.set id (.rowT T v false e l))=lk H:=ZEf hr rfl
   have k5:∀rest,Zdk ((TD.rw id).er (lk H)) (erH H) rest=some ([0+l.length≤l.length],.p (.sl none T.size (l.map T.enc)),erH (H.set id (.rowT T v false e l)),rest):=by
    intro rest;unfold Zdk;rw[(Qq hr).1];dsimp only;rw[ZF hr,TEnt.er];dsimp only;rw[if_pos (by simp),Yo hL,TEnt.er,List.drop_zero, ←yx (f:=T.enc),yay]
   refine⟨_,_,_,_,_,h,by rw[hL],rfl,or3 (⟨rfl,λrest=> ?_,λrest=> ?_,[0+l.length≤l.length],⟨by omega,ytt⟩,λrest=> ?_⟩)⟩
   ·rcases ho with ho|ho <;> (unfold evN;rw[ho];rfl)
   ·rcases ho with ho|ho <;> (unfold evR;rw[ho])
   ·rcases ho with ho|ho
    ·unfold evE;rw[ho];dsimp only;rw[yaa];dsimp only;rw[if_pos hd,hv];exact k5 rest
    ·unfold evE;rw[ho];dsimp only;rw[yaa];dsimp only;rw[if_pos hd,hv];exact k5 rest
  ·cases h
 ·cases h
theorem Zs2{L M:Lk}{n:Nat}(h:∀id t,id≠n→ZS L id t none=ZS M id t none)(x:TEnt)(hf:x.free n=true):x.er L=x.er M:=by
 cases x with
 |var d st=>rw[TEnt.er,TEnt.er,QM h d hf]
 |row v s st e d=>rw[TEnt.er,TEnt.er,QM h d hf]
 |rowM t np v st e pre d post=>rw[TEnt.er,TEnt.er,QM h d hf]
 |_=>rfl
theorem ZiY{T:Ty}{v:List Unit}{st:Bool}{e:yb}{l:List T.den}(h:H.all (TEnt.free H.length)=true):erH (H++[.rowT T v st e l])=erH H++[.row v.length T.size st e (.p (.arr l.length T.size (l.map T.enc)))]:=by
 unfold erH;rw[yaj];congr 1;refine ycg λx hx=> ?_;have hf:=yba.1 h x hx;exact(Zs2 (λid t hn=>QP id t hn) x hf).symm
theorem Zno{T:Ty}{v:List Unit}{st:Bool}{e:yb}{l:List T.den}:(TD.rw H.length).er (lk (H++[.rowT T v st e l]))=.rv H.length v.length T.size 0 l.length:=
 (Qq (H:=H++[.rowT T v st e l]) (List.getElem?_concat_length ..)).1
def Zs3(P:yg)(row:Bool)(t u:yb)(all:List TD)(H:List TEnt)(K:Kn O)(y:TD):TD→Option O
 |.rw id=>match P.underlying t,H[id]? with
  |some (.slice e),some (.rowT T v st e' l)=>(P.info? e).bind λi=>ZAz P T u H (λys hs=>
   if(zOk i&&decide (i.size=T.size)&&decide (P.cellsOf e=T.size)&&decide (e'=e)&&decide (T.size≠0))=true then if apB l.length ys.length i.bytes=true then
    K (TD.stales (lk H) id all) (.rw id) ((H.map (TEnt.stale (lk H) id)).set id (.rowT T (()::v) st e (l++ys))) (.raw::hs) 2 else none else none) y
  |_,_=>none
 |.p (.sl (some false) _ [])=>match P.underlying t with
  |some (.slice e)=>(P.info? e).bind λi=>(ZgU P tyD e).bind λT=>(ZxF (lk H) P T u y).bind λys=>
   if(zOk i&&i.size !=0&&decide (i.size=T.size)&&decide (P.cellsOf e=T.size)&&TD.frees H.length all&&H.all (TEnt.free H.length))=true then if ZAk ys.length i.bytes=true then
    K all (.rw H.length) (H++[.rowT T [] true e ys]) [.arr] 2 else none else none
  |_=>none
 |_=>none
theorem Zu8{row:Bool}{t u:yb}{x y:yn}{c:Call}{xd yd:TD}(ho:o.op=.call c)(hc:c.callee=.builtin .append)(ha:c.args.toList=[x,y])(ht:c.argTypes.toList=[t,u])
 (hv:Zp P (TD.ers (lk H) ts) t x=xd.er (lk H)) (hy:arT P ts u y=some yd) (h:Zs3 P row t u all H K yd xd=some out):∃a d H' hs c,K a d H' hs c=some out∧Good P o ts all H a d H' hs c:=by
 have hw:=Zn (L:=lk H) hy;unfold Zs3 at h;split at h
 ·rename_i id;split at h
  ·rename_i e T v st e' l hu hd;obtain⟨i,h1,h⟩:=yc.1 h;obtain⟨ys,hs,C,k1,k2,k3⟩:=Zl2 h;obtain⟨k4,k6⟩:=Za k1;obtain⟨k5,kk⟩:=Za k6;clear k1 k6;simp only[yi,decide_eq_true_eq] at k4;obtain⟨⟨⟨⟨g1,g2⟩,g3⟩,g4⟩,g5⟩:=k4;subst g4;simp only[apB,yi,decide_eq_true_eq] at k5;have hlt:id < H.length:=(yo.1 hd).1
   refine⟨_,_,_,_,_,kk,ers_stale (λid' t hn=>WE (lk H) id' t hn) all,ZaR all,or3 (⟨rfl,λrest=> ?_,λrest=> ?_,
    C++[l.length≤l.length,(l.length+(ys.map T.enc).length)*i.bytes≤Zo,l.length+(ys.map T.enc).length≤maxLen,st=true∨l.length=l.length],Zj.2 ⟨k2,ym _,by simpa using k5.1,by simpa using k5.2,.inr rfl,ytt⟩,λrest=> ?_⟩)⟩
   ·unfold evN;rw[ho];dsimp only;rw[hc];dsimp only;rw[ha,ht,yaa]
   ·unfold evR;rw[ho];dsimp only;rw[hc]
   ·unfold evE;rw[ho];dsimp only;rw[hc];dsimp only;rw[ha,ht];dsimp only;rw[hu,hv,hw,(Qq hd).1];rw[yaa];dsimp only;rw[h1,k3 rest,ZF hd];dsimp only[TEnt.er]
    have hnew:((H.map (TEnt.stale (lk H) id)).set id (.rowT T (()::v) st e' (l++ys)))[id]? =some (.rowT T (()::v) st e' (l++ys)):=by
     rw[ycl (by rw[yx];exact hlt)]
    have hH:erH ((H.map (TEnt.stale (lk H) id)).set id (.rowT T (()::v) st e' (l++ys)))=(erH H).set id (.row (v.length+1) T.size st e' (.p (.arr (l.length+ys.length) T.size (l.map T.enc++ys.map T.enc)))):=by
     unfold erH;rw[ybb,yaw]
     have:(TEnt.rowT T (()::v) st e' (l++ys)).er (lk ((H.map (TEnt.stale (lk H) id)).set id (.rowT T (()::v) st e' (l++ys))))=.row (v.length+1) T.size st e' (.p (.arr (l.length+ys.length) T.size (l.map T.enc++ys.map T.enc))):=by
      simp only[TEnt.er,yai,yr,yaj]
     rw[this];congr 1;refine ycg λx hx=> ?_;exact Zga (λid t hn=>WE (lk H) id t hn) x
    rw[if_pos (by simp[g1,g2,g5]),hH,(Qq hnew).1];simp only[yx,yai,yr];rw[show(l.map T.enc).take l.length=l.map T.enc by rw[←yx (f:=T.enc),yay]]
  ·cases h
 ·rename_i T0;split at h
  ·rename_i e hu;obtain⟨i,h1,h⟩:=yc.1 h;obtain⟨T,h2,h⟩:=yc.1 h;obtain⟨ys,h3,h⟩:=yc.1 h;obtain⟨k4,h⟩:=Za h;obtain⟨k5,h⟩:=Za h;simp only[yi,decide_eq_true_eq] at k4;obtain⟨⟨⟨⟨⟨g1,g2⟩,g3⟩,g4⟩,g5⟩,g6⟩:=k4;obtain⟨g7,g8⟩:=VI k5;refine⟨_,_,_,_,_,h,ZdA g5,rfl,or3 (⟨rfl,λrest=> ?_,λrest=> ?_,[(ys.map T.enc).length*i.bytes≤Zo,(ys.map T.enc).length≤maxLen],⟨by rw[yx];exact g7,by rw[yx];exact g8,ytt⟩,λrest=> ?_⟩)⟩
   ·unfold evN;rw[ho];dsimp only;rw[hc];dsimp only;rw[ha,ht];rfl
   ·unfold evR;rw[ho];dsimp only;rw[hc]
   ·unfold evE;rw[ho];dsimp only;rw[hc];dsimp only;rw[ha,ht];dsimp only;rw[hu,hv,hw,show(TD.p (TP.sl (some false) T0 [])).er (lk H)=Dv.p (.sl (some false) T0.size []) from rfl]
    dsimp only;rw[h1,g4,ZgW h3,yaa,yv];dsimp only;rw[if_pos (by simp only[yi];exact⟨g1,g2⟩),ZiY g6,Zx,Zno,g3];simp only[yx,ych]
  ·cases h
 ·cases h
def ZHr(P:yg)(ts:List TD)(t:yb)(len:Nat)(parts:List (Nat×yn))(all:List TD)(H:List TEnt)(K:Kn O):Option O:=
 ZCv (lk H) P ts t len parts λT l e=>if(decide (l.length=len)&&TD.frees H.length all&&H.all (TEnt.free H.length))=true then K all (.rw H.length) (H++[.rowT T [] true e l]) [.arr] 2 else none
theorem ZCM{t:yb}{len:Nat}{parts:Array (Nat×yn)}(ho:o.op=.buildSlice t len parts)(h:ZHr P ts t len parts.toList all H K=some out):
 ∃a d H' hs c,K a d H' hs c=some out∧Good P o ts all H a d H' hs c:=by
 unfold ZHr at h;obtain⟨e,T,l,i,xs,h1,hu,hi,hl,hz,hs,hx⟩:=Zf8 h;obtain⟨h2,h1⟩:=Za h1;simp only[yi,decide_eq_true_eq] at h2;obtain⟨⟨h2,g5⟩,g6⟩:=h2;refine⟨_,_,_,_,_,h1,ZdA g5,rfl,or3 (⟨rfl,λrest=> ?_,λrest=> ?_,[],trivial,λrest=> ?_⟩)⟩
 ·unfold evN;rw[ho];rfl
 ·unfold evR;rw[ho]
 ·unfold evE;rw[ho];dsimp only;rw[yaa,yv];dsimp only;rw[hu];dsimp only;rw[hi,hl];dsimp only;rw[if_pos (by simpa using hz),hx,ZiY g6,Zno,Zx,hs,h2];rfl
def ZCN(P:yg)(ts:List TD)(t:yb)(len:Nat)(parts:List (Nat×yn))(id:Nat)(all:List TD)(H:List TEnt)(K:Kn O):Option O:=
 ZCv (lk H) P ts t len parts λT l e=>match H[id]? with
  |some (.rowT T' v _ e' _)=>if(decide (l.length=len)&&decide (e'=e)&&decide (T'.size=T.size))=true then K (TD.stales (lk H) id all) (.rw id) ((H.map (TEnt.stale (lk H) id)).set id (.rowT T (()::v) true e l)) [.fresh id] 2 else none
  |_=>none
theorem ZAE{t:yb}{len id:Nat}{parts:Array (Nat×yn)}(ho:o.op=.buildSlice t len parts)(h:ZCN P ts t len parts.toList id all H K=some out):
 ∃a d H' hs c,K a d H' hs c=some out∧Good P o ts all H a d H' hs c:=by
 unfold ZCN at h;obtain⟨e,T,l,i,xs,h1,hu,hi,hl,hz,hs,hx⟩:=Zf8 h;split at h1
 case h_2=>cases h1
 rename_i T0 v st e' l0 hd;obtain⟨h2,h1⟩:=Za h1;simp only[yi,decide_eq_true_eq] at h2;obtain⟨⟨h2,rfl⟩,h3⟩:=h2;have hlt:id < H.length:=(yo.1 hd).1
 have hnew:((H.map (TEnt.stale (lk H) id)).set id (.rowT T (()::v) true e' l))[id]? =some (.rowT T (()::v) true e' l):=by
  rw[ycl (by rw[yx];exact hlt)]
 have hH:erH ((H.map (TEnt.stale (lk H) id)).set id (.rowT T (()::v) true e' l))=(erH H).set id (.row (v.length+1) T.size true e' (.p (.arr l.length T.size (l.map T.enc)))):=by
  unfold erH;rw[ybb,yaw]
  have:(TEnt.rowT T (()::v) true e' l).er (lk ((H.map (TEnt.stale (lk H) id)).set id (.rowT T (()::v) true e' l)))=.row (v.length+1) T.size true e' (.p (.arr l.length T.size (l.map T.enc))):=by
   simp only[TEnt.er,yai]
  rw[this];congr 1;refine ycg λx hx=> ?_;exact Zga (λid t hn=>WE (lk H) id t hn) x
 refine⟨_,_,_,_,_,h1,ers_stale (λid' t hn=>WE (lk H) id' t hn) all,ZaR all,or3 (⟨rfl,λrest=> ?_,λrest=> ?_,[],trivial,λrest=> ?_⟩)⟩
 ·unfold evN;rw[ho];rfl
 ·unfold evR;rw[ho]
 ·unfold evE;rw[ho];dsimp only;rw[yaa,yv];dsimp only;rw[hu,ZF hd];dsimp only[TEnt.er];rw[hi,hl];dsimp only;rw[if_pos (by rw[yi,yi,beq_iff_eq,beq_iff_eq];exact⟨⟨hz,rfl⟩,h3.trans hs.symm⟩),hx,hH,(Qq hnew).1,hs, ←h2];simp only[yai]
def ZCO(P:yg)(t:yb)(n n':Int)(all:List TD)(H:List TEnt)(K:Kn O):Option O:=
 match P.underlying t with
 |some (.slice e)=>(P.info? e).bind λi=>(ZgU P tyD e).bind λT=>
  if(zOk i&&i.size !=0&&decide (i.size=T.size)&&TD.frees H.length all&&H.all (TEnt.free H.length))=true then if(decide (n=0)&&ZiX n' i.bytes)=true then K all (.rw H.length) (H++[.rowT T [] true e []]) [.arr] 2 else none else none
 |_=>none
theorem ZAF{t:yb}{l c:yn}{n n':Num}(ho:o.op=.makeSlice t l c)(hl:(arT P ts 0 l).bind TD.num=some n)(hc:(arT P ts 0 c).bind TD.num=some n')(hk:n.k=.i64)(hk':n'.k=.i64)
 (h:ZCO P t n.n n'.n all H K=some out):∃a d H' hs c,K a d H' hs c=some out∧Good P o ts all H a d H' hs c:=by
 obtain⟨ld,l1,l2⟩:=yc.1 hl;obtain⟨cd,c1,c2⟩:=yc.1 hc;have hv:=Zn (L:=lk H) l1;have hw:=Zn (L:=lk H) c1;rw[Vq l2,hk] at hv;rw[Vq c2,hk'] at hw;unfold ZCO at h;have nN:∀hs,evN P o (TD.ers (lk H) ts) hs=none:=λhs=>by unfold evN;rw[ho]
 have nR:∀hs,evR P o (TD.ers (lk H) ts) (erH H) hs=none:=λhs=>by unfold evR;rw[ho]
 split at h
 ·rename_i e hu;obtain⟨i,h1,h⟩:=yc.1 h;obtain⟨T,h2,h⟩:=yc.1 h;obtain⟨h3,h⟩:=Za h;obtain⟨h4,h⟩:=Za h;simp only[yi,decide_eq_true_eq] at h3;obtain⟨⟨⟨g0,h3⟩,g5⟩,g6⟩:=h3;simp only[ZiX,yi,decide_eq_true_eq] at h4;obtain⟨g1,g2⟩:=VI h4.2.2;refine⟨_,_,_,_,_,h,ZdA g5,rfl,or3 (⟨rfl,λrest=>nN _,λrest=>nR _,[n.n=0,0≤n'.n,n'.n.toNat*i.bytes≤Zo,n'.n.toNat≤maxLen],⟨h4.1,h4.2.1,g1,g2,ytt⟩,λrest=> ?_⟩)⟩;unfold evE;rw[ho];dsimp only;rw[hu,hv,hw];dsimp only;rw[h1,yaa,yv];dsimp only;rw[if_pos (by simpa using g0),ZiY g6,Zno,Zx,h3];rfl
 ·cases h
def Zx9(P:yg)(t:yb)(n n':Int)(all:List TD)(H:List TEnt)(K:Kn O):Option O:=
 match P.underlying t with
 |some (.slice e)=>(P.info? e).bind λi=>(ZgU P tyD e).bind λT=>(Zqb P e).bind λz=>(TP.to Zfy z T).bind λy=>
  if(zOk i&&decide (i.size=1)&&z.pe.size==1&& !z.pe.isAgg&&decide (T.size=1)&&TD.frees H.length all&&H.all (TEnt.free H.length))=true then
   if(decide (n'=n)&&ZiX n i.bytes)=true then K all (.rw H.length) (H++[.rowT T [] true e (yab n.toNat y)]) [.frz] 2 else none else none
 |_=>none
theorem Zya{t:yb}{l c:yn}{n n':Num}(ho:o.op=.makeSlice t l c)(hl:(arT P ts 0 l).bind TD.num=some n)(hc:(arT P ts 0 c).bind TD.num=some n')(hk:n.k=.i64)(hk':n'.k=.i64)
 (h:Zx9 P t n.n n'.n all H K=some out):∃a d H' hs c,K a d H' hs c=some out∧Good P o ts all H a d H' hs c:=by
 obtain⟨ld,l1,l2⟩:=yc.1 hl;obtain⟨cd,c1,c2⟩:=yc.1 hc;have hv:=Zn (L:=lk H) l1;have hw:=Zn (L:=lk H) c1;rw[Vq l2,hk] at hv;rw[Vq c2,hk'] at hw;unfold Zx9 at h;have nN:∀hs,evN P o (TD.ers (lk H) ts) hs=none:=λhs=>by unfold evN;rw[ho]
 have nR:∀hs,evR P o (TD.ers (lk H) ts) (erH H) hs=none:=λhs=>by unfold evR;rw[ho]
 split at h
 ·rename_i e hu;obtain⟨i,h1,h⟩:=yc.1 h;obtain⟨T,h2,h⟩:=yc.1 h;obtain⟨z,z1,h⟩:=yc.1 h;obtain⟨y,z2,h⟩:=yc.1 h;obtain⟨h3,h⟩:=Za h;obtain⟨h4,h⟩:=Za h;simp only[yi,decide_eq_true_eq,beq_iff_eq] at h3;obtain⟨⟨⟨g0,h3⟩,g5⟩,g6⟩:=h3;simp only[ZiX,yi,decide_eq_true_eq] at h4;obtain⟨g1,g2⟩:=VI h4.2.2;refine⟨_,_,_,_,_,h,ZdA g5,rfl,or3 (⟨rfl,λrest=>nN _,λrest=>nR _,[n'.n=n.n,0≤n.n,n.n.toNat*i.bytes≤Zo,n.n.toNat≤maxLen],⟨h4.1,h4.2.1,g1,g2,ytt⟩,λrest=> ?_⟩)⟩;unfold evE;rw[ho];dsimp only;rw[hu,hv,hw];dsimp only;rw[h1,yaa,yv];dsimp only;rw[Zgb z1];dsimp only;rw[if_pos (by simp only[yi,decide_eq_true_eq];exact g0),ZiY g6,Zno,Zx,Zf7 z T y z2];rw[ych];rw[List.map_replicate,h3,yco]
 ·cases h
def Zyb(P:yg)(t:yb)(dst:Tmp)(all:List TD)(H:List TEnt)(K:Kn O):TD→Option O
 |.p (.sl (some false) T [])=>match P.underlying t with
  |some (.slice e)=>(P.info? e).bind λi=>if(zOk i&&i.size !=0&&decide (i.size=T.size)&&TD.frees H.length all&&H.all (TEnt.free H.length))=true then K all (.rw H.length) (H++[.rowT T [] true e []]) [.freshR dst] 2 else none
  |_=>none
 |_=>none
theorem Zyc{x:yn}{dst:Tmp}{xd:TD}(ho:o.op=.assign x)(hd:o.dst=some dst)(hx:arT P ts o.type x=some xd)(h:Zyb P o.type dst all H K xd=some out):
 ∃a d H' hs c,K a d H' hs c=some out∧Good P o ts all H a d H' hs c:=by
 have hv:=Zn (L:=lk H) hx;unfold Zyb at h;split at h
 ·rename_i T;split at h
  ·rename_i e hu;obtain⟨i,h1,h⟩:=yc.1 h;obtain⟨h2,h⟩:=Za h;simp only[yi,decide_eq_true_eq] at h2;obtain⟨⟨⟨g0,g3⟩,g5⟩,g6⟩:=h2;refine⟨_,_,_,_,_,h,ZdA g5,rfl,or3 (⟨rfl,λrest=> ?_,λrest=> ?_,[],trivial,λrest=> ?_⟩)⟩
   ·unfold evN;rw[ho];rfl
   ·unfold evR;rw[ho]
   ·unfold evE;rw[ho];dsimp only;rw[yaa,yv];dsimp only;rw[if_pos hd,hu,hv,show(TD.p (TP.sl (some false) T [])).er (lk H)=Dv.p (.sl (some false) T.size []) from rfl]
    dsimp only;rw[h1];dsimp only;rw[if_pos (by simpa using g0),ZiY g6,Zno,Zx,g3];rfl
  ·cases h
 ·cases h
def Zs4(P:yg)(t:yb)(lo hi:Option Int)(all:List TD)(H:List TEnt)(K:Kn O):TD→Option O
 |.rw id=>match P.underlying t,H[id]?,lo,hi with
  |some (.slice e),some (.rowT T v true e' l),none,some h=>if(okB P e T.size&&decide (T.size≠0))=true then if(decide (0≤h)&&decide (h.toNat≤l.length))=true then
    K (TD.stales (lk H) id all) (.rw id) ((H.map (TEnt.stale (lk H) id)).set id (.rowT T v true e' (l.take h.toNat))) [.arr] 2 else none else none
  |_,_,_,_=>none
 |_=>none
theorem Zu9{t:yb}{x:yn}{lo hi:Option yn}{l h':Option Int}{xd:TD}(ho:o.op=.slice t x lo hi none)(hx:arT P ts t x=some xd)(hl:ZeC P ts lo=some l)(hh:ZeC P ts hi=some h')(h:Zs4 P t l h' all H K xd=some out):
 ∃a d H' hs c,K a d H' hs c=some out∧Good P o ts all H a d H' hs c:=by
 have hv:=Zn (L:=lk H) hx;have hl2:=QL (L:=lk H) hl;have hh2:=QL (L:=lk H) hh;unfold Zs4 at h;split at h
 ·rename_i id;split at h
  ·rename_i e T v e' xs h2 hu hd;obtain⟨h3,h⟩:=Za h;obtain⟨h4,h⟩:=Za h;simp only[yi,decide_eq_true_eq] at h3 h4;obtain⟨h3a,h3b⟩:=ZJC h3.1;have hlt:id < H.length:=(yo.1 hd).1
   have hnew:((H.map (TEnt.stale (lk H) id)).set id (.rowT T v true e' (xs.take h2.toNat)))[id]? =some (.rowT T v true e' (xs.take h2.toNat)):=by
    rw[ycl (by rw[yx];exact hlt)]
   have hlen:(xs.take h2.toNat).length=h2.toNat:=by rw[List.length_take];omega
   have hH:erH ((H.map (TEnt.stale (lk H) id)).set id (.rowT T v true e' (xs.take h2.toNat)))=(erH H).set id (.row v.length T.size true e' (.p (.arr h2.toNat T.size ((xs.map T.enc).take h2.toNat)))):=by
    unfold erH;rw[ybb,yaw]
    have:(TEnt.rowT T v true e' (xs.take h2.toNat)).er (lk ((H.map (TEnt.stale (lk H) id)).set id (.rowT T v true e' (xs.take h2.toNat))))=.row v.length T.size true e' (.p (.arr h2.toNat T.size ((xs.map T.enc).take h2.toNat))):=by
     simp only[TEnt.er,hlen,yby]
    rw[this];congr 1;refine ycg λx hx=> ?_;exact Zga (λid t hn=>WE (lk H) id t hn) x
   refine⟨_,_,_,_,_,h,ers_stale (λid' t hn=>WE (lk H) id' t hn) all,ZaR all,or3 (⟨rfl,λrest=> ?_,λrest=> ?_,[0≤h2,h2.toNat≤xs.length],⟨h4.1,h4.2,ytt⟩,λrest=> ?_⟩)⟩
   ·unfold evN;rw[ho];dsimp only;rw[hu,hv,(Qq hd).1,hl2,hh2];rfl
   ·unfold evR;rw[ho];dsimp only;rw[hu,hv,(Qq hd).1,hl2,hh2];rfl
   ·unfold evE;rw[ho];dsimp only;rw[hu,hv,(Qq hd).1,hl2,hh2];dsimp only;rw[yaa,yv];dsimp only;rw[ZF hd,TEnt.er];dsimp only;rw[if_pos (by simp[h3a,h3b,h3.2]),hH,(Qq hnew).1,hlen]
  ·cases h
 ·cases h
def TEnt.rowQ:TEnt→Option (Nat×Nat×Nat)
 |.rowN t _ v _ _ pre post=>some (v.length,t.size,pre.length+post.length)
 |.rowM t _ v _ _ pre _ post=>some (v.length,t.size,pre.length+(post.length+1))
 |_=>none
theorem Zyd{L:Lk}{id:Nat}{v:List Unit}{s N:Nat}(h:ZS L id (.sl (.st [])) none=([v,yab s (),yab N ()]:List (List Unit))):
 (TD.rw id).er L=.rv id v.length s 0 N∧∀path,(TD.rp id path).er L=.rref id v.length (Xl path) (path.map Stp.i):=by
 refine⟨?_,λpath=> ?_⟩
 ·rw[TD.er];unfold Zap;rw[h];show Dv.rv id v.length (yab s ()).length 0 (yab N ()).length=_;rw[yco,yco]
 ·rw[TD.er];unfold Zap;rw[h];rfl
theorem ZcH{id:Nat}{x:TEnt}{q:Nat×Nat×Nat}(hd:H[id]? =some x)(h:x.rowQ=some q):(TD.rw id).er (lk H)=.rv id q.1 q.2.1 0 q.2.2∧∀path,(TD.rp id path).er (lk H)=.rref id q.1 (Xl path) (path.map Stp.i):=by
 cases x <;> first|cases h|skip
 all_goals
  refine Zyd ?_;unfold ZS lk;dsimp only;rw[hd];rfl
def Zye(P:yg)(t:yb)(i:Int)(all:List TD)(H:List TEnt)(K:Kn O):TD→Option O
 |.rw id=>match P.underlying t,(H[id]?).bind TEnt.rowQ with
  |some (.slice e),some q=>if okB P e q.2.1=true then if inB i q.2.2=true then K all (.rp id [.ix i.toNat q.2.1]) H [] 0 else none else none
  |_,_=>none
 |_=>none
theorem Zyf{t:yb}{x ix:yn}{xd:TD}{q:IntKind×Int}{ip:TP}(ho:o.op=.indexAddr t x ix)(hx:arT P ts t x=some xd)(hi:arT P ts 0 ix=some (.p ip))(hq:ZsS ip=some q)(h:Zye P t q.2 all H K xd=some out):
 ∃a d H' hs c,K a d H' hs c=some out∧Good P o ts all H a d H' hs c:=by
 have hv:=Zn (L:=lk H) hx;have hw:=Zn (L:=lk H) hi;rw[TD.er,(Zm9 hq).1] at hw;unfold Zye at h;split at h
 ·rename_i id;split at h
  ·rename_i e w hu hd;obtain⟨x0,hd,hq0⟩:=yc.1 hd;obtain⟨h3,h⟩:=Za h;obtain⟨h4,h⟩:=Za h;refine⟨_,_,_,_,_,h,rfl,rfl,.inl ⟨rfl,rfl,[0≤q.2,q.2 < (w.2.2:Int)],⟨(WM h4).1,(WM h4).2,ytt⟩,λrest=> ?_⟩⟩;simp only[yv];unfold evN;rw[ho];dsimp only;rw[hu,hv,hw,(ZcH hd hq0).1,(ZcH hd hq0).2];dsimp only;rw[if_pos (by simpa[okB] using h3)];simp[Xl,Stp.o,Stp.i]
  ·cases h
 ·cases h
def ZHs(P:yg)(t:yb)(all:List TD)(H:List TEnt)(K:Kn O):TD→Option O
 |.rw id=>match P.underlying t,(H[id]?).bind TEnt.rowQ with
  |some (.slice _),some q=>K all (.p (.v (.int .i64) (q.2.2:Int))) H [] 0
  |_,_=>none
 |_=>none
theorem ZCP{t:yb}{x:yn}{c:Call}{xd:TD}(ho:o.op=.call c)(hc:c.callee=.builtin .len)(ha:c.args.toList=[x])(ht:c.argTypes.toList=[t])(hx:arT P ts t x=some xd)(h:ZHs P t all H K xd=some out):
 ∃a d H' hs c,K a d H' hs c=some out∧Good P o ts all H a d H' hs c:=by
 have hv:=Zn (L:=lk H) hx;unfold ZHs at h;split at h
 ·rename_i id;split at h
  ·rename_i e w hu hd;obtain⟨x0,hd,hq0⟩:=yc.1 hd;refine⟨_,_,_,_,_,h,rfl,rfl,.inl ⟨rfl,rfl,[],trivial,λrest=> ?_⟩⟩;simp only[yv];unfold evN;rw[ho];dsimp only;rw[hc];dsimp only;rw[ha,ht];dsimp only;rw[hu,hv,(ZcH hd hq0).1];rfl
  ·cases h
 ·cases h
theorem getElem?_set_v{xs:List TP}{i:Nat}{z:TP}(h:i < xs.length):(xs.set i z)[i]? =some z:=by rw[ycl h]
def ZAG:List Nat→TP→(T:Ty)→Option T.den
 |[],x,T=>match T with
  |.sl u=>if x.nilT u=true then some [] else none
  |_=>none
 |i::r,x,T=>match x,T with
  |.agg xs,.st fs=>(xs[i]?).bind λz=>(fs[i]?).bind λU=>(ZAG r z U).bind λy=>TP.tos Zfy (xs.set i (.v U y)) fs
  |_,_=>none
theorem ZAH:∀(xs:List TP)(fs:List Ty)(y:Ty.dens fs)(i:Nat)(U:Ty)(z:U.den),TP.tos Zfy xs fs=some y→xs[i]? =some (.v U z)→(Ty.flds fs y)[i]? =some (.v U z)
 |[],fs,y,i,U,z,h,k=>by simp at k
 |x::r,fs,y,i,U,z,h,k=>by
  have h':ZsP (TP.to Zfy x) r.isEmpty (TP.tos Zfy r) fs=some y:=h
  match fs,y,h' with
  |[],_,h'=>cases h'
  |[t],y,h'=>
   have h2:(if r.isEmpty then TP.to Zfy x t else none)=some y:=h'
   split at h2
   ·rename_i hr
    cases r with
    |nil=>
     cases i with
     |zero=>
      cases k;obtain⟨e,rfl⟩:=WD (show Ty.cast U t z=some y from h2)
      subst e
      rfl
     |succ i=>simp at k
    |cons _ _=>cases hr
   ·cases h2
  |t::u::q,y,h'=>
   obtain⟨h1,h2⟩:=WZ (α:=t.den) (β:=Ty.dens (u::q)) h'
   cases i with
   |zero=>
    cases k;obtain⟨e,e2⟩:=WD (show Ty.cast U t z=some y.1 from h1)
    subst e;show some (TP.v U y.1)=_
    rw[e2]
   |succ i=>
    rw[List.getElem?_cons_succ] at k;exact ZAH r (u::q) y.2 i U z h2 k
theorem ZAI:∀(np:List Nat)(x:TP)(T:Ty)(y:T.den),ZAG np x T=some y→x.pe=(YS np (.v T y)).pe
 |[],x,T,y,h=>by
  cases T with
  |sl u=>
   simp only[ZAG] at h;split at h
   ·rename_i hn;cases h;exact ZxU hn
   ·cases h
  |_=>cases h
 |i::r,x,T,y,h=>by
  simp only[ZAG] at h;split at h
  ·rename_i xs fs;obtain⟨z,h1,h⟩:=yc.1 h;obtain⟨U,h2,h⟩:=yc.1 h;obtain⟨w,h3,h⟩:=yc.1 h;have hlt:i < xs.length:=(yo.1 h1).1;have e1:=ZAI r z U w h3;have e2:=ZAH _ fs y i U w h (getElem?_set_v hlt);have e3:=tos_exact _ _ _ h;have e5:(TP.v (.st fs) y).parts=some (Ty.flds fs y):=rfl
   have key:YS (i::r) (.v (.st fs) y)=.agg ((Ty.flds fs y).set i (YS r (.v U w))):=by
    rw[YS,e5];dsimp only;rw[e2]
   have e6:∀(l:List TP)(q:TP),TP.pes (l.set i q)=(TP.pes l).set i q.pe:=λl q=>by rw[XS,ybb, ←XS]
   have e7:TP.pes (Ty.flds fs y)=(TP.pes xs).set i (TP.v U w).pe:=((ZrT fs y).trans e3.symm).trans (e6 _ _)
   have e8:TP.pes ((Ty.flds fs y).set i (YS r (.v U w)))=TP.pes xs:=by
    rw[e6,e7,List.set_set, ←e1];refine List.ext_getElem? λj=> ?_;rw[List.getElem?_set];split
    ·rename_i hj;subst hj;rw[if_pos (by rw[XS,yx];exact hlt),XS,yaf,h1];rfl
    ·rfl
   rw[key];exact congrArg Pl.agg e8.symm
  ·cases h
def Zyg(np:List Nat)(T:Ty):List TP→Option (List T.den)
 |[]=>some []
 |x::r=>match ZAG np x T,Zyg np T r with
  |some y,some ys=>some (y::ys)
  |_,_=>none
theorem Zwz{np:List Nat}{T:Ty}:∀{xs:List TP}{ys:List T.den},Zyg np T xs=some ys→TP.pes xs=ys.map λy=>(YS np (.v T y)).pe
 |[],ys,h=>by cases h;rfl
 |x::r,ys,h=>by
  simp only[Zyg] at h;split at h
  ·rename_i y ys' h1 h2;cases h;rw[TP.pes,yad,ZAI np x T y h1,Zwz h2]
  ·cases h
def ZEg(L:Lk)(P:yg)(ts:List TD)(e:yb):List (Nat×yn)→Option (List TP)
 |[]=>some []
 |q::r=>match (arT P ts e q.2).bind (TD.flat L),ZEg L P ts e r with
  |some x,some l=>if x.pe.size=P.cellsOf e then some (x::l) else none
  |_,_=>none
theorem ZAJ{L:Lk}{e:yb}:∀{parts:List (Nat×yn)}{l:List TP},ZEg L P ts e parts=some l→
 Dv.flats (parts.map λq=>Zp P (TD.ers L ts) e q.2)=some (TP.pes l)∧(TP.pes l).all (λx=>x.size==P.cellsOf e)=true
 |[],l,h=>by cases h;exact⟨rfl,rfl⟩
 |q::r,l,h=>by
  simp only[ZEg] at h;split at h
  ·rename_i x l' hx h2;obtain⟨d,h1,h3⟩:=yc.1 hx;split at h
   ·rename_i hs;cases h;obtain⟨e1,e2⟩:=ZAJ h2;refine⟨?_, ?_⟩
    ·simp only[yad,Dv.flats];rw[Zn h1,Znc h3,e1];rfl
    ·simp only[TP.pes,List.all_cons,yi,beq_iff_eq];exact⟨hs,e2⟩
   ·cases h
  ·cases h
def ZLS(P:yg)(ts:List TD)(t:yb)(len:Nat)(parts:List (Nat×yn))(all:List TD)(H:List TEnt)(K:Kn O):Option O:=
 match P.underlying t with
 |some (.slice e)=>(P.info? e).bind λi=>(ZEg (lk H) P ts e parts).bind λl=>
  if(parts.map (·.1)==yq len)&&(zOk i&&i.size !=0&&decide (len*i.size≤16777216)) then K all (.p (.sll (some true) i.size l)) H [.bare] 0 else none
 |_=>none
theorem ZFG{t:yb}{len:Nat}{parts:Array (Nat×yn)}(ho:o.op=.buildSlice t len parts)(h:ZLS P ts t len parts.toList all H K=some out):
 ∃a d H' hs c,K a d H' hs c=some out∧Good P o ts all H a d H' hs c:=by
 unfold ZLS at h;split at h
 ·rename_i e hu;obtain⟨i,h1,h⟩:=yc.1 h;obtain⟨l,h2,h⟩:=yc.1 h;obtain⟨h3,h⟩:=Za h;simp only[yi] at h3;obtain⟨e1,e2⟩:=ZAJ h2
  have hl:Y8 P (TD.ers (lk H) ts) e (P.cellsOf e) len parts.toList=some (TP.pes l):=by
   unfold Y8;rw[if_pos h3.1,e1];dsimp only;rw[if_pos e2]
  refine⟨_,_,_,_,_,h,rfl,rfl,.inl ⟨rfl,rfl,[],trivial,λrest=> ?_⟩⟩;unfold evN;rw[ho];dsimp only;rw[yaa,yv];dsimp only;rw[hu];dsimp only;rw[h1,hl];dsimp only;rw[if_pos (by simpa only[yi] using h3.2)];rfl
 ·cases h
theorem Zyh{id:Nat}{e e':TEnt}(hd:H[id]? =some e)(h:lkE (some e')=lkE (some e)):lk (H.set id e')=lk H:=by
 funext j;unfold lk;by_cases hj:id=j
 ·subst hj;rw[getElem?_set_eq' hd,hd,h]
 ·rw[getElem?_set_ne' hj]
def Zs5(P:yg)(t u:yb)(all:List TD)(H:List TEnt)(K:Kn O)(y:TD):TD→Option O
 |.rw id=>match P.underlying t,P.underlying u,H[id]?,y with
  |some (.slice e),some (.slice _),some (.rowN T np v st e' pre post),.p (.sll _ s xs)=>(P.info? e).bind λi=>(Zyg np T xs).bind λys=>
   if(zOk i&&decide (i.size=T.size)&&decide (P.cellsOf e=T.size)&&decide (e'=e)&&decide (T.size≠0)&&decide (s=T.size))=true then if apB (pre.length+post.length) ys.length i.bytes=true then
    K (TD.stales (lk H) id all) (.rw id) ((H.map (TEnt.stale (lk H) id)).set id (.rowN T np (()::v) st e pre (post++ys))) [.raw] 2 else none else none
  |_,_,_,_=>none
 |_=>none
theorem Zva{t u:yb}{x y:yn}{c:Call}{xd yd:TD}(ho:o.op=.call c)(hc:c.callee=.builtin .append)(ha:c.args.toList=[x,y])(ht:c.argTypes.toList=[t,u])
 (hv:Zp P (TD.ers (lk H) ts) t x=xd.er (lk H)) (hy:arT P ts u y=some yd) (h:Zs5 P t u all H K yd xd=some out):∃a d H' hs c,K a d H' hs c=some out∧Good P o ts all H a d H' hs c:=by
 have hw:=Zn (L:=lk H) hy;unfold Zs5 at h;split at h
 ·rename_i id;split at h
  ·rename_i e e2 T np v st e' pre post nn s xs hu hu2 hd;obtain⟨i,h1,h⟩:=yc.1 h;obtain⟨ys,h2,h⟩:=yc.1 h;obtain⟨k4,k6⟩:=Za h;obtain⟨k5,kk⟩:=Za k6;simp only[yi,decide_eq_true_eq] at k4;obtain⟨⟨⟨⟨⟨g1,g2⟩,g3⟩,g4⟩,g5⟩,g6⟩:=k4;subst g4;subst g6;simp only[apB,yi,decide_eq_true_eq] at k5;have hlt:id < H.length:=(yo.1 hd).1;have hys:=Zwz h2;have hyl:(TP.pes xs).length=ys.length:=by rw[hys,yx]
   have hq:=ZcH (q:=(v.length,T.size,pre.length+post.length)) hd rfl
   refine⟨_,_,_,_,_,kk,ers_stale (λid' t hn=>WE (lk H) id' t hn) all,ZaR all,or3 (⟨rfl,λrest=> ?_,λrest=> ?_,
    [pre.length+post.length≤pre.length+post.length,(pre.length+post.length+(TP.pes xs).length)*i.bytes≤Zo,pre.length+post.length+(TP.pes xs).length≤maxLen,st=true∨pre.length+post.length=pre.length+post.length],
    ⟨ym _,by rw[hyl];exact k5.1,by rw[hyl];exact k5.2,.inr rfl,ytt⟩,λrest=> ?_⟩)⟩
   ·unfold evN;rw[ho];dsimp only;rw[hc];dsimp only;rw[ha,ht,yaa]
   ·unfold evR;rw[ho];dsimp only;rw[hc]
   ·have hsrc:ZoL P T.size u (erH H) rest (Zp P (TD.ers (lk H) ts) u y)=some ([],TP.pes xs,rest):=by
     rw[hw,TD.er,TP.pe];unfold ZoL ZeH;dsimp only;rw[hu2];dsimp only;rw[if_pos (.inl rfl)];rfl
    unfold evE;rw[ho];dsimp only;rw[hc];dsimp only;rw[ha,ht];dsimp only;rw[hu,hv,hq.1];rw[yaa,yv];dsimp only;rw[h1,hsrc,ZF hd];dsimp only[TEnt.er]
    have hnew:((H.map (TEnt.stale (lk H) id)).set id (.rowN T np (()::v) st e' pre (post++ys)))[id]? =some (.rowN T np (()::v) st e' pre (post++ys)):=by
     rw[ycl (by rw[yx];exact hlt)]
    have hN:pre.length+(post++ys).length=pre.length+post.length+ys.length:=by rw[yr];omega
    have hH:erH ((H.map (TEnt.stale (lk H) id)).set id (.rowN T np (()::v) st e' pre (post++ys)))=(erH H).set id (.row (v.length+1) T.size st e' (.p (.arr (pre.length+post.length+ys.length) T.size ((pre.map T.enc++post.map λx=>(YS np (.v T x)).pe)++TP.pes xs)))):=by
     unfold erH;rw[ybb,yaw]
     have:(TEnt.rowN T np (()::v) st e' pre (post++ys)).er (lk ((H.map (TEnt.stale (lk H) id)).set id (.rowN T np (()::v) st e' pre (post++ys))))=.row (v.length+1) T.size st e' (.p (.arr (pre.length+post.length+ys.length) T.size ((pre.map T.enc++post.map λx=>(YS np (.v T x)).pe)++TP.pes xs))):=by
      rw[TEnt.er,hN,hys,yaj,yak];rfl
     rw[this];congr 1;refine ycg λx hx=> ?_;exact Zga (λid t hn=>WE (lk H) id t hn) x
    have hq2:=ZcH (q:=(v.length+1,T.size,pre.length+(post++ys).length)) hnew rfl;rw[if_pos (by simp[g1,g2,g5]),hH,hq2.1,hyl,hN]
    have ht:(pre.map T.enc++post.map λx=>(YS np (.v T x)).pe).take (pre.length+post.length)=pre.map T.enc++post.map λx=>(YS np (.v T x)).pe:=by
     rw[List.take_of_length_le (by rw[yr,yx,yx];exact ym _)]
    rw[ht];rfl
  ·cases h
 ·cases h
theorem Zyi{α:Type}(a b:List α)(x:α):(a++x::b)[a.length]? =some x:=by rw[List.getElem?_append_right (ym _),Nat.sub_self];rfl
theorem ZEh{α:Type}(a b:List α)(x y:α):(a++x::b).set a.length y=a++y::b:=by
 rw[List.set_append,if_neg (by omega),Nat.sub_self];rfl
def ZCQ(P:yg)(t:yb)(all:List TD)(H:List TEnt)(K:Kn O):TD→Option O
 |.rp id (.ix i s::r)=>match H[id]? with
  |some (.rowM T np v st e pre mid post)=>if decide (s=T.size)=true then if decide (i=pre.length)=true then gpT (lk H) r mid λsub hs _=>if okT P t (sub.er (lk H))=true then K all sub H hs 1 else none else none else none
  |_=>none
 |_=>none
theorem ZAK{t:yb}{x:yn}{xd:TD}(ho:o.op=.load t x)(hx:arT P ts 0 x=some xd)(h:ZCQ P t all H K xd=some out):∃a d H' hs c,K a d H' hs c=some out∧Good P o ts all H a d H' hs c:=by
 have hv:=Zn (L:=lk H) hx;unfold ZCQ at h;split at h
 ·rename_i id i s r;split at h
  ·rename_i T np v st e pre mid post hd;obtain⟨h0,hh⟩:=Za h;obtain⟨h00,h9⟩:=Za hh;clear hh h;have h0:=of_decide_eq_true h0;have h00:=of_decide_eq_true h00;subst h0;subst h00;obtain⟨sub,hs,put,C,k1,k2,k3,_⟩:=YK _ _ _ _ h9;obtain⟨k4,k5⟩:=Za k1;have hq:=ZcH (q:=(v.length,T.size,pre.length+(post.length+1))) hd rfl;refine⟨_,_,_,_,_,k5,rfl,rfl,.inr (.inl ⟨rfl,rfl,λrest=> ?_,C++[pre.length*T.size+V5 r=Xl (.ix pre.length T.size::r)],Zj.2 ⟨k2,by rw[Y2,V5,Stp.o],ytt⟩,λrest=> ?_⟩)⟩
   ·unfold evN;rw[ho];dsimp only;rw[hv];rfl
   ·unfold evR;rw[ho];dsimp only;rw[hv,hq.2];dsimp only;rw[ZF hd];dsimp only[TEnt.er]
    have k6:Z3 (.arr (pre.length+(post.length+1)) T.size ((pre.map λx=>.p (T.enc x))++mid.er (lk H)::post.map λx=>.p (YS np (.v T x)).pe)) (pre.length::r.map Stp.i) (hs++rest)=some (C,pre.length*T.size+V5 r,sub.er (lk H),rest):=by
     unfold Z3;have:=Zyi (pre.map λx=>Dv.p (T.enc x)) (post.map λx=>.p (YS np (.v T x)).pe) (mid.er (lk H));rw[yx] at this;rw[this];dsimp only;rw[k3 rest];rfl
    rw[yad,show(Stp.ix pre.length T.size).i=pre.length from rfl,k6]
    dsimp only;rw[if_pos (by rw[yi];exact⟨k4,by simp⟩)]
  ·cases h
 ·cases h
def Zyj(P:yg)(t:yb)(all:List TD)(H:List TEnt)(K:Kn O)(v:TD):TD→Option O
 |.rp id (.ix i s::r)=>match H[id]? with
  |some (.rowM T np u true e pre mid post)=>if decide (s=T.size)=true then if decide (i=pre.length)=true then gpT (lk H) r mid λsub hs put=>(put v).bind λd1=>
   if ZeS P t (v.er (lk H)) (sub.er (lk H))=true then K all .junk (H.set id (.rowM T np u true e pre d1 post)) hs 2 else none else none else none
  |_=>none
 |_=>none
theorem Zyk{t:yb}{x y:yn}{xd yd:TD}(ho:o.op=.store t x y)(hx:arT P ts 0 x=some xd)(hy:arT P ts t y=some yd)(h:Zyj P t all H K yd xd=some out):
 ∃a d H' hs c,K a d H' hs c=some out∧Good P o ts all H a d H' hs c:=by
 have hv:=Zn (L:=lk H) hx;have hw:=Zn (L:=lk H) hy;unfold Zyj at h;split at h
 ·rename_i id i s r;split at h
  ·rename_i T np u e pre mid post hd;obtain⟨h0,hh⟩:=Za h;obtain⟨h00,h9⟩:=Za hh;clear hh h;have h0:=of_decide_eq_true h0;have h00:=of_decide_eq_true h00;subst h0;subst h00;obtain⟨sub,hs,put,C,k1,k2,k3,k4⟩:=YK r mid _ out h9;obtain⟨d1,p1,k1⟩:=yc.1 k1;obtain⟨h4,k1⟩:=Za k1;have h4':=h4;unfold ZeS at h4';have hq:=ZcH (q:=(u.length,T.size,pre.length+(post.length+1))) hd rfl;have hL:lk (H.set id (.rowM T np u true e pre d1 post))=lk H:=Zyh hd rfl;have hm:=Zyi (pre.map λx=>Dv.p (T.enc x)) (post.map λx=>.p (YS np (.v T x)).pe) (mid.er (lk H));have hm2:=ZEh (pre.map λx=>Dv.p (T.enc x)) (post.map λx=>.p (YS np (.v T x)).pe) (mid.er (lk H)) (d1.er (lk H));rw[yx] at hm hm2
   have hg:∀rest,Z3 (.arr (pre.length+(post.length+1)) T.size ((pre.map λx=>.p (T.enc x))++mid.er (lk H)::post.map λx=>.p (YS np (.v T x)).pe)) (pre.length::r.map Stp.i) (hs++rest)=some (C,pre.length*T.size+V5 r,sub.er (lk H),rest):=by
    intro rest;unfold Z3;rw[hm];dsimp only;rw[k3 rest];rfl
   have hp:∀rest,Xi (yd.er (lk H)) (.arr (pre.length+(post.length+1)) T.size ((pre.map λx=>.p (T.enc x))++mid.er (lk H)::post.map λx=>.p (YS np (.v T x)).pe)) (pre.length::r.map Stp.i) (hs++rest)=some (.arr (pre.length+(post.length+1)) T.size ((pre.map λx=>.p (T.enc x))++d1.er (lk H)::post.map λx=>.p (YS np (.v T x)).pe)):=by
    intro rest;have:=k4 _ d1 p1 rest;unfold Xi;rw[hm];dsimp only;rw[this,yz,hm2]
   refine⟨_,_,_,_,_,k1,by rw[hL],rfl,or3 (⟨rfl,λrest=> ?_,λrest=> ?_,C++[pre.length*T.size+V5 r=Xl (.ix pre.length T.size::r)],
    Zj.2 ⟨k2,by rw[Y2,V5,Stp.o],ytt⟩,λrest=> ?_⟩)⟩
   ·unfold evN;rw[ho]
   ·unfold evR;rw[ho]
   ·unfold evE;rw[ho];dsimp only;rw[hv,hw,hq.2];dsimp only;rw[ZF hd];dsimp only[TEnt.er];rw[yad,show(Stp.ix pre.length T.size).i=pre.length from rfl,hg rest]
    dsimp only;rw[show ZbW (pre.length::r.map Stp.i) (.arr (pre.length+(post.length+1)) T.size ((pre.map λx=>.p (T.enc x))++mid.er (lk H)::post.map λx=>.p (YS np (.v T x)).pe)) (yd.er (lk H))=some (yd.er (lk H)) from rfl]
    dsimp only;rw[hp rest];dsimp only;rw[if_pos (by simp only[yi] at h4' ⊢;exact⟨⟨h4',by simp⟩,by simp[rowN]⟩),Yo hL];rfl
  ·cases h
 ·cases h
def ZHt(H:List TEnt):TD→Bool
 |.rw id=>((H[id]?).bind TEnt.rowQ).isSome
 |.rp id _=>((H[id]?).bind TEnt.rowQ).isSome
 |_=>false
def rnT(P:yg)(hi:HI)(o:Oper)(ts:List TD)(H:List TEnt):Bool:=
 match o.op with
 |.load t x=>match arT P ts 0 x with
  |some d=>ZHt H d
  |none=>false
 |.store t x y=>match arT P ts 0 x with
  |some d=>ZHt H d
  |none=>false
 |.indexAddr t x ix=>match arT P ts t x with
  |some d=>ZHt H d
  |none=>false
 |.buildSlice t len parts=>match o.dst with
  |some d=>hi.lits.contains d
  |none=>false
 |.call c=>match c.callee with
  |.builtin .len=>match c.args.toList,c.argTypes.toList with
   |[x],[t]=>match arT P ts t x with
    |some d=>ZHt H d
    |none=>false
   |_,_=>false
  |.builtin .append=>match c.args.toList,c.argTypes.toList with
   |[x,y],[t,u]=>match arT P ts t x with
    |some d=>ZHt H d
    |none=>false
   |_,_=>false
  |_=>false
 |_=>false
def ZLT(P:yg)(hi:HI)(o:Oper)(ts all:List TD)(H:List TEnt)(K:Kn O):Option O:=
 match o.op with
 |.load t x=>(arT P ts 0 x).bind λd=>ZCQ P t all H K d
 |.store t x y=>(arT P ts 0 x).bind λa=>(arT P ts t y).bind λv=>Zyj P t all H K v a
 |.indexAddr t x ix=>(arT P ts t x).bind λa=>(arT P ts 0 ix).bind λb=>b.inner.bind λip=>(ZsS ip).bind λq=>Zye P t q.2 all H K a
 |.buildSlice t len parts=>ZLS P ts t len parts.toList all H K
 |.call c=>match c.callee with
  |.builtin .len=>match c.args.toList,c.argTypes.toList with
   |[x],[t]=>(arT P ts t x).bind λd=>ZHs P t all H K d
   |_,_=>none
  |.builtin .append=>match c.args.toList,c.argTypes.toList with
   |[x,y],[t,u]=>(arT P ts t x).bind λa=>(arT P ts u y).bind λb=>Zs5 P t u all H K b a
   |_,_=>none
  |_=>none
 |_=>none
theorem ZFH{hi:HI}(h:ZLT P hi o ts all H K=some out):∃a d H' hs c,K a d H' hs c=some out∧Good P o ts all H a d H' hs c:=by
 unfold ZLT at h;split at h
 ·rename_i t x ho;obtain⟨d,h1,h⟩:=yc.1 h;exact ZAK ho h1 h
 ·rename_i t x y ho;obtain⟨a,h1,h⟩:=yc.1 h;obtain⟨v,h2,h⟩:=yc.1 h;exact Zyk ho h1 h2 h
 ·rename_i t x ix ho;obtain⟨a,h1,h⟩:=yc.1 h;obtain⟨b,h2,h⟩:=yc.1 h;obtain⟨ip,h3,h⟩:=yc.1 h;obtain⟨q,h4,h⟩:=yc.1 h;rw[Ys h3] at h2;exact Zyf ho h1 h2 h4 h
 ·rename_i t len parts ho;exact ZFG ho h
 ·rename_i c ho;split at h
  ·rename_i hc;split at h
   ·rename_i x t ha ht;obtain⟨d,h1,h⟩:=yc.1 h;exact ZCP ho hc ha ht h1 h
   ·cases h
  ·rename_i hc;split at h
   ·rename_i x y t u ha ht;obtain⟨a,h1,h⟩:=yc.1 h;obtain⟨b,h2,h⟩:=yc.1 h;exact Zva ho hc ha ht (Zn h1) h2 h
   ·cases h
  ·cases h
 ·cases h
end
end Go.Ev
end
section
namespace Go.Ev
abbrev TV:=Σ t:Ty,t.den
inductive Sh where
 |v (t:Ty)
 |elem (t:Ty)
 |nil (t:Ty)
 |sl (nn:Bool) (t:Ty)
 |own (j:Nat) (t:Ty)
 |ref (j:Nat) (path:List Stp)
 |mp (j:Nat)
 |rw(j:Nat)
 |rp (j s:Nat) (path:List Stp)
 |view (j:Nat) (path:List Stp) (s lo n:Nat)
 |rv (j ver s lo n:Nat)
 |fn (g:yu) (l:List Sh)
 |agg (l:List Sh)
 |arr (n s:Nat) (l:List Sh)
 |tup (l:List Sh)
 |iface (t:yb) (x:Sh)
 |if2 (t u:yb) (x:Sh)
 |ptr0|fn0|if0|map0
 |junk
instance:Inhabited Sh:=⟨.junk⟩
def Stp.beq:Stp→Stp→Bool
 |.fld i o,.fld j p=>decide (i=j)&&decide (o=p)
 |.ix i o,.ix j p=>decide (i=j)&&decide (o=p)
 |_,_=>false
def Zkj:List Stp→List Stp→Bool
 |[],[]=>true
 |q::r,p::s=>q.beq p&&Zkj r s
 |_,_=>false
theorem ZdB:∀{l m:List Stp},Zkj l m=true→l=m
 |[],[],_=>rfl
 |[],_::_,h=>by cases h
 |_::_,[],h=>by cases h
 |q::r,p::s,h=>by
  simp only[Zkj,yi] at h;rw[ZdB h.2];congr 1;cases q <;> cases p <;> simp[Stp.beq] at h <;> simp[h.1]
def TD.toT(L:Lk)(t:Ty):TD→Option t.den
 |.p x=>TP.to ZiS x t
 |.own id _ u c=>match t with
  |.sl w=>Ty.castL u w (ZS L id u c)
  |_=>none
 |_=>none
theorem ZLU{L:Lk}{t:Ty}{d:TD}{y:t.den}(h:d.toT L t=some y):Wk (d.er L) (.p (t.enc y)):=by
 cases d with
 |p x=>exact Wk.p (ZAi (show TP.to ZiS x t=some y from h))
 |own id nn u c=>
  cases t with
  |sl w=>
   obtain⟨e,h2⟩:=Zy (show Ty.castL u w (ZS L id u c)=some y from h)
   subst e;subst h2
   exact Wk.own_sl (PlsWk.refl _)
  |_=>cases h
 |_=>cases h
def ZNa(t:Ty):TD→Option t.den
 |.elem x=>TP.to ZiS x t
 |_=>none
theorem Wk.elem{x y:Pl}(h:PlWk x y):Wk (.elem x) (.elem y):=⟨rfl,rfl,λσ vs r=>by
 simp only[repD] at r ⊢;obtain⟨b,o,us,e,r1,r2⟩:=r;exact⟨b,o,us,e,h.rep _ _ _ r1,r2⟩⟩
theorem WkL.fn{f:yu}{ds es:List Dv}(h:WkL ds es):Wk (.fn f ds) (.fn f es):=⟨rfl,rfl,λσ vs r=>by
 simp only[repD] at r ⊢;obtain⟨fs,cs,e,e0,r⟩:=r;exact⟨fs,cs,e,e0,h.vs r⟩⟩
theorem WkL.sizes{ds es:List Dv}(h:WkL ds es)(s:Nat):(∀x,x∈ds→x.size=s)→∀x,x∈es→x.size=s:=by
 induction h with
 |nil=>intro _ x hx;cases hx
 |cons h k ih=>
  intro hh x hx;rcases List.mem_cons.1 hx with rfl|hx
  ·rw[←h.size];exact hh _ (List.mem_cons_self ..)
  ·exact ih (λy hy=>hh y (List.mem_cons_of_mem _ hy)) x hx
theorem WkL.arr{n s:Nat}{ds es:List Dv}(h:WkL ds es):Wk (.arr n s ds) (.arr n s es):=⟨rfl,rfl,λσ vs r=>by
 simp only[repD] at r ⊢;obtain⟨r1,r2,r3⟩:=r;have:=(WkL.agg h).rep σ vs (by simp only[repD];exact r3);simp only[repD] at this;exact⟨by rw[←h.len];exact r1,h.sizes s r2,this⟩⟩
theorem Wk.iface{t:yb}{x y:Dv}(h:Wk x y):Wk (.iface t x) (.iface t y):=⟨rfl,rfl,λσ vs r=>by
 simp only[repD] at r ⊢;obtain⟨v,e,r1,r2⟩:=r;refine⟨v,e,λha=> ?_,λha=>h.rep _ _ (r2 (by rw[h.agg];exact ha))⟩;obtain⟨cs,e1,e2⟩:=r1 (by rw[h.agg];exact ha);exact⟨cs,e1,h.rep _ _ e2⟩⟩
mutual
def Sh.mt(L:Lk):Sh→TD→Option (TD×List TV)
 |.v t,d=>(d.toT L t).map λy=>(.p (.v t y),[⟨t,y⟩])
 |.elem t,d=>(ZNa t d).map λy=>(.elem (.v t y),[⟨t,y⟩])
 |.nil t,d=>match d with
  |.p x=>if x.nilT t=true then some (.p (.sl (some false) t []),[]) else none
  |_=>none
 |.sl nn t,d=>match d with
  |.p (.sl (some b) u xs)=>if b=nn then(Ty.castL u t xs).map λy=>(.p (.sl (some nn) t y),[⟨.sl t,y⟩]) else none
  |_=>none
 |.own j t,d=>match d with
  |.own id _ u none=>if id=j∧u=t then some (.own j none t none,[]) else none
  |_=>none
 |.ref j p,d=>match d with
  |.ref id q=>if id=j∧Zkj p q=true then some (.ref j p,[]) else none
  |_=>none
 |.mp j,d=>match d with
  |.mp id=>if id=j then some (.mp j,[]) else none
  |_=>none
 |.rw j,d=>match d with
  |.rw id=>if id=j then some (.rw j,[]) else none
  |_=>none
 |.rp j s p,d=>match d with
  |.rp id (.ix i s'::q)=>if id=j∧s'=s∧Zkj p q=true then some (.rp j (.ix i s::p),[⟨.int .i64,(i:Int)⟩]) else none
  |_=>none
 |.view j p s lo n,d=>match d with
  |.view id q s' lo' n'=>if id=j∧Zkj p q=true∧s=s'∧lo=lo'∧n=n' then some (.view j p s lo n,[]) else none
  |_=>none
 |.rv j ver s lo n,d=>match d with
  |.rv id v' s' lo' n'=>if id=j∧ver=v'∧s=s'∧lo=lo'∧n=n' then some (.rv j ver s lo n,[]) else none
  |_=>none
 |.fn g l,d=>match d with
  |.fn f ds=>if f=g then(Sh.mts L l ds).map λq=>(.fn g q.1,q.2) else none
  |_=>none
 |.agg l,d=>match d with
  |.agg ds=>(Sh.mts L l ds).map λq=>(.agg q.1,q.2)
  |.p x=>match x.parts with
   |some xs=>(Sh.mts L l (xs.map TD.p)).map λq=>(.agg q.1,q.2)
   |none=>none
  |_=>none
 |.arr n s l,d=>match d with
  |.arr m s' ds=>if m=n∧s'=s then(Sh.mts L l ds).map λq=>(.arr n s q.1,q.2) else none
  |_=>none
 |.tup l,d=>match d with
  |.tup ds=>(Sh.mts L l ds).map λq=>(.tup q.1,q.2)
  |_=>none
 |.iface t x,d=>match d with
  |.iface u y=>if u=t then(Sh.mt L x y).map λq=>(.iface t q.1,q.2) else none
  |_=>none
 |.if2 t u x,d=>match d with
  |.iface w y=>if Nat.beq w t=true then(Sh.mt L x y).map λq=>(.iface t q.1,⟨.bool,true⟩::q.2) else if Nat.beq w u=true then(Sh.mt L x y).map λq=>(.iface u q.1,⟨.bool,false⟩::q.2) else none
  |_=>none
 |.ptr0,d=>match d with
  |.p .ptr0=>some (.p .ptr0,[])
  |_=>none
 |.fn0,d=>match d with
  |.p .fn0=>some (.p .fn0,[])
  |_=>none
 |.if0,d=>match d with
  |.p .if0=>some (.p .if0,[])
  |_=>none
 |.map0,d=>match d with
  |.p .map0=>some (.p .map0,[])
  |_=>none
 |.junk,d=>if(d.er L).size=1∧(d.er L).isAgg=false then some (.junk,[]) else none
def Sh.mts(L:Lk):List Sh→List TD→Option (List TD×List TV)
 |[],ds=>match ds with
  |[]=>some ([],[])
  |_=>none
 |s::r,ds=>match ds with
  |d::q=>match Sh.mt L s d,Sh.mts L r q with
   |some a,some b=>some (a.1::b.1,a.2++b.2)
   |_,_=>none
  |[]=>none
end
mutual
def Sh.fill:Sh→List TV→Option (TD×List TV)
 |.v t,vs=>match vs with
  |x::r=>(Ty.cast x.1 t x.2).map λy=>(.p (.v t y),r)
  |[]=>none
 |.elem t,vs=>match vs with
  |x::r=>(Ty.cast x.1 t x.2).map λy=>(.elem (.v t y),r)
  |[]=>none
 |.nil t,vs=>some (.p (.sl (some false) t []),vs)
 |.sl nn t,vs=>match vs with
  |x::r=>(Ty.cast x.1 (.sl t) x.2).map λ(y:List t.den)=>(.p (.sl (some nn) t y),r)
  |[]=>none
 |.own j t,vs=>some (.own j none t none,vs)
 |.ref j p,vs=>some (.ref j p,vs)
 |.mp j,vs=>some (.mp j,vs)
 |.rw j,vs=>some (.rw j,vs)
 |.rp j s p,vs=>match vs with
  |x::r=>(Ty.cast x.1 (.int .i64) x.2).map λ(i:Int)=>(.rp j (.ix i.toNat s::p),r)
  |[]=>none
 |.view j p s lo n,vs=>some (.view j p s lo n,vs)
 |.rv j ver s lo n,vs=>some (.rv j ver s lo n,vs)
 |.fn g l,vs=>(Sh.fills l vs).map λq=>(.fn g q.1,q.2)
 |.agg l,vs=>(Sh.fills l vs).map λq=>(.agg q.1,q.2)
 |.arr n s l,vs=>(Sh.fills l vs).map λq=>(.arr n s q.1,q.2)
 |.tup l,vs=>(Sh.fills l vs).map λq=>(.tup q.1,q.2)
 |.iface t x,vs=>(Sh.fill x vs).map λq=>(.iface t q.1,q.2)
 |.if2 t u x,vs=>match vs with
  |z::r=>(Ty.cast z.1 .bool z.2).bind λ(b:Bool)=>(Sh.fill x r).map λq=>(.iface (bif b then t else u) q.1,q.2)
  |[]=>none
 |.ptr0,vs=>some (.p .ptr0,vs)
 |.fn0,vs=>some (.p .fn0,vs)
 |.if0,vs=>some (.p .if0,vs)
 |.map0,vs=>some (.p .map0,vs)
 |.junk,vs=>some (.junk,vs)
def Sh.fills:List Sh→List TV→Option (List TD×List TV)
 |[],vs=>some ([],vs)
 |s::r,vs=>(Sh.fill s vs).bind λa=>(Sh.fills r a.2).map λb=>(a.1::b.1,b.2)
end
theorem Ya(t:Ty)(x:t.den):Ty.cast t t x=some x:=by
 unfold Ty.cast;split
 ·rfl
 ·rename_i h _;exact absurd rfl h
mutual
theorem ZeT{L:Lk}:∀(s:Sh)(d:TD)(q:TD×List TV),s.mt L d=some q→∀rest,s.fill (q.2++rest)=some (q.1,rest)
 |.v t,d,q,h,rest=>by
  simp only[Sh.mt] at h;obtain⟨y,_,rfl⟩:=Zc h
  simp[Sh.fill,Ya]
 |.elem t,d,q,h,rest=>by
  simp only[Sh.mt] at h;obtain⟨y,_,rfl⟩:=Zc h
  simp[Sh.fill,Ya]
 |.nil t,d,q,h,rest=>by
  simp only[Sh.mt] at h;split at h
  ·split at h <;> cases h;rfl
  ·cases h
 |.sl nn t,d,q,h,rest=>by
  simp only[Sh.mt] at h;split at h
  ·split at h
   ·obtain⟨w,h1,rfl⟩:=Zc h;exact congrArg (Option.map λ(y:List t.den)=>(TD.p (.sl (some nn) t y),rest)) (Ya (.sl t) w)
   ·cases h
  ·cases h
 |.own j t,d,q,h,rest=>by
  simp only[Sh.mt] at h;split at h
  ·split at h <;> cases h;rfl
  ·cases h
 |.ref j p,d,q,h,rest=>by
  simp only[Sh.mt] at h;split at h
  ·split at h <;> cases h;rfl
  ·cases h
 |.mp j,d,q,h,rest=>by
  simp only[Sh.mt] at h;split at h
  ·split at h <;> cases h;rfl
  ·cases h
 |.rw j,d,q,h,rest=>by
  simp only[Sh.mt] at h;split at h
  ·split at h <;> cases h;rfl
  ·cases h
 |.rp j s p,d,q,h,rest=>by
  simp only[Sh.mt] at h;split at h
  ·rename_i id i s' q';split at h
   ·cases h;exact congrArg (Option.map λ(i:Int)=>(TD.rp j (.ix i.toNat s::p),rest)) (Ya (.int .i64) (i:Int))
   ·cases h
  ·cases h
 |.view j p s lo n,d,q,h,rest=>by
  simp only[Sh.mt] at h;split at h
  ·split at h <;> cases h;rfl
  ·cases h
 |.rv j ver s lo n,d,q,h,rest=>by
  simp only[Sh.mt] at h;split at h
  ·split at h <;> cases h;rfl
  ·cases h
 |.fn g l,d,q,h,rest=>by
  simp only[Sh.mt] at h;split at h
  ·split at h
   ·obtain⟨w,h1,rfl⟩:=Zc h;simp only[Sh.fill,mts_fills l _ w h1 rest,yz]
   ·cases h
  ·cases h
 |.agg l,d,q,h,rest=>by
  simp only[Sh.mt] at h;split at h
  ·obtain⟨w,h1,rfl⟩:=Zc h;simp only[Sh.fill,mts_fills l _ w h1 rest,yz]
  ·split at h
   ·obtain⟨w,h1,rfl⟩:=Zc h;simp only[Sh.fill,mts_fills l _ w h1 rest,yz]
   ·cases h
  ·cases h
 |.arr n s l,d,q,h,rest=>by
  simp only[Sh.mt] at h;split at h
  ·split at h
   ·obtain⟨w,h1,rfl⟩:=Zc h;simp only[Sh.fill,mts_fills l _ w h1 rest,yz]
   ·cases h
  ·cases h
 |.tup l,d,q,h,rest=>by
  simp only[Sh.mt] at h;split at h
  ·obtain⟨w,h1,rfl⟩:=Zc h;simp only[Sh.fill,mts_fills l _ w h1 rest,yz]
  ·cases h
 |.iface t x,d,q,h,rest=>by
  simp only[Sh.mt] at h;split at h
  ·split at h
   ·obtain⟨w,h1,rfl⟩:=Zc h;simp only[Sh.fill,ZeT x _ w h1 rest,yz]
   ·cases h
  ·cases h
 |.if2 t u x,d,q,h,rest=>by
  simp only[Sh.mt] at h;split at h
  ·split at h
   ·obtain⟨w,h1,rfl⟩:=Zc h;simp only[Sh.fill,yaa,Ya,yf,ZeT x _ w h1 rest,yz];rfl
   ·split at h
    ·obtain⟨w,h1,rfl⟩:=Zc h;simp only[Sh.fill,yaa,Ya,yf,ZeT x _ w h1 rest,yz];rfl
    ·cases h
  ·cases h
 |.ptr0,d,q,h,rest=>by
  simp only[Sh.mt] at h
  split at h <;> cases h;rfl
 |.fn0,d,q,h,rest=>by
  simp only[Sh.mt] at h
  split at h <;> cases h;rfl
 |.if0,d,q,h,rest=>by
  simp only[Sh.mt] at h
  split at h <;> cases h;rfl
 |.map0,d,q,h,rest=>by
  simp only[Sh.mt] at h
  split at h <;> cases h;rfl
 |.junk,d,q,h,rest=>by
  simp only[Sh.mt] at h;split at h <;> cases h;rfl
theorem mts_fills{L:Lk}:∀(l:List Sh)(ds:List TD)(q:List TD×List TV),Sh.mts L l ds=some q→∀rest,Sh.fills l (q.2++rest)=some (q.1,rest)
 |[],ds,q,h,rest=>by
  simp only[Sh.mts] at h
  split at h <;> cases h;rfl
 |s::r,ds,q,h,rest=>by
  simp only[Sh.mts] at h;split at h
  ·split at h
   ·rename_i a b h1 h2;cases h;simp only[Sh.fills,yak,ZeT s _ a h1,yf,mts_fills r _ b h2,yz]
   ·cases h
  ·cases h
end
theorem ZHu(ys:List Pl):Wk (.p (.agg ys)) (.agg (ys.map .p)):=by
 have key:∀ys:List Pl,Dv.sizes (ys.map .p)=Pl.sizes ys:=by
  intro ys
  induction ys with
  |nil=>rfl
  |cons y r ih=>rw[yad,Dv.sizes,Pl.sizes,ih];rfl
 refine⟨?_,rfl,λσ vs r=> ?_⟩
 ·first|exact key ys|exact(key ys).symm
 ·simp only[repD,repC] at r ⊢;exact ZcA.2 r
mutual
theorem Znp{L M:Lk}(hL:∀id t,ZS L id t none=ZS M id t none):∀(s:Sh)(d:TD)(q:TD×List TV),s.mt L d=some q→Wk (d.er L) (q.1.er M)
 |.v t,d,q,h=>by
  simp only[Sh.mt] at h;obtain⟨y,h1,rfl⟩:=Zc h
  exact ZLU h1
 |.elem t,d,q,h=>by
  simp only[Sh.mt] at h;obtain⟨y,h1,rfl⟩:=Zc h;cases d <;> first|cases h1|skip
  exact Wk.elem (ZAi h1)
 |.nil t,d,q,h=>by
  simp only[Sh.mt] at h;split at h
  ·split at h
   ·rename_i hn;cases h;refine Wk.of_eq ?_;rw[TD.er,ZxU hn];rfl
   ·cases h
  ·cases h
 |.sl nn t,d,q,h=>by
  simp only[Sh.mt] at h;split at h
  ·split at h
   ·rename_i e;subst e;obtain⟨w,h1,rfl⟩:=Zc h;obtain⟨e,h2⟩:=Zy h1;subst e;subst h2;exact Wk.refl _
   ·cases h
  ·cases h
 |.own j t,d,q,h=>by
  simp only[Sh.mt] at h;split at h
  ·split at h
   ·rename_i e;obtain⟨rfl,rfl⟩:=e;cases h;rw[TD.er,TD.er,hL];exact Wk.own rfl
   ·cases h
  ·cases h
 |.ref j p,d,q,h=>by
  simp only[Sh.mt] at h;split at h
  ·split at h
   ·rename_i e;obtain⟨rfl,e⟩:=e;cases h;rw[ZdB e];exact Wk.refl _
   ·cases h
  ·cases h
 |.mp j,d,q,h=>by
  simp only[Sh.mt] at h;split at h
  ·split at h
   ·rename_i e;subst e;cases h;exact Wk.refl _
   ·cases h
  ·cases h
 |.rw j,d,q,h=>by
  simp only[Sh.mt] at h;split at h
  ·split at h
   ·rename_i e;subst e;cases h;refine Wk.of_eq ?_;rw[TD.er,TD.er];simp only[Zap,hL]
   ·cases h
  ·cases h
 |.rp j s p,d,q,h=>by
  simp only[Sh.mt] at h;split at h
  ·split at h
   ·rename_i e;obtain⟨rfl,rfl,e⟩:=e;cases h;rw[ZdB e];refine Wk.of_eq ?_;rw[TD.er,TD.er];simp only[Zap,hL]
   ·cases h
  ·cases h
 |.view j p s lo n,d,q,h=>by
  simp only[Sh.mt] at h;split at h
  ·split at h
   ·rename_i e;obtain⟨rfl,e,rfl,rfl,rfl⟩:=e;cases h;rw[ZdB e];exact Wk.refl _
   ·cases h
  ·cases h
 |.rv j ver s lo n,d,q,h=>by
  simp only[Sh.mt] at h;split at h
  ·split at h
   ·rename_i e;obtain⟨rfl,rfl,rfl,rfl,rfl⟩:=e;cases h;exact Wk.refl _
   ·cases h
  ·cases h
 |.fn g l,d,q,h=>by
  simp only[Sh.mt] at h;split at h
  ·split at h
   ·rename_i e;subst e;obtain⟨w,h1,rfl⟩:=Zc h;exact WkL.fn (mts_wk hL l _ w h1)
   ·cases h
  ·cases h
 |.agg l,d,q,h=>by
  simp only[Sh.mt] at h;split at h
  ·obtain⟨w,h1,rfl⟩:=Zc h;exact WkL.agg (mts_wk hL l _ w h1)
  ·split at h
   ·rename_i xs hp;obtain⟨w,h1,rfl⟩:=Zc h;have e:=ZsO hp;have k:=WkL.agg (mts_wk hL l _ w h1);rw[ZCx] at k;rw[TD.er,e];have k0:=ZHu (TP.pes xs);exact⟨k0.size.trans k.size,k0.agg.trans k.agg,λσ vs r=>k.rep σ vs (k0.rep σ vs r)⟩
   ·cases h
  ·cases h
 |.arr n s l,d,q,h=>by
  simp only[Sh.mt] at h;split at h
  ·split at h
   ·rename_i e;obtain⟨rfl,rfl⟩:=e;obtain⟨w,h1,rfl⟩:=Zc h;exact WkL.arr (mts_wk hL l _ w h1)
   ·cases h
  ·cases h
 |.tup l,d,q,h=>by
  simp only[Sh.mt] at h;split at h
  ·obtain⟨w,h1,rfl⟩:=Zc h;exact WkL.tup (mts_wk hL l _ w h1)
  ·cases h
 |.iface t x,d,q,h=>by
  simp only[Sh.mt] at h;split at h
  ·split at h
   ·rename_i e;subst e;obtain⟨w,h1,rfl⟩:=Zc h;exact Wk.iface (Znp hL x _ w h1)
   ·cases h
  ·cases h
 |.if2 t u x,d,q,h=>by
  simp only[Sh.mt] at h;split at h
  ·split at h
   ·rename_i e;have e:=Nat.eq_of_beq_eq_true e;subst e;obtain⟨w,h1,rfl⟩:=Zc h;exact Wk.iface (Znp hL x _ w h1)
   ·split at h
    ·rename_i e;have e:=Nat.eq_of_beq_eq_true e;subst e;obtain⟨w,h1,rfl⟩:=Zc h;exact Wk.iface (Znp hL x _ w h1)
    ·cases h
  ·cases h
 |.ptr0,d,q,h=>by
  simp only[Sh.mt] at h
  split at h <;> cases h;exact Wk.refl _
 |.fn0,d,q,h=>by
  simp only[Sh.mt] at h
  split at h <;> cases h;exact Wk.refl _
 |.if0,d,q,h=>by
  simp only[Sh.mt] at h
  split at h <;> cases h;exact Wk.refl _
 |.map0,d,q,h=>by
  simp only[Sh.mt] at h
  split at h <;> cases h;exact Wk.refl _
 |.junk,d,q,h=>by
  simp only[Sh.mt] at h;split at h
  ·rename_i e;cases h;exact Wk.junk e.2 e.1
  ·cases h
theorem mts_wk{L M:Lk}(hL:∀id t,ZS L id t none=ZS M id t none):∀(l:List Sh)(ds:List TD)(q:List TD×List TV),Sh.mts L l ds=some q→WkL (TD.ers L ds) (TD.ers M q.1)
 |[],ds,q,h=>by
  simp only[Sh.mts] at h
  split at h <;> cases h;exact .nil
 |s::r,ds,q,h=>by
  simp only[Sh.mts] at h;split at h
  ·split at h
   ·rename_i a b h1 h2;cases h;exact .cons (Znp hL s _ a h1) (mts_wk hL r _ b h2)
   ·cases h
  ·cases h
end
inductive ESh where
 |var (s:Sh) (st:Bool)
 |log (t:Ty) (e:yb)
 |map (tid:yb) (k v:Ty)
 |row (t:Ty) (st:Bool) (e:yb)
 |rowN (t:Ty) (np:List Nat) (st:Bool) (e:yb)
 |rowM (t:Ty) (np:List Nat) (st:Bool) (e:yb) (s:Sh)
 |rowD (ver s:Nat) (st:Bool) (e:yb) (n:Nat) (l:List Sh)
 |gone
def V6(k v:Ty):Ty:=.sl (.st [k,v])
def ZLV(L:Lk)(t:Ty)(d:TD):Option t.den:=(d.flat L).bind λx=>TP.to ZiS x t
theorem ZEi{L:Lk}{t:Ty}{d:TD}{y:t.den}(h:ZLV L t d=some y):Wk (d.er L) (.p (t.enc y)):=by
 obtain⟨x,h1,h2⟩:=yc.1 h;have hf:(d.er L).flat=some x.pe:=by rw[Znb,h1];rfl
 have hw:Wk (d.er L) (.p x.pe):=⟨(Zkc _ _ hf).symm,(Zsb hf).symm,λσ vs r=>by simp only[repD];exact Zf2 _ _ _ hf r⟩;have hz:=ZAi h2;exact⟨hw.size.trans hz.size,hw.agg.trans hz.agg,λσ vs r=>(Wk.p hz).rep σ vs (hw.rep σ vs r)⟩
def ESh.mt(L:Lk):ESh→TEnt→Option (TEnt×List TV)
 |.var s st,.var d st'=>if st=st'∨st=false then(s.mt L d).map λq=>(.var q.1 st,q.2) else none
 |.log t e,.log u e' xs=>if e=e' then(Ty.castL u t xs).map λys=>(.log t e ys,[⟨.sl t,ys⟩]) else none
 |.map tid k v,.map tid' k' v' l=>if tid=tid' then(Ty.cast (V6 k' v') (V6 k v) l).map λ(m:List (k.den×v.den))=>(.map tid k v m,[⟨V6 k v,m⟩]) else none
 |.row t st e,.rowT u v st' e' xs=>if(st=st'∨st=false)∧e=e' then(Ty.castL u t xs).map λys=>(.rowT t v st e ys,[⟨.sl (.st []),v⟩,⟨.sl t,ys⟩]) else none
 |.rowN t np st e,.rowN u np' v st' e' pre post=>if(st=st'∨st=false)∧e=e'∧np=np' then(Ty.castL u t pre).bind λys=>(Ty.castL u t post).map λzs=>
   (.rowN t np v st e ys zs,[⟨.sl (.st []),v⟩,⟨.sl t,ys⟩,⟨.sl t,zs⟩]) else none
 |.rowN t np st e,.rowM u np' v st' e' pre mid post=>if st=st'∧e=e'∧np=np' then(Ty.castL u t pre).bind λys=>(Ty.castL u t post).bind λzs=>(ZLV L t mid).map λy=>
   (.rowN t np v st e (ys++[y]) zs,[⟨.sl (.st []),v⟩,⟨.sl t,ys++[y]⟩,⟨.sl t,zs⟩]) else none
 |.rowM t np st e s,.rowM u np' v st' e' pre mid post=>if st=st'∧e=e'∧np=np' then(Ty.castL u t pre).bind λys=>(Ty.castL u t post).bind λzs=>(s.mt L mid).map λq=>
   (.rowM t np v st e ys q.1 zs,[⟨.sl (.st []),v⟩,⟨.sl t,ys⟩,⟨.sl t,zs⟩]++q.2) else none
 |.rowD ver s st e n l,.row v' s' st' e' (.arr n' s2 ds)=>if ver=v'∧s=s'∧st=st'∧e=e'∧n=n'∧s=s2 then(Sh.mts L l ds).map λq=>(.row ver s st e (.arr n s q.1),q.2) else none
 |.gone,.gone=>some (.gone,[])
 |_,_=>none
def ESh.fill:ESh→List TV→Option (TEnt×List TV)
 |.var s st,vs=>(s.fill vs).map λq=>(.var q.1 st,q.2)
 |.log t e,vs=>match vs with
  |x::r=>(Ty.cast x.1 (.sl t) x.2).map λ(y:List t.den)=>(.log t e y,r)
  |[]=>none
 |.map tid k v,vs=>match vs with
  |x::r=>(Ty.cast x.1 (V6 k v) x.2).map λ(y:List (k.den×v.den))=>(.map tid k v y,r)
  |[]=>none
 |.row t st e,vs=>match vs with
  |x::y::r=>(Ty.cast x.1 (.sl (.st [])) x.2).bind λ(v:List Unit)=>(Ty.cast y.1 (.sl t) y.2).map λ(l:List t.den)=>(.rowT t v st e l,r)
  |_=>none
 |.rowN t np st e,vs=>match vs with
  |x::y::z::r=>(Ty.cast x.1 (.sl (.st [])) x.2).bind λ(v:List Unit)=>(Ty.cast y.1 (.sl t) y.2).bind λ(l:List t.den)=>(Ty.cast z.1 (.sl t) z.2).bind λ(m:List t.den)=>some (.rowN t np v st e l m,r)
  |_=>none
 |.rowM t np st e s,vs=>match vs with
  |x::y::z::r=>(Ty.cast x.1 (.sl (.st [])) x.2).bind λ(v:List Unit)=>(Ty.cast y.1 (.sl t) y.2).bind λ(l:List t.den)=>(Ty.cast z.1 (.sl t) z.2).bind λ(m:List t.den)=>
   (s.fill r).map λq=>(.rowM t np v st e l q.1 m,q.2)
  |_=>none
 |.rowD ver s st e n l,vs=>(Sh.fills l vs).map λq=>(.row ver s st e (.arr n s q.1),q.2)
 |.gone,vs=>some (.gone,vs)
def ESh.mts(L:Lk):List ESh→List TEnt→Option (List TEnt×List TV)
 |[],[]=>some ([],[])
 |s::r,d::q=>match ESh.mt L s d,ESh.mts L r q with
  |some a,some b=>some (a.1::b.1,a.2++b.2)
  |_,_=>none
 |_,_=>none
def ESh.fills:List ESh→List TV→Option (List TEnt×List TV)
 |[],vs=>some ([],vs)
 |s::r,vs=>(ESh.fill s vs).bind λa=>(ESh.fills r a.2).map λb=>(a.1::b.1,b.2)
theorem ZHv{O:Type}{t:Ty}(v:List Unit)(a b:List t.den)(k:List Unit→List t.den→List t.den→Option O):
 ((Ty.cast (.sl (.st [])) (.sl (.st [])) v).bind λ(v:List Unit)=>(Ty.cast (.sl t) (.sl t) a).bind λ(l:List t.den)=>(Ty.cast (.sl t) (.sl t) b).bind λ(m:List t.den)=>k v l m)=k v a b:=by
 have e1:=Ya (.sl (.st [])) v;have e2:=Ya (.sl t) a;have e3:=Ya (.sl t) b;rw[e1,e2,e3];rfl
theorem ZHw{L:Lk}{s:ESh}{d:TEnt}{q:TEnt×List TV}(h:s.mt L d=some q)(rest:List TV):s.fill (q.2++rest)=some (q.1,rest):=by
 unfold ESh.mt at h;split at h
 ·split at h
  ·obtain⟨w,h1,rfl⟩:=Zc h;simp only[ESh.fill,ZeT _ _ w h1 rest,yz]
  ·cases h
 ·split at h
  ·obtain⟨w,h1,rfl⟩:=Zc h;rename_i t e _ _ _ _;exact congrArg (Option.map λ(y:List t.den)=>(TEnt.log t e y,rest)) (Ya (.sl t) w)
  ·cases h
 ·split at h
  ·obtain⟨w,h1,rfl⟩:=Zc h;rename_i tid k v _ _ _ _ _;exact congrArg (Option.map λ(y:List (k.den×v.den))=>(TEnt.map tid k v y,rest)) (Ya (V6 k v) w)
  ·cases h
 ·split at h
  ·obtain⟨w,h1,rfl⟩:=Zc h;rename_i t st e _ v _ _ _ _;have e1:=Ya (.sl (.st [])) v;have e2:=Ya (.sl t) w;show((Ty.cast (.sl (.st [])) (.sl (.st [])) v).bind λ(v:List Unit)=>(Ty.cast (.sl t) (.sl t) w).map λ(l:List t.den)=>(TEnt.rowT t v st e l,rest))=_;rw[e1,e2];rfl
  ·cases h
 ·rename_i t np st e u np' v st' e' pre post;split at h
  ·obtain⟨a,h1,h⟩:=yc.1 h;obtain⟨b,h2,rfl⟩:=Zc h;exact ZHv v a b (λv l m=>some (TEnt.rowN t np v st e l m,rest))
  ·cases h
 ·rename_i t np st e u np' v st' e' pre mid post;split at h
  ·obtain⟨a,h1,h⟩:=yc.1 h;obtain⟨b,h2,h⟩:=yc.1 h;obtain⟨c,h3,rfl⟩:=Zc h;exact ZHv v (a++[c]) b (λv l m=>some (TEnt.rowN t np v st e l m,rest))
  ·cases h
 ·rename_i t np st e s u np' v st' e' pre mid post;split at h
  ·obtain⟨a,h1,h⟩:=yc.1 h;obtain⟨b,h2,h⟩:=yc.1 h;obtain⟨c,h3,rfl⟩:=Zc h;have:=ZHv v a b (λv l m=>(s.fill (c.2++rest)).map λq=>(TEnt.rowM t np v st e l q.1 m,q.2));refine this.trans ?_;rw[ZeT _ _ c h3 rest];rfl
  ·cases h
 ·split at h
  ·obtain⟨w,h1,rfl⟩:=Zc h;simp only[ESh.fill,mts_fills _ _ w h1 rest,yz]
  ·cases h
 ·cases h;rfl
 ·cases h
theorem V7{L:Lk}:∀{l:List ESh}{H:List TEnt}{q:List TEnt×List TV},ESh.mts L l H=some q→∀rest,ESh.fills l (q.2++rest)=some (q.1,rest)
 |[],[],q,h,rest=>by cases h;rfl
 |[],_::_,q,h,rest=>by cases h
 |_::_,[],q,h,rest=>by cases h
 |s::r,d::H,q,h,rest=>by
  simp only[ESh.mts] at h;split at h
  ·rename_i a b h1 h2;cases h;simp only[ESh.fills,yak,ZHw h1,yf,V7 h2,yz]
  ·cases h
theorem ZLW{L:Lk}{s:ESh}{d:TEnt}{q:TEnt×List TV}(h:s.mt L d=some q):lkE (some q.1)=lkE (some d):=by
 unfold ESh.mt at h;split at h
 ·split at h
  ·obtain⟨w,h1,rfl⟩:=Zc h;rfl
  ·cases h
 ·split at h
  ·obtain⟨w,h1,rfl⟩:=Zc h;obtain⟨e,h2⟩:=Zy h1;subst e;subst h2;rfl
  ·cases h
 ·split at h
  ·obtain⟨w,h1,rfl⟩:=Zc h;rfl
  ·cases h
 ·split at h
  ·obtain⟨w,h1,rfl⟩:=Zc h;obtain⟨e,h2⟩:=Zy h1;subst e;subst h2;rfl
  ·cases h
 ·split at h
  ·obtain⟨a,h1,h⟩:=yc.1 h;obtain⟨b,h2,rfl⟩:=Zc h;obtain⟨e,h3⟩:=Zy h1;subst e;obtain⟨_,h4⟩:=Zy h2;subst h3;subst h4;rfl
  ·cases h
 ·split at h
  ·obtain⟨a,h1,h⟩:=yc.1 h;obtain⟨b,h2,h⟩:=yc.1 h;obtain⟨c,h3,rfl⟩:=Zc h;obtain⟨e,h4⟩:=Zy h1;subst e;obtain⟨_,h5⟩:=Zy h2;subst h4;subst h5;simp only[lkE,yr,yai,ych];rw[Nat.add_assoc,Nat.add_comm (0+1)]
  ·cases h
 ·split at h
  ·obtain⟨a,h1,h⟩:=yc.1 h;obtain⟨b,h2,h⟩:=yc.1 h;obtain⟨c,h3,rfl⟩:=Zc h;obtain⟨e,h4⟩:=Zy h1;subst e;obtain⟨_,h5⟩:=Zy h2;subst h4;subst h5;rfl
  ·cases h
 ·split at h
  ·obtain⟨w,h1,rfl⟩:=Zc h;rfl
  ·cases h
 ·cases h;rfl
 ·cases h
theorem Zgc{L:Lk}:∀{l:List ESh}{H:List TEnt}{q:List TEnt×List TV},ESh.mts L l H=some q→q.1.length=H.length∧lk q.1=lk H
 |[],[],q,h=>by cases h;exact⟨rfl,rfl⟩
 |[],_::_,q,h=>by cases h
 |_::_,[],q,h=>by cases h
 |s::r,d::H,q,h=>by
  simp only[ESh.mts] at h;split at h
  ·rename_i a b h1 h2;cases h;obtain⟨e1,e2⟩:=Zgc h2;refine⟨by simp[e1],funext λi=> ?_⟩
   cases i with
   |zero=>exact ZLW h1
   |succ i=>exact congrFun e2 i
  ·cases h
theorem ZEj:∀(l:List Dv){m m':List Dv},WkL m m'→WkL (l++m) (l++m')
 |[],_,_,h=>h
 |x::l,_,_,h=>.cons (Wk.refl x) (ZEj l h)
theorem ZEk{l m:List Dv}{d d':Dv}(h:Wk d d'):WkL (l++d::m) (l++d'::m):=ZEj l (.cons h (WkL.refl m))
theorem ZHx{n s:Nat}(xs:List Pl):Wk (.arr n s (xs.map .p)) (.p (.arr n s xs)):=⟨rfl,rfl,λσ vs r=>by
 simp only[repD,repC] at r ⊢;obtain⟨h1,h2,h3⟩:=r;exact⟨by simpa using h1,λx hx=>h2 (.p x) (List.mem_map_of_mem hx),ZcA.1 h3⟩⟩
theorem ZLX{n s:Nat}{d:Dv}{x:Pl}(l m:List Pl)(h:Wk d (.p x)):Wk (.arr n s (l.map .p++d::m.map .p)) (.p (.arr n s (l++x::m))):=by
 have h1:Wk (.arr n s (l.map .p++d::m.map .p)) (.arr n s (l.map .p++.p x::m.map .p)):=WkL.arr (ZEk h);have h2:=ZHx (n:=n) (s:=s) (l++x::m);rw[yaj,yad] at h2;exact⟨rfl,rfl,λσ vs r=>h2.rep σ vs (h1.rep σ vs r)⟩
theorem ZEl{L M:Lk}{t:Ty}{np:List Nat}{v:List Unit}{st:Bool}{e:yb}{a b:List t.den}{mid:TD}{c:t.den}(hw:Wk (mid.er L) (.p (t.enc c))):
 WkE ((TEnt.rowM t np v st e a mid b).er L) ((TEnt.rowN t np v st e (a++[c]) b).er M):=by
 have h:=ZLX (a.map t.enc) (b.map λx=>(YS np (.v t x)).pe) (n:=a.length+(b.length+1)) (s:=t.size) hw;rw[yaw,yaw] at h;have e1:(a++[c]).length+b.length=a.length+(b.length+1):=by rw[yr,yai,ych];omega
 have e2:(a++[c]).map t.enc++(b.map λx=>(YS np (.v t x)).pe)=a.map t.enc++t.enc c::b.map λx=>(YS np (.v t x)).pe:=by rw[yaj,yak];rfl
 rw[TEnt.er,TEnt.er,e1,e2];exact .row ⟨h,rfl⟩
theorem ZLY{L M:Lk}(hL:∀id t,ZS L id t none=ZS M id t none){s:ESh}{d:TEnt}{q:TEnt×List TV}(h:s.mt L d=some q):WkE (d.er L) (q.1.er M):=by
 unfold ESh.mt at h;split at h
 ·split at h
  ·rename_i e;obtain⟨w,h1,rfl⟩:=Zc h;rcases e with e|e
   ·subst e;exact .var (Znp hL _ _ w h1)
   ·subst e;exact .varz (Znp hL _ _ w h1)
  ·cases h
 ·split at h
  ·rename_i e;subst e;obtain⟨w,h1,rfl⟩:=Zc h;obtain⟨e,h2⟩:=Zy h1;subst e;subst h2;exact .refl _
  ·cases h
 ·split at h
  ·rename_i e;subst e;obtain⟨w,h1,rfl⟩:=Zc h;obtain⟨e,h2⟩:=WD h1;unfold V6 at e;simp only[Ty.sl.injEq,Ty.st.injEq,List.cons.injEq,and_true] at e;obtain⟨e1,e2⟩:=e;subst e1;subst e2;subst h2;exact .refl _
  ·cases h
 ·split at h
  ·rename_i e;obtain⟨e0,e1⟩:=e;subst e1;obtain⟨w,h1,rfl⟩:=Zc h;obtain⟨e,h2⟩:=Zy h1;subst e;subst h2;rcases e0 with e0|e0
   ·subst e0;exact .refl _
   ·subst e0;exact .lock
  ·cases h
 ·split at h
  ·rename_i e;obtain⟨e0,e1,e2⟩:=e;subst e1;subst e2;obtain⟨a,h1,h⟩:=yc.1 h;obtain⟨b,h2,rfl⟩:=Zc h;obtain⟨e,h3⟩:=Zy h1;subst e;obtain⟨_,h4⟩:=Zy h2;subst h3;subst h4;rcases e0 with e0|e0
   ·subst e0;exact .refl _
   ·subst e0;exact .lock
  ·cases h
 ·rename_i _ _ _ _ _ _ _ _ _ pre mid post;split at h
  ·rename_i e;obtain⟨e0,e1,e2⟩:=e;subst e0;subst e1;subst e2;obtain⟨a,h1,h⟩:=yc.1 h;obtain⟨b,h2,h⟩:=yc.1 h;obtain⟨c,h3,rfl⟩:=Zc h;obtain⟨e,h4⟩:=Zy h1;subst e;obtain⟨_,h5⟩:=Zy h2;subst h4;subst h5;exact ZEl (ZEi h3)
  ·cases h
 ·split at h
  ·rename_i e;obtain⟨e0,e1,e2⟩:=e;subst e0;subst e1;subst e2;obtain⟨a,h1,h⟩:=yc.1 h;obtain⟨b,h2,h⟩:=yc.1 h;obtain⟨c,h3,rfl⟩:=Zc h;obtain⟨e,h4⟩:=Zy h1;subst e;obtain⟨_,h5⟩:=Zy h2;subst h4;subst h5;rw[TEnt.er,TEnt.er];exact .row ⟨WkL.arr (ZEk (Znp hL _ _ c h3)),rfl⟩
  ·cases h
 ·split at h
  ·rename_i e;obtain⟨rfl,rfl,rfl,rfl,rfl,rfl⟩:=e;obtain⟨w,h1,rfl⟩:=Zc h;rw[TEnt.er,TEnt.er,TD.er,TD.er];exact .row ⟨WkL.arr (mts_wk hL _ _ w h1),rfl⟩
  ·cases h
 ·cases h;exact .refl _
 ·cases h
theorem Zkk{L M:Lk}(hL:∀id t,ZS L id t none=ZS M id t none):∀{l:List ESh}{H:List TEnt}{q:List TEnt×List TV},ESh.mts L l H=some q→WkH (H.map (TEnt.er L)) (q.1.map (TEnt.er M))
 |[],[],q,h=>by cases h;exact .nil
 |[],_::_,q,h=>by cases h
 |_::_,[],q,h=>by cases h
 |s::r,d::H,q,h=>by
  simp only[ESh.mts] at h;split at h
  ·rename_i a b h1 h2;cases h;exact .cons (ZLY hL h1) (Zkk hL h2)
  ·cases h
def ofD:(ts:List Ty)→Ty.dens ts→List TV
 |[],_=>[]
 |[t],x=>[⟨t,x⟩]
 |t::u::r,x=>⟨t,x.1⟩::ofD (u::r) x.2
def toD:(ts:List Ty)→List TV→Option (Ty.dens ts)
 |[],[]=>some ()
 |[t],[x]=>Ty.cast x.1 t x.2
 |t::u::r,x::l=>ZkZ (Ty.cast x.1 t x.2) (toD (u::r) l)
 |_,_=>none
theorem QR:∀(ts:List Ty)(l:List TV)(x:Ty.dens ts),toD ts l=some x→ofD ts x=l
 |[],[],x,h=>rfl
 |[],_::_,x,h=>by cases h
 |[t],[],x,h=>by cases h
 |[t],[y],x,h=>by
  obtain⟨e,h2⟩:=WD (show Ty.cast y.1 t y.2=some x from h)
  obtain⟨u,y⟩:=y;dsimp only at e h2;subst e;subst h2
  rfl
 |[t],_::_::_,x,h=>by cases h
 |t::u::r,[],x,h=>by cases h
 |t::u::r,y::l,x,h=>by
  obtain⟨h1,h2⟩:=WZ (α:=t.den) (β:=Ty.dens (u::r)) (show ZkZ (Ty.cast y.1 t y.2) (toD (u::r) l)=some x from h)
  obtain⟨e,h3⟩:=WD h1;obtain⟨u',y⟩:=y;dsimp only at e h3;subst e;have:=QR (u::r) l x.2 h2;show(⟨u',x.1⟩:TV)::ofD (u::r) x.2=_;rw[this,h3]
abbrev Slots:=List (Nat×Sh)
def shs(sl:Slots)(n:Nat):List Sh:=(yq n).map λi=>(sl.lookup i).getD .junk
def W0(n:Nat)(sl:Slots)(es:List ESh)(vs:List TV):Option (List TD×List TEnt):=
 (Sh.fills (shs sl n) vs).bind λq=>(ESh.fills es q.2).bind λw=>if w.2.isEmpty then some (q.1,w.1) else none
theorem Zkl:∀{l:List Sh}{vs:List TV}{q:List TD×List TV},Sh.fills l vs=some q→q.1.length=l.length
 |[],vs,q,h=>by simp only[Sh.fills] at h;cases h;rfl
 |s::r,vs,q,h=>by
  simp only[Sh.fills] at h;obtain⟨a,h1,h⟩:=yc.1 h;obtain⟨b,h2,rfl⟩:=Zc h;simp[Zkl h2]
theorem Zkm{n:Nat}{sl:Slots}{es:List ESh}{vs:List TV}{q:List TD×List TEnt}(h:W0 n sl es vs=some q):q.1.length=n:=by
 unfold W0 at h;obtain⟨a,h1,h⟩:=yc.1 h;obtain⟨b,h2,h⟩:=yc.1 h;split at h
 ·cases h;rw[Zkl h1];simp[shs]
 ·cases h
structure XSh where
 ex:Ex
 sl:Slots
 es:List ESh
 ty:List Ty
def XSh.sum:List XSh→Type
 |[]=>Empty
 |[e]=>Ty.dens e.ty
 |e::f::r=>Ty.dens e.ty⊕XSh.sum (f::r)
abbrev Kc(O:Type):=Ex→List TD→List TEnt→Option O
def xT{O:Type}(n:Nat):(l:List XSh)→XSh.sum l→Kc O→Option O
 |[],_,_=>none
 |[e],o,K=>(W0 n e.sl e.es (ofD e.ty o)).bind λs=>K e.ex s.1 s.2
 |e::f::r,o,K=>match (o:Ty.dens e.ty⊕XSh.sum (f::r)) with
  |.inl o=>(W0 n e.sl e.es (ofD e.ty o)).bind λs=>K e.ex s.1 s.2
  |.inr o=>xT n (f::r) o K
def ZAL:(l:List XSh)→XSh.sum l→XSh→List TV→Prop
 |[],_,_,_=>False
 |[e],o,x,vs=>x=e∧vs=ofD e.ty o
 |e::f::r,o,x,vs=>match (o:Ty.dens e.ty⊕XSh.sum (f::r)) with
  |.inl o=>x=e∧vs=ofD e.ty o
  |.inr o=>ZAL (f::r) o x vs
theorem Znq{O:Type}{n:Nat}{K:Kc O}{out:O}:∀{l:List XSh}{o:XSh.sum l},xT n l o K=some out→∃e vs s,ZAL l o e vs∧W0 n e.sl e.es vs=some s∧K e.ex s.1 s.2=some out
 |[],_,h=>by cases h
 |[e],o,h=>by
  obtain⟨s,h1,h2⟩:=yc.1 (show(W0 n e.sl e.es (ofD e.ty o)).bind (λs=>K e.ex s.1 s.2)=some out from h)
  exact⟨e,_,s,⟨rfl,rfl⟩,h1,h2⟩
 |e::f::r,.inl o,h=>by
  obtain⟨s,h1,h2⟩:=yc.1 (show(W0 n e.sl e.es (ofD e.ty o)).bind (λs=>K e.ex s.1 s.2)=some out from h)
  exact⟨e,_,s,⟨rfl,rfl⟩,h1,h2⟩
 |e::f::r,.inr o,h=>by
  obtain⟨e',vs,s,h1,h2,h3⟩:=Znq (l:=f::r) (o:=o) h;exact⟨e',vs,s,h1,h2,h3⟩
theorem ZCR{A B:List Ent}(hl:A.length=B.length)(h:∀(i:Nat)(a b:Ent),A[i]? =some a→B[i]? =some b→WkE a b):WkH A B:=by
 induction A generalizing B with
 |nil=>cases B with
  |nil=>exact .nil
  |cons _ _=>simp at hl
 |cons a A ih=>cases B with
  |nil=>simp at hl
  |cons b B=>exact .cons (h 0 a b rfl rfl) (ih (by simpa using hl) λi a b h1 h2=>h (i+1) a b h1 h2)
def Ty.mkFs(f:(T:Ty)→TD→Option T.den):(fs:List Ty)→List TD→Option (Ty.dens fs)
 |[],[]=>some ()
 |[t],[d]=>f t d
 |t::u::r,d::ds=>ZkZ (f t d) (Ty.mkFs f (u::r) ds)
 |_,_=>none
def mkL{T:Ty}(f:TD→Option T.den):List TD→Option (List T.den)
 |[]=>some []
 |d::r=>(ZkZ (f d) (mkL f r)).map λq=>q.1::q.2
def ZHy(H:List TEnt)(id:Nat)(u:Ty):Option (List u.den):=
 match H[id]? with
 |some (.rowT u' v false e l)=>Ty.castL u' u l
 |_=>none
theorem ZHz{H:List TEnt}{id:Nat}{u:Ty}{l:List u.den}(h:ZHy H id u=some l):DeepR (erH H) ((TD.rw id).er (lk H)) ((Ty.sl u).enc l):=by
 unfold ZHy at h;split at h
 ·rename_i u' v e l' hd;obtain⟨e1,h⟩:=Zy h;subst e1;subst h;have hE:(erH H)[id]? =some (.row v.length u'.size false e (.p (.arr l.length u'.size (l.map u'.enc)))):=ZF hd;have:=DeepR.rvp (lo:=0) (n:=l.length) hE (by omega);rw[(Qq hd).1,Zxy];rw[List.drop_zero, ←yx (f:=u'.enc),yay,yx] at this;exact this
 ·cases h
def ZwA(H:List TEnt):Nat→(T:Ty)→TD→Option T.den
 |0,_,_=>none
 |n+1,T,d=>match d with
  |.p x=>TP.to ZiS x T
  |.own id nn t c=>ZGV true t (ZS (lk H) id t c) T
  |.agg ds=>ZGW (λfs=>Ty.mkFs (ZwA H n) fs ds) T
  |.rw id=>match T with
   |.sl u=>ZHy H id u
   |_=>none
  |.rv id v s lo k=>match T with
   |.sl u=>match H[id]? with
    |some (.row w s' false e d)=>if(w==v&&s'==s&&s==u.size)=true then match d with
      |.p x=>x.arow.bind λr=>(Ty.castL r.t u r.l).bind λl=>if decide (lo+k≤r.n)=true then some ((l.drop lo).take k) else none
      |.arr N s2 ds=>if(s2==s&&decide (lo+k≤N))=true then(mkL (ZwA H n u) ds).map λ(l:List u.den)=>(l.drop lo).take k else none
      |_=>none
     else none
    |_=>none
   |_=>none
  |.view id [] s lo k=>match T with
   |.sl u=>match H[id]? with
    |some (.var (.p x) false)=>if(s==u.size)=true then x.arow.bind λr=>(Ty.castL r.t u r.l).bind λl=>if decide (lo+k≤r.n)=true then some ((l.drop lo).take k) else none else none
    |_=>none
   |_=>none
  |_=>none
theorem ZEm{H:List Ent}{L:Lk}{f:(T:Ty)→TD→Option T.den}(hf:∀T d y,f T d=some y→DeepR H (d.er L) (T.enc y)):∀(fs:List Ty)(ds:List TD)(y:Ty.dens fs),Ty.mkFs f fs ds=some y→
 (TD.ers L ds).length=(Ty.encs fs y).length∧∀(i:Nat)(d:Dv)(z:Pl),(TD.ers L ds)[i]? =some d→(Ty.encs fs y)[i]? =some z→DeepR H d z
 |[],[],y,h=>⟨rfl,λi d z h1 _=>by simp[TD.ers] at h1⟩
 |[],_::_,y,h=>by cases h
 |[t],[],y,h=>by cases h
 |[t],[d],y,h=>by
  refine⟨rfl,λi d' z h1 h2=> ?_⟩
  cases i with
  |zero=>cases h1;cases h2;exact hf t d y h
  |succ i=>simp[TD.ers] at h1
 |[t],_::_::_,y,h=>by cases h
 |t::u::r,[],y,h=>by cases h
 |t::u::r,d::ds,y,h=>by
  obtain⟨h1,h2⟩:=WZ (α:=t.den) (β:=Ty.dens (u::r)) h;obtain⟨h3,h4⟩:=ZEm hf (u::r) ds y.2 h2;refine⟨by rw[TD.ers,Ty.encs,yai,yai,h3],λi d' z k1 k2=> ?_⟩
  cases i with
  |zero=>cases k1;cases k2;exact hf t d y.1 h1
  |succ i=>exact h4 i d' z k1 k2
theorem ZHA{H:List Ent}{L:Lk}{T:Ty}{f:TD→Option T.den}(hf:∀d y,f d=some y→DeepR H (d.er L) (T.enc y)):∀(ds:List TD)(l:List T.den),mkL f ds=some l→
 (TD.ers L ds).length=(l.map T.enc).length∧∀(i:Nat)(d:Dv)(z:Pl),(TD.ers L ds)[i]? =some d→(l.map T.enc)[i]? =some z→DeepR H d z
 |[],l,h=>by cases h;exact⟨rfl,λi d z h1 _=>by simp[TD.ers] at h1⟩
 |d::ds,l,h=>by
  obtain⟨q,h1,rfl⟩:=Zc h;obtain⟨h1,h2⟩:=WZ h1;obtain⟨h3,h4⟩:=ZHA hf ds q.2 h2;refine⟨by rw[TD.ers,yad,yai,yai,h3],λi d' z k1 k2=> ?_⟩
  cases i with
  |zero=>cases k1;cases k2;exact hf d q.1 h1
  |succ i=>exact h4 i d' z k1 k2
theorem Znr{H:List TEnt}:∀(n:Nat)(T:Ty)(d:TD)(y:T.den),ZwA H n T d=some y→DeepR (erH H) (d.er (lk H)) (T.enc y)
 |0,_,_,_,h=>by cases h
 |n+1,T,d,y,h=>by
  unfold ZwA at h;split at h
  ·exact .wk (.p _) (ZAi h)
  ·rename_i id nn t c;obtain⟨l,_,e1,rfl⟩:=ZoZ (nn:=none) h;rw[e1,TD.er];exact .wk (.own id nn t.size _) (PlWk.sl_mk (PlsWk.refl _))
  ·rename_i ds;obtain⟨fs,z,h1,e1⟩:=Zo0 h;rw[e1,TD.er];obtain⟨h2,h3⟩:=ZEm (λT d y=>Znr n T d y) fs ds z h1;exact .agg h2 h3
  ·rename_i id
   cases T with
   |sl u=>exact ZHz h
   |_=>cases h
  ·rename_i id v s lo k;split at h
   ·rename_i u;split at h
    ·rename_i w s' e dd hd;obtain⟨hk,g⟩:=Za h;clear h;simp only[yi,beq_iff_eq] at hk;obtain⟨⟨hk1,hk2⟩,hk3⟩:=hk;have hE:=ZF hd;rw[hk1,hk2,hk3] at hE;split at g
     ·rename_i x;obtain⟨r,p1,g1⟩:=yc.1 g;obtain⟨l,p2,g2⟩:=yc.1 g1;obtain⟨p3,g3⟩:=Za g2;cases g3;obtain⟨rn,rt,rl⟩:=r;obtain⟨e1,p2⟩:=Zy p2;dsimp only at e1 p2 p3;subst e1;subst p2;rw[TEnt.er,TD.er,Wj p1] at hE;have:=DeepR.rvp hE (of_decide_eq_true p3);rw[Zxy,yby,List.map_drop,TD.er,hk3];exact this
     ·rename_i N s2 ds;obtain⟨p1,g1⟩:=Za g;simp only[yi,beq_iff_eq,decide_eq_true_eq] at p1;obtain⟨q1,p1⟩:=p1;obtain⟨l,p2,g2⟩:=Zc g1;subst g2;obtain⟨h2,h3⟩:=ZHA (λd y=>Znr n u d y) ds l p2;rw[TEnt.er,TD.er,q1,hk3] at hE;have:=DeepR.rva hE p1 h2 h3;rw[Zxy,yby,List.map_drop,TD.er,hk3];exact this
     ·cases g
    ·cases h
   ·cases h
  ·rename_i id s lo k;split at h
   ·rename_i u;split at h
    ·rename_i x hd;obtain⟨hk,g⟩:=Za h;rw[beq_iff_eq] at hk;have hE:=ZF hd;obtain⟨r,p1,g1⟩:=yc.1 g;obtain⟨l,p2,g2⟩:=yc.1 g1;obtain⟨p3,g3⟩:=Za g2;cases g3;obtain⟨rn,rt,rl⟩:=r;obtain⟨e1,p2⟩:=Zy p2;dsimp only at e1 p2 p3;subst e1;subst p2;rw[TEnt.er,TD.er,Wj p1] at hE;have:=DeepR.vw hE (of_decide_eq_true p3);rw[Zxy,yby,List.map_drop,TD.er,hk];exact .wk this (PlWk.sl_mk (PlsWk.refl _))
    ·cases h
   ·cases h
  ·cases h
def ZwB:TEnt→TEnt
 |.row v s _ e d=>.row v s false e d
 |.rowT t v _ e l=>.rowT t v false e l
 |e=>e
def ZgX(ids:List Nat)(H:List TEnt):List TEnt:=(yq H.length).zipWith (λi e=>if ids.contains i then ZwB e else e) H
theorem ZHB(e:TEnt):lkE (some (ZwB e))=lkE (some e):=by cases e <;> rfl
theorem Zqd(ids:List Nat)(H:List TEnt)(i:Nat):(ZgX ids H)[i]? =(H[i]?).map λe=>if ids.contains i then ZwB e else e:=by
 unfold ZgX;rw[List.getElem?_zipWith];rcases ybp i H.length with h|h
 ·rw[List.getElem?_range h,yac h];rfl
 ·rw[yan (by simpa using h),yan h];rfl
theorem Zs6(ids:List Nat)(H:List TEnt):lk (ZgX ids H)=lk H:=by
 funext i;unfold lk;rw[Zqd]
 cases H[i]? with
 |none=>rfl
 |some e=>
  show lkE (some (if ids.contains i=true then ZwB e else e))=_
  split
  ·exact ZHB e
  ·rfl
theorem ZCS(ids:List Nat)(H:List TEnt):WkH (erH H) (erH (ZgX ids H)):=by
 refine ZCR (by rw[Zx,Zx];unfold ZgX;simp) λi a b h1 h2=> ?_;unfold erH at h1 h2;rw[yaf] at h1 h2;rw[Zs6,Zqd] at h2
 cases he:H[i]? with
 |none=>rw[he] at h1;cases h1
 |some e=>
  rw[he] at h1 h2;cases h1;cases h2;show WkE (e.er (lk H)) (TEnt.er (lk H) (if ids.contains i=true then ZwB e else e))
  split
  ·cases e <;> first|exact .refl _|exact .lock
  ·exact .refl _
def ZCT:List TEnt→Nat→Bool
 |H,i=>match H[i]? with
  |some (.row _ _ _ _ _)=>true
  |some (.rowT _ _ _ _ _)=>true
  |_=>false
def Zqe:TEnt→TEnt
 |.var d _=>.var d false
 |e=>ZwB e
theorem ZHC(e:TEnt):lkE (some (Zqe e))=lkE (some e):=by cases e <;> rfl
def ZwC:TEnt→TEnt
 |.var d _=>.var d true
 |.row v s _ e d=>.row v s true e d
 |.rowT t v _ e l=>.rowT t v true e l
 |.rowN t np v _ e a b=>.rowN t np v true e a b
 |.rowM t np v _ e a d b=>.rowM t np v true e a d b
 |e=>e
def Zs7(id:Nat)(H:List TEnt):List TEnt:=(yq H.length).zipWith (λi e=>if i=id then Zqe e else ZwC e) H
theorem ZHD(e:TEnt):lkE (some (ZwC e))=lkE (some e):=by cases e <;> rfl
theorem ZwD(id:Nat)(H:List TEnt)(i:Nat):(Zs7 id H)[i]? =(H[i]?).map λe=>if i=id then Zqe e else ZwC e:=by
 unfold Zs7;rw[List.getElem?_zipWith];rcases ybp i H.length with h|h
 ·rw[List.getElem?_range h,yac h];rfl
 ·rw[yan (by simpa using h),yan h];rfl
theorem ZAM(id:Nat)(H:List TEnt):lk (Zs7 id H)=lk H:=by
 funext i;unfold lk;rw[ZwD]
 cases H[i]? with
 |none=>rfl
 |some e=>
  show lkE (some (if i=id then Zqe e else ZwC e))=_
  split
  ·exact ZHC e
  ·exact ZHD e
def Zyl:Ent→Ent
 |.var d _=>.var d false
 |.row v s _ e d=>.row v s false e d
 |e=>e
def fzE:Ent→Bool
 |.var _ false=>true
 |.row _ _ false _ _=>true
 |_=>false
theorem ZJT(e:Ent):WkE e (Zyl e):=by cases e <;> first|exact .frz|exact .lock|exact .refl _
theorem ZLZ{e:Ent}(h:fzE e=true):Zyl e=e:=by
 cases e with
 |var d st=>cases st <;> first|rfl|cases h
 |row v s st e d=>cases st <;> first|rfl|cases h
 |_=>cases h
theorem ZFI{L:Lk}{x:TEnt}(h:Zyl ((Zqe x).er L)=(Zqe x).er L):(Zqe x).er L=Zyl (x.er L):=by
 cases x <;> first|rfl|exact h.symm
theorem ZHE{L:Lk}(x:TEnt):fzE ((ZwC x).er L)=false:=by cases x <;> rfl
theorem ZJU{a b:Ent}(h:rdE (some a)=rdE (some b)):Zyl a=Zyl b:=by
 cases a <;> cases b <;> simp_all[rdE,Zyl]
theorem Zs8{H H':List Ent}(hh:∀(i:Nat)(e:Ent),fzE e=true→H[i]? =some e→H'[i]? =some e){d:Dv}{x:Pl}(h:DeepR H d x):DeepR H' d x:=by
 induction h with
 |p x=>exact .p x
 |own id nn s xs=>exact .own id nn s xs
 |agg hl h ih=>exact .agg hl ih
 |rvp hH hle=>exact .rvp (hh _ _ rfl hH) hle
 |rva hH hle hl h ih=>exact .rva (hh _ _ rfl hH) hle hl ih
 |vw hH hle=>exact .vw (hh _ _ rfl hH) hle
 |wk h k ih=>exact .wk ih k
theorem ZFJ{σ:Sg}(ok:Ok σ){id:Nat}{H:List TEnt}(hE:rdE (σ.H[id]?)=rdE ((erH H)[id]?)):∃H2,WkH σ.H H2∧∀(d:Dv)(x:Pl),DeepR (erH (Zs7 id H)) d x→DeepR H2 d x:=by
 have key:∀(i:Nat)(e:Ent),fzE e=true→(erH (Zs7 id H))[i]? =some e→i=id∧∃e0,(erH H)[id]? =some e0∧e=Zyl e0:=by
  intro i e hf h;unfold erH at h;rw[yaf,ZAM,ZwD] at h
  cases hH:H[i]? with
  |none=>rw[hH] at h;cases h
  |some e0=>
   rw[hH] at h;have h3:(if i=id then Zqe e0 else ZwC e0).er (lk H)=e:=ybe h
   clear h;by_cases hi:i=id
   ·rw[if_pos hi] at h3;subst hi;refine⟨rfl,_,ZF hH, ?_⟩;subst h3;exact ZFI (ZLZ hf)
   ·rw[if_neg hi] at h3;subst h3;rw[ZHE] at hf;cases hf
 cases hx:σ.H[id]? with
 |none=>exact⟨σ.H,WkH.refl _,λd x h=>Zs8 (λi e hf q=>by
   obtain⟨_,e0,q2,_⟩:=key i e hf q;rw[q2,hx] at hE
   cases e0 <;> simp[rdE] at hE) h⟩
 |some y=>
  refine⟨σ.H.set id (Zyl y),WkH.set_at hx (ZJT y),λd x h=>Zs8 (λi e hf q=> ?_) h⟩;obtain⟨rfl,e0,q2,rfl⟩:=key i e hf q;rw[q2,hx] at hE;rw[ycl (yo.1 hx).1,ZJU hE]
mutual
def TD.rn(f:Nat→Option Nat):TD→Option TD
 |.p x=>some (.p x)
 |.elem x=>some (.elem x)
 |.ref id path=>(f id).map λi=>.ref i path
 |.own id nn t c=>(f id).map λi=>.own i nn t c
 |.view id path s lo n=>(f id).map λi=>.view i path s lo n
 |.agg xs=>(TD.rns f xs).map .agg
 |.arr n s xs=>(TD.rns f xs).map (.arr n s)
 |.fn g cap=>(TD.rns f cap).map (.fn g)
 |.iface t x=>(TD.rn f x).map (.iface t)
 |.tup xs=>(TD.rns f xs).map .tup
 |.mp id=>(f id).map .mp
 |.rv id v s lo n=>(f id).map λi=>.rv i v s lo n
 |.rref id v path=>(f id).map λi=>.rref i v path
 |.rw id=>(f id).map .rw
 |.rp id path=>(f id).map λi=>.rp i path
 |.junk=>some .junk
def TD.rns(f:Nat→Option Nat):List TD→Option (List TD)
 |[]=>some []
 |x::r=>match TD.rn f x,TD.rns f r with
  |some y,some ys=>some (y::ys)
  |_,_=>none
end
def TEnt.rn(f:Nat→Option Nat):TEnt→Option TEnt
 |.var d st=>(d.rn f).map λd'=>.var d' st
 |.row v s st e d=>(d.rn f).map λd'=>.row v s st e d'
 |.rowM t np v st e pre d post=>(d.rn f).map λd'=>.rowM t np v st e pre d' post
 |e=>some e
def TEnt.rns(f:Nat→Option Nat):List TEnt→Option (List TEnt)
 |[]=>some []
 |x::r=>match TEnt.rn f x,TEnt.rns f r with
  |some y,some ys=>some (y::ys)
  |_,_=>none
def Rc(f:Nat→Option Nat)(L M:Lk):Prop:=∀id j t,f id=some j→ZS L id t none=ZS M j t none
theorem ZJV{f:Nat→Option Nat}{L M:Lk}(h:Rc f L M){id j:Nat}(e:f id=some j)(t:Ty)(c:Option (List t.den)):ZS L id t c=ZS M j t c:=by
 cases c with
 |none=>exact h id j t e
 |some _=>rfl
mutual
theorem ZdC{f:Nat→Option Nat}{L M:Lk}(h:Rc f L M):∀(d d':TD),d.rn f=some d'→Dv.rn f (d.er L)=some (d'.er M)
 |.p x,d',e=>by cases e;rfl
 |.elem x,d',e=>by cases e;rfl
 |.ref id path,d',e=>by
  obtain⟨i,h1,rfl⟩:=Zc e
  simp only[TD.er,Dv.rn,h1,yz]
 |.own id nn t c,d',e=>by
  obtain⟨i,h1,rfl⟩:=Zc e
  simp only[TD.er,Dv.rn,h1,yz,ZJV h h1]
 |.view id path s lo n,d',e=>by
  obtain⟨i,h1,rfl⟩:=Zc e
  simp only[TD.er,Dv.rn,h1,yz]
 |.agg xs,d',e=>by
  obtain⟨i,h1,rfl⟩:=Zc e
  simp only[TD.er,Dv.rn,rns_er h xs i h1,yz]
 |.arr n s xs,d',e=>by
  obtain⟨i,h1,rfl⟩:=Zc e
  simp only[TD.er,Dv.rn,rns_er h xs i h1,yz]
 |.fn g xs,d',e=>by
  obtain⟨i,h1,rfl⟩:=Zc e
  simp only[TD.er,Dv.rn,rns_er h xs i h1,yz]
 |.iface t x,d',e=>by
  obtain⟨i,h1,rfl⟩:=Zc e
  simp only[TD.er,Dv.rn,ZdC h x i h1,yz]
 |.tup xs,d',e=>by
  obtain⟨i,h1,rfl⟩:=Zc e
  simp only[TD.er,Dv.rn,rns_er h xs i h1,yz]
 |.mp id,d',e=>by
  obtain⟨i,h1,rfl⟩:=Zc e
  simp only[TD.er,Dv.rn,h1,yz]
 |.rv id v s lo n,d',e=>by
  obtain⟨i,h1,rfl⟩:=Zc e
  simp only[TD.er,Dv.rn,h1,yz]
 |.rref id v path,d',e=>by
  obtain⟨i,h1,rfl⟩:=Zc e
  simp only[TD.er,Dv.rn,h1,yz]
 |.rw id,d',e=>by
  obtain⟨i,h1,rfl⟩:=Zc e
  simp only[TD.er,Dv.rn,h1,yz,Zap,h _ _ _ h1]
 |.rp id path,d',e=>by
  obtain⟨i,h1,rfl⟩:=Zc e
  simp only[TD.er,Dv.rn,h1,yz,Zap,h _ _ _ h1]
 |.junk,d',e=>by cases e;rfl
theorem rns_er{f:Nat→Option Nat}{L M:Lk}(h:Rc f L M):∀(ds es:List TD),TD.rns f ds=some es→Dv.rns f (TD.ers L ds)=some (TD.ers M es)
 |[],es,e=>by cases e;rfl
 |x::r,es,e=>by
  simp only[TD.rns] at e;split at e
  ·rename_i y ys h1 h2;cases e;simp only[TD.ers,Dv.rns,ZdC h x y h1,rns_er h r ys h2]
  ·cases e
end
theorem ZCU{α:Type}(f:Nat→Option Nat)(g:α→Pl):∀(l:List α)(m:List Dv),Dv.rns f ((l.map λx=>.p (g x))++m)=(Dv.rns f m).map λq=>(l.map λx=>.p (g x))++q
 |[],m=>by cases h:Dv.rns f m <;> simp[h]
 |x::l,m=>by
  rw[yad,yaa,Dv.rns,Dv.rn,ZCU f g l m];cases Dv.rns f m <;> rfl
theorem ZJW{α β:Type}{f:Nat→Option Nat}{g:α→Pl}{g':β→Pl}{l:List α}{d d':Dv}{m:List β}(h:Dv.rn f d=some d'):
 Dv.rns f ((l.map λx=>.p (g x))++d::m.map λx=>.p (g' x))=some ((l.map λx=>.p (g x))++d'::m.map λx=>.p (g' x)):=by
 have e:=ZCU f g' m [];rw[ybj] at e;rw[ZCU,Dv.rns,h,e];simp[Dv.rns]
theorem ZHF{f:Nat→Option Nat}{L M:Lk}(h:Rc f L M){e e':TEnt}(k:e.rn f=some e'):Ent.rn f (e.er L)=some (e'.er M):=by
 cases e with
 |var d st=>
  obtain⟨i,h1,rfl⟩:=Zc k
  simp only[TEnt.er,Ent.rn,ZdC h d i h1,yz]
 |row v s st e d=>
  obtain⟨i,h1,rfl⟩:=Zc k
  simp only[TEnt.er,Ent.rn,ZdC h d i h1,yz]
 |rowM t np v st e pre d post=>
  obtain⟨i,h1,rfl⟩:=Zc k
  simp only[TEnt.er,Ent.rn,Dv.rn,ZJW (ZdC h d i h1),yz]
 |_=>cases k;rfl
theorem ZEn{f:Nat→Option Nat}{L M:Lk}(h:Rc f L M):∀(ds es:List TEnt),TEnt.rns f ds=some es→Ent.rns f (ds.map (TEnt.er L))=some (es.map (TEnt.er M))
 |[],es,e=>by cases e;rfl
 |x::r,es,e=>by
  simp only[TEnt.rns] at e;split at e
  ·rename_i y ys h1 h2;cases e;simp only[yad,Ent.rns,ZHF h h1,ZEn h r ys h2]
  ·cases e
theorem ZHG{f:Nat→Option Nat}{e e':TEnt}(k:e.rn f=some e'):lkE (some e')=lkE (some e):=by
 cases e with
 |var d st=>obtain⟨i,h1,rfl⟩:=Zc k;rfl
 |row v s st e d=>obtain⟨i,h1,rfl⟩:=Zc k;rfl
 |rowM t np v st e pre d post=>obtain⟨i,h1,rfl⟩:=Zc k;rfl
 |_=>cases k;rfl
theorem ZAN{f:Nat→Option Nat}:∀{ds es:List TEnt},TEnt.rns f ds=some es→es.length=ds.length∧∀(j:Nat),lkE (es[j]?)=lkE (ds[j]?)
 |[],es,e=>by cases e;exact⟨rfl,λ_=>rfl⟩
 |x::r,es,e=>by
  simp only[TEnt.rns] at e;split at e
  ·rename_i y ys h1 h2;cases e;obtain⟨g1,g2⟩:=ZAN h2;refine⟨by simp[g1],λj=> ?_⟩
   cases j with
   |zero=>exact ZHG h1
   |succ j=>exact g2 j
  ·cases e
def YV(H:List TEnt)(all:List Nat):List Nat→Option (List TEnt)
 |[]=>some []
 |id::r=>match (H[id]?).bind (TEnt.rn (toIds all)),YV H all r with
  |some e,some es=>some (e::es)
  |_,_=>none
theorem ZcI{H:List TEnt}{all:List Nat}:∀{ids:List Nat}{Hin:List TEnt},YV H all ids=some Hin→Hin.length=ids.length∧∀(j id:Nat),ids[j]? =some id→id < H.length∧lkE (Hin[j]?)=lkE (H[id]?)
 |[],Hin,h=>by cases h;exact⟨rfl,λj id e=>by simp at e⟩
 |i::r,Hin,h=>by
  simp only[YV] at h;split at h
  ·rename_i e es h1 h2;cases h;obtain⟨g1,g2⟩:=ZcI h2;obtain⟨e0,h3,h4⟩:=yc.1 h1;refine⟨by simp[g1],λj id hj=> ?_⟩
   cases j with
   |zero=>
    cases hj
    exact⟨(yo.1 h3).1,by rw[h3];exact ZHG h4⟩
   |succ j=>exact g2 j id hj
  ·cases h
theorem YI{H:List TEnt}{all:List Nat}{M:Lk}(h:Rc (toIds all) (lk H) M):∀{ids:List Nat}{Hin:List TEnt},YV H all ids=some Hin→subEnts (erH H) all ids=some (Hin.map (TEnt.er M))
 |[],Hin,e=>by cases e;rfl
 |i::r,Hin,e=>by
  simp only[YV] at e;split at e
  ·rename_i e0 es h1 h2;cases e;obtain⟨e1,h3,h4⟩:=yc.1 h1;simp only[subEnts,ZF h3,yf,ZHF h h4,YI h h2,yad]
  ·cases e
mutual
def TD.lay(L:Lk)(S:List Nat):TD→TD
 |.own id nn t c=>if S.contains id then .own id nn t (some (ZS L id t c)) else .own id nn t c
 |.agg xs=>.agg (TD.lays L S xs)
 |.arr m s xs=>.arr m s (TD.lays L S xs)
 |.fn f xs=>.fn f (TD.lays L S xs)
 |.iface t x=>.iface t (TD.lay L S x)
 |.tup xs=>.tup (TD.lays L S xs)
 |.p x=>.p x
 |.elem x=>.elem x
 |.ref id path=>.ref id path
 |.view id path s lo n=>.view id path s lo n
 |.mp id=>.mp id
 |.rv id v s lo n=>.rv id v s lo n
 |.rref id v path=>.rref id v path
 |.rw id=>if S.contains id then .rv id (Zap L id 0) (Zap L id 1) 0 (Zap L id 2) else .rw id
 |.rp id path=>if S.contains id then .rref id (Zap L id 0) path else .rp id path
 |.junk=>.junk
def TD.lays(L:Lk)(S:List Nat):List TD→List TD
 |[]=>[]
 |x::r=>TD.lay L S x::TD.lays L S r
end
mutual
def TD.under(n:Nat):TD→Bool
 |.own id _ _ c=>c.isSome || decide (id < n)
 |.rw id=>decide (id < n)
 |.rp id _=>decide (id < n)
 |.agg xs=>TD.unders n xs
 |.arr _ _ xs=>TD.unders n xs
 |.fn _ xs=>TD.unders n xs
 |.iface _ x=>TD.under n x
 |.tup xs=>TD.unders n xs
 |_=>true
def TD.unders(n:Nat):List TD→Bool
 |[]=>true
 |x::r=>TD.under n x&&TD.unders n r
end
def TEnt.lay(L:Lk)(S:List Nat):TEnt→TEnt
 |.var d st=>.var (d.lay L S) st
 |.row v s st e d=>.row v s st e (d.lay L S)
 |.rowM t np v st e pre d post=>.rowM t np v st e pre (d.lay L S) post
 |e=>e
def TEnt.under(n:Nat):TEnt→Bool
 |.var d _=>d.under n
 |.row _ _ _ _ d=>d.under n
 |.rowM _ _ _ _ _ _ d _=>d.under n
 |_=>true
def Lo(S:List Nat)(n:Nat)(L M:Lk):Prop:=∀id t,S.contains id=false→id < n→ZS L id t none=ZS M id t none
mutual
theorem Zs9{L M:Lk}{S:List Nat}{n:Nat}(h:Lo S n L M):∀(d:TD),d.under n=true→(d.lay L S).er M=d.er L
 |.p _,_=>rfl
 |.elem _,_=>rfl
 |.ref _ _,_=>rfl
 |.own id nn t c,hf=>by
  rw[TD.lay];split
  ·rfl
  ·rename_i hn
   cases c with
   |none=>
    have:id < n:=by simpa[TD.under] using hf
    rw[TD.er,TD.er,h id t (by simpa using hn) this]
   |some _=>rfl
 |.view _ _ _ _ _,_=>rfl
 |.agg xs,hf=>by rw[TD.lay,TD.er,TD.er,ers_lay h xs hf]
 |.arr _ _ xs,hf=>by rw[TD.lay,TD.er,TD.er,ers_lay h xs hf]
 |.fn _ xs,hf=>by rw[TD.lay,TD.er,TD.er,ers_lay h xs hf]
 |.iface _ x,hf=>by rw[TD.lay,TD.er,TD.er,Zs9 h x hf]
 |.tup xs,hf=>by rw[TD.lay,TD.er,TD.er,ers_lay h xs hf]
 |.mp _,_=>rfl
 |.rv _ _ _ _ _,_=>rfl
 |.rref _ _ _,_=>rfl
 |.rw id,hf=>by
  rw[TD.lay];split
  ·rfl
  ·rename_i hn;have:id < n:=by simpa[TD.under] using hf
   simp only[TD.er,Zap,h id _ (by simpa using hn) this]
 |.rp id _,hf=>by
  rw[TD.lay];split
  ·rfl
  ·rename_i hn;have:id < n:=by simpa[TD.under] using hf
   simp only[TD.er,Zap,h id _ (by simpa using hn) this]
 |.junk,_=>rfl
theorem ers_lay{L M:Lk}{S:List Nat}{n:Nat}(h:Lo S n L M):∀(ds:List TD),TD.unders n ds=true→TD.ers M (TD.lays L S ds)=TD.ers L ds
 |[],_=>rfl
 |x::r,hf=>by
  simp only[TD.unders,yi] at hf;rw[TD.lays,TD.ers,TD.ers,Zs9 h x hf.1,ers_lay h r hf.2]
end
theorem ZAO{L:Lk}{S:List Nat}:∀(l:List TD),(TD.lays L S l).length=l.length
 |[]=>rfl
 |_::r=>by rw[TD.lays,yai,yai,ZAO r]
theorem ZJX{L M:Lk}{S:List Nat}{n:Nat}(h:Lo S n L M){e:TEnt}(hf:e.under n=true):(e.lay L S).er M=e.er L:=by
 cases e with
 |var d st=>rw[TEnt.lay,TEnt.er,TEnt.er,Zs9 h d hf]
 |row v s st e d=>rw[TEnt.lay,TEnt.er,TEnt.er,Zs9 h d hf]
 |rowM t np v st e pre d post=>rw[TEnt.lay,TEnt.er,TEnt.er,Zs9 h d hf]
 |_=>rfl
theorem ZJY{L:Lk}{S:List Nat}(e:Option TEnt):lkE (e.map (TEnt.lay L S))=lkE e:=by
 cases e with
 |none=>rfl
 |some e=>cases e <;> rfl
theorem Zqf{α β:Type}(f:α→β):∀(ids:List Nat)(A B:List α),(putBack A ids B).map f=putBack (A.map f) ids (B.map f)
 |[],A,B=>by simp[putBack]
 |id::r,A,[]=>by simp[putBack]
 |id::r,A,b::B=>by simp only[putBack,yad];rw[Zqf f r,ybb]
def TD.argI(L:Lk)(ids:List Nat):TD→TD
 |.own id nn t c=>if ids.contains id then .own id nn t c else .p (.sl nn t (ZS L id t c))
 |.agg ds=>if TD.ownss ids ds then .agg ds else TD.melt L ds
 |d=>d
theorem Zym{L:Lk}{ids:List Nat}(d:TD):(d.argI L ids).er L=Dv.argI ids (d.er L):=by
 cases d with
 |own id nn t c=>
  rw[TD.argI,TD.er,Dv.argI]
  split <;> rfl
 |p _=>rfl
 |elem _=>rfl
 |ref _ _=>rfl
 |view _ _ _ _ _=>rfl
 |agg ds=>
  rw[TD.argI,TD.er,Dv.argI,ownss_er];split
  ·rw[TD.er]
  ·exact ZD8 _
 |arr _ _ _=>rfl
 |fn _ _=>rfl
 |iface _ _=>rfl
 |tup _=>rfl
 |mp _=>rfl
 |rv _ _ _ _ _=>rfl
 |rref _ _ _=>rfl
 |rw _=>rfl
 |rp _ _=>rfl
 |junk=>rfl
def Zqg(P:yg)(ts:List TD):List yn→List yb→Option (List TD)
 |[],_=>some []
 |_,[]=>some []
 |x::r,t::q=>match arT P ts t x,Zqg P ts r q with
  |some a,some b=>some (a::b)
  |_,_=>none
theorem Zgd{P:yg}{ts:List TD}{L:Lk}(ids:List Nat):∀{l:List yn}{ty:List yb}{ds:List TD},Zqg P ts l ty=some ds→
 ((l.zip ty).map λq=>(Zp P (TD.ers L ts) q.2 q.1).argI ids)=TD.ers L (ds.map (TD.argI L ids))
 |[],ty,ds,h=>by cases h;rfl
 |x::r,[],ds,h=>by cases h;rfl
 |x::r,t::q,ds,h=>by
  simp only[Zqg] at h;split at h
  ·rename_i a b h1 h2;cases h;simp only[List.zip_cons_cons,yad,TD.ers,Zn (L:=L) h1,Zym,Zgd ids h2]
  ·cases h
theorem ZrU{L:Lk}(ids:List Nat)(ds:List TD):(TD.ers L ds).map (Dv.argI ids)=TD.ers L (ds.map (TD.argI L ids)):=by
 rw[Zv,Zv,yaw,yaw];exact ycg λx _=>(Zym x).symm
structure Fs(P:yg)where
 g:yu
 ps:List Sh
 es:List ESh
 ins:List Ty
 xs:List XSh
 M:Ty.dens ins→Option (XSh.sum xs)
def Fs.Ok{P:yg}(s:Fs P):Prop:=
 ∀x o,s.M x=some o→∃args R H,Sh.fills s.ps (ofD s.ins x)=some (args,R)∧ESh.fills s.es R=some (H,[])∧
  ∀e vs s',ZAL s.xs o e vs→W0 1 e.sl e.es vs=some s'→∃r,s'.1=[r]∧Con P s.g (TD.ers (lk H) args) (erH H) (r.er (lk s'.2)) (erH s'.2)
def AllOk{P:yg}:List (Fs P)→Prop
 |[]=>True
 |s::r=>s.Ok∧AllOk r
mutual
def Sh.ids:Sh→TD→List (Nat×Nat)
 |.own j _,d=>match d with
  |.own id _ _ none=>[(j,id)]
  |_=>[]
 |.ref j _,d=>match d with
  |.ref id _=>[(j,id)]
  |_=>[]
 |.mp j,d=>match d with
  |.mp id=>[(j,id)]
  |_=>[]
 |.rw j,d=>match d with
  |.rw id=>[(j,id)]
  |_=>[]
 |.rp j _ _,d=>match d with
  |.rp id _=>[(j,id)]
  |_=>[]
 |.view j _ _ _ _,d=>match d with
  |.view id _ _ _ _=>[(j,id)]
  |_=>[]
 |.rv j _ _ _ _,d=>match d with
  |.rv id _ _ _ _=>[(j,id)]
  |_=>[]
 |.fn _ l,d=>match d with
  |.fn _ ds=>Sh.idsL l ds
  |_=>[]
 |.agg l,d=>match d with
  |.agg ds=>Sh.idsL l ds
  |_=>[]
 |.arr _ _ l,d=>match d with
  |.arr _ _ ds=>Sh.idsL l ds
  |_=>[]
 |.tup l,d=>match d with
  |.tup ds=>Sh.idsL l ds
  |_=>[]
 |.iface _ x,d=>match d with
  |.iface _ y=>Sh.ids x y
  |_=>[]
 |_,_=>[]
def Sh.idsL:List Sh→List TD→List (Nat×Nat)
 |[],_=>[]
 |s::r,ds=>match ds with
  |d::q=>Sh.ids s d++Sh.idsL r q
  |[]=>[]
end
def ZL0(H:List TEnt):List ESh→Nat→List (Nat×Nat)→List (Nat×Nat)
 |[],_,l=>l
 |e::r,j,l=>ZL0 H r (j+1) (match e,(l.lookup j).bind λid=>H[id]? with
  |.var s _,some (.var d _)=>l++Sh.ids s d
  |.rowD _ _ _ _ _ sl,some (.row _ _ _ _ (.arr _ _ ds))=>l++Sh.idsL sl ds
  |_,_=>l)
def ZHH(H:List TEnt):Option Nat:=(yq H.length).reverse.find? λi=>match H[i]? with
 |some .gone=>true
 |_=>false
def ZK2(H:List TEnt)(ps:List Sh)(es:List ESh)(ds:List TD):Option (List Nat):=
 match ps,es with
 |[],[.gone]=>(ZHH H).map λi=>[i]
 |_,_=>
  let l:=ZL0 H es 0 (Sh.idsL ps ds)
  (yq es.length).mapM λj=>l.lookup j
def Zyn{P:yg}(s:Fs P)(H:List TEnt)(args:List TD)(ids:List Nat):Option (Ty.dens s.ins):=
 if once ids then(TD.rns (toIds ids) (args.map (TD.argI (lk H) ids))).bind λa2=>(YV H ids ids).bind λHin=>
  (Sh.mts (lk Hin) s.ps a2).bind λq=>(ESh.mts (lk Hin) s.es Hin).bind λw=>toD s.ins (q.2++w.2)
 else none
theorem Wv{H Hin:List TEnt}{ids:List Nat}(h:YV H ids ids=some Hin):Rc (toIds ids) (lk H) (lk Hin):=by
 intro id j t e;obtain⟨g1,g2⟩:=ZcI h;have hj:=idxOf?_some e;have:=(g2 j id hj).2;unfold ZS lk;dsimp only;rw[this]
theorem ZJZ{P:yg}{s:Fs P}{H:List TEnt}{args:List TD}{ids:List Nat}{x:Ty.dens s.ins}(h:Zyn s H args ids=some x):
 once ids=true∧∃Hin a2 a3 H3 R,YV H ids ids=some Hin∧subEnts (erH H) ids ids=some (erH Hin)∧Dv.rns (toIds ids) (TD.ers (lk H) (args.map (TD.argI (lk H) ids)))=some (TD.ers (lk Hin) a2)∧
  Sh.fills s.ps (ofD s.ins x)=some (a3,R)∧ESh.fills s.es R=some (H3,[])∧WkL (TD.ers (lk Hin) a2) (TD.ers (lk H3) a3)∧WkH (erH Hin) (erH H3):=by
 unfold Zyn at h;split at h
 ·rename_i ho;obtain⟨a2,h1,h⟩:=yc.1 h;obtain⟨Hin,h2,h⟩:=yc.1 h;obtain⟨q,h3,h⟩:=yc.1 h;obtain⟨w,h4,h⟩:=yc.1 h;obtain⟨g1,g2⟩:=Zgc h4;have e:=QR _ _ _ h;have hc:∀id t,ZS (lk Hin) id t none=ZS (lk w.1) id t none:=λid t=>by rw[g2]
  refine⟨ho,Hin,a2,q.1,w.1,w.2,h2,YI (Wv h2) h2,rns_er (Wv h2) _ _ h1, ?_, ?_,mts_wk hc _ _ _ h3,Zkk hc h4⟩
  ·rw[e];exact mts_fills _ _ _ h3 _
  ·have:=V7 h4 []
   rwa [ybj] at this
 ·cases h
section
variable{P:yg}{o:Oper}{ts all:List TD}{H:List TEnt}{O:Type}{K:Kn O}{out:O}
def ZJ0(all:List TD)(H:List TEnt)(K:Kn O)(ids:List Nat)(r:TD)(Hn:List TEnt):Option O:=
 if(ids.isEmpty&&Hn.isEmpty)=true then(r.rn λ_=>none).bind λr'=>K all r' H [.call (r.er (lk [])) [] []] 0 else
 (r.rn (fromIds ids H.length)).bind λr'=>(TEnt.rns (fromIds ids H.length) Hn).bind λHb=>
   if(decide (ids.length≤Hn.length)&&TD.unders H.length all&&H.all (TEnt.under H.length))=true then
    K (TD.lays (lk H) ids all) r' (putBack (H.map (TEnt.lay (lk H) ids)) ids Hb) [.call (r.er (lk Hn)) (erH Hn) ids] 2
   else none
def Zta(s:Fs P)(all:List TD)(H:List TEnt)(K:Kn O)(args:List TD)(ids:List Nat)(x:Ty.dens s.ins):Option O:=
 (s.M x).bind λy=>xT 1 s.xs y λ_ rs Hn=>match rs with
   |[r]=>ZJ0 all H K ids r Hn
   |_=>none
def ZwE(g:yu)(all:List TD)(H:List TEnt)(K:Kn O)(args:List TD)(other:Option O):List (Fs P)→Option O
 |[]=>other
 |s::rest=>if s.g=g then match (ZK2 H s.ps s.es args).bind λids=>(Zyn s H args ids).map λx=>(ids,x) with
   |some q=>Zta s all H K args q.1 q.2
   |none=>ZwE g all H K args other rest
  else ZwE g all H K args other rest
mutual
def Sh.exD:Sh→TD→Bool
 |.v t,d=>match d with
  |.p (.v u _)=>match Ty.dec u t with
   |isTrue _=>true
   |isFalse _=>false
  |_=>false
 |.own _ _,d=>match d with
  |.own _ none _ none=>true
  |_=>false
 |.ref _ _,d=>match d with
  |.ref _ _=>true
  |_=>false
 |.mp _,d=>match d with
  |.mp _=>true
  |_=>false
 |.rw _,d=>match d with
  |.rw _=>true
  |_=>false
 |.agg l,d=>match d with
  |.agg ds=>Sh.exDs l ds
  |_=>false
 |.arr _ _ l,d=>match d with
  |.arr _ _ ds=>Sh.exDs l ds
  |_=>false
 |.ptr0,_=>true
 |.fn0,_=>true
 |.if0,_=>true
 |.map0,_=>true
 |_,_=>false
def Sh.exDs:List Sh→List TD→Bool
 |[],[]=>true
 |s::r,d::q=>Sh.exD s d&&Sh.exDs r q
 |_,_=>false
end
theorem ZNW{L:Lk}{t:Ty}{d:TD}{q:TD×List TV}(h:Sh.exD (.v t) d=true)(k:Sh.mt L (.v t) d=some q):q.1=d:=by
 unfold Sh.exD at h;split at h
 ·rename_i u y;split at h
  ·rename_i e _;subst e;unfold Sh.mt TD.toT TP.to at k;dsimp only at k;rw[Ya,yz] at k;cases k;rfl
  ·cases h
 ·cases h
theorem ZL1{L:Lk}{j:Nat}{t:Ty}{d:TD}{q:TD×List TV}(h:Sh.exD (.own j t) d=true)(k:Sh.mt L (.own j t) d=some q):q.1=d:=by
 unfold Sh.exD at h;split at h
 ·unfold Sh.mt at k;dsimp only at k;split at k
  ·rename_i e;obtain⟨rfl,rfl⟩:=e;cases k;rfl
  ·cases k
 ·cases h
theorem ZL2{L:Lk}{j:Nat}{p:List Stp}{d:TD}{q:TD×List TV}(h:Sh.exD (.ref j p) d=true)(k:Sh.mt L (.ref j p) d=some q):q.1=d:=by
 unfold Sh.exD at h;split at h
 ·unfold Sh.mt at k;dsimp only at k;split at k
  ·rename_i e;obtain⟨rfl,e2⟩:=e;have:=ZdB e2;subst this;cases k;rfl
  ·cases k
 ·cases h
theorem ZNb{L:Lk}{j:Nat}{d:TD}{q:TD×List TV}(h:Sh.exD (.mp j) d=true)(k:Sh.mt L (.mp j) d=some q):q.1=d:=by
 unfold Sh.exD at h;split at h
 ·unfold Sh.mt at k;dsimp only at k;split at k
  ·rename_i e;subst e;cases k;rfl
  ·cases k
 ·cases h
theorem ZNc{L:Lk}{j:Nat}{d:TD}{q:TD×List TV}(h:Sh.exD (.rw j) d=true)(k:Sh.mt L (.rw j) d=some q):q.1=d:=by
 unfold Sh.exD at h;split at h
 ·unfold Sh.mt at k;dsimp only at k;split at k
  ·rename_i e;subst e;cases k;rfl
  ·cases k
 ·cases h
mutual
theorem ZK3{L:Lk}:∀(s:Sh)(d:TD)(q:TD×List TV),Sh.exD s d=true→Sh.mt L s d=some q→q.1=d
 |.v t,d,q,h,k=>ZNW h k
 |.own j t,d,q,h,k=>ZL1 h k
 |.ref j p,d,q,h,k=>ZL2 h k
 |.mp j,d,q,h,k=>ZNb h k
 |.rw j,d,q,h,k=>ZNc h k
 |.agg l,.agg ds,q,h,k=>by
  have k:(Sh.mts L l ds).map (λq=>(TD.agg q.1,q.2))=some q:=by unfold Sh.mt at k;exact k
  have h:Sh.exDs l ds=true:=by unfold Sh.exD at h;exact h
  obtain⟨w,k1,k2⟩:=Zc k;rw[←k2]
  exact congrArg TD.agg (exs_mts l ds w h k1)
 |.arr n s l,.arr m s2 ds,q,h,k=>by
  have k:(if m=n∧s2=s then(Sh.mts L l ds).map (λq=>(TD.arr n s q.1,q.2)) else none)=some q:=by unfold Sh.mt at k;exact k
  have h:Sh.exDs l ds=true:=by unfold Sh.exD at h;exact h
  split at k
  ·rename_i e;obtain⟨w,k1,k2⟩:=Zc k;rw[←k2,e.1,e.2];exact congrArg (TD.arr n s) (exs_mts l ds w h k1)
  ·cases k
 |.ptr0,d,q,h,k=>by
  unfold Sh.mt at k
  split at k <;> first|(cases k;rfl)|cases k
 |.fn0,d,q,h,k=>by
  unfold Sh.mt at k
  split at k <;> first|(cases k;rfl)|cases k
 |.if0,d,q,h,k=>by
  unfold Sh.mt at k
  split at k <;> first|(cases k;rfl)|cases k
 |.map0,d,q,h,k=>by
  unfold Sh.mt at k;split at k <;> first|(cases k;rfl)|cases k
theorem exs_mts{L:Lk}:∀(l:List Sh)(ds:List TD)(q:List TD×List TV),Sh.exDs l ds=true→Sh.mts L l ds=some q→q.1=ds
 |[],[],q,_,k=>by
  simp only[Sh.mts] at k;cases k
  rfl
 |[],_::_,_,h,_=>by cases h
 |_::_,[],_,h,_=>by cases h
 |s::r,d::ds,q,h,k=>by
  simp only[Sh.exDs,yi] at h;simp only[Sh.mts] at k;split at k
  ·rename_i a b k1 k2;cases k;rw[ZK3 s d a h.1 k1,exs_mts r ds b h.2 k2]
  ·cases k
end
def ESh.exE:ESh→TEnt→Bool
 |.var s st,.var d st'=>(st==st')&&s.exD d
 |.log t _,.log u _ _=>match Ty.dec u t with
  |isTrue _=>true
  |isFalse _=>false
 |.gone,.gone=>true
 |_,_=>false
theorem ZL3{L:Lk}{s:ESh}{d:TEnt}{q:TEnt×List TV}(h:s.exE d=true)(k:s.mt L d=some q):q.1=d:=by
 unfold ESh.exE at h;split at h
 ·simp only[yi,beq_iff_eq] at h;obtain⟨rfl,h⟩:=h;simp only[ESh.mt] at k;split at k
  ·obtain⟨w,k1,rfl⟩:=Zc k;show TEnt.var w.1 _=_;rw[ZK3 _ _ w h k1]
  ·cases k
 ·split at h
  ·rename_i e _;subst e;simp only[ESh.mt] at k;split at k
   ·rename_i e;subst e;obtain⟨w,k1,rfl⟩:=Zc k;obtain⟨e1,e2⟩:=Zy k1;cases e1;subst e2;rfl
   ·cases k
  ·cases h
 ·simp only[ESh.mt] at k;cases k;rfl
 ·cases h
def ESh.exs:List ESh→List TEnt→Bool
 |[],[]=>true
 |s::r,d::q=>s.exE d&&ESh.exs r q
 |_,_=>false
theorem ZAP{L:Lk}:∀{l:List ESh}{ds:List TEnt}{q:List TEnt×List TV},ESh.exs l ds=true→ESh.mts L l ds=some q→q.1=ds
 |[],[],q,_,k=>by
  simp only[ESh.mts] at k;cases k
  rfl
 |[],_::_,_,h,_=>by cases h
 |_::_,[],_,h,_=>by cases h
 |s::r,d::ds,q,h,k=>by
  simp only[ESh.exs,yi] at h;simp only[ESh.mts] at k;split at k
  ·rename_i a b k1 k2;cases k;rw[ZL3 h.1 k1,ZAP h.2 k2]
  ·cases k
structure Rs(P:yg)where
 g:yu
 ps:List Sh
 es:List ESh
 ins:List Ty
 r:Sh
 t:List Ty
 M:Ty.dens ins→Option (Ty.dens t)
def Rs.Ok{P:yg}(s:Rs P):Prop:=
 ∀x o,s.M x=some o→∃args R H,Sh.fills s.ps (ofD s.ins x)=some (args,R)∧ESh.fills s.es R=some (H,[])∧
  ∀q,Sh.fill s.r (ofD s.t o)=some q→Con P s.g (TD.ers (lk H) args) (erH H) (q.1.er (lk H)) (erH H)
def AllRo{P:yg}:List (Rs P)→Prop
 |[]=>True
 |s::r=>s.Ok∧AllRo r
mutual
theorem ZrV{f g:Nat→Option Nat}(hfg:∀i j,f i=some j→g j=some i):∀(d d':Dv),d.rn f=some d'→d'.rn g=some d
 |.p x,d',h=>by cases h;rfl
 |.elem x,d',h=>by cases h;rfl
 |.ref id o p,d',h=>by
  simp only[Dv.rn,yp] at h;obtain⟨i,h1,rfl⟩:=h
  simp only[Dv.rn,hfg _ _ h1,yz]
 |.own id nn s xs,d',h=>by
  simp only[Dv.rn,yp] at h;obtain⟨i,h1,rfl⟩:=h
  simp only[Dv.rn,hfg _ _ h1,yz]
 |.view id o p s lo n,d',h=>by
  simp only[Dv.rn,yp] at h;obtain⟨i,h1,rfl⟩:=h
  simp only[Dv.rn,hfg _ _ h1,yz]
 |.agg xs,d',h=>by
  simp only[Dv.rn,yp] at h;obtain⟨i,h1,rfl⟩:=h
  simp only[Dv.rn,rns_back hfg _ _ h1,yz]
 |.arr n s xs,d',h=>by
  simp only[Dv.rn,yp] at h;obtain⟨i,h1,rfl⟩:=h
  simp only[Dv.rn,rns_back hfg _ _ h1,yz]
 |.fn k xs,d',h=>by
  simp only[Dv.rn,yp] at h;obtain⟨i,h1,rfl⟩:=h
  simp only[Dv.rn,rns_back hfg _ _ h1,yz]
 |.iface t x,d',h=>by
  simp only[Dv.rn,yp] at h;obtain⟨i,h1,rfl⟩:=h
  simp only[Dv.rn,ZrV hfg _ _ h1,yz]
 |.tup xs,d',h=>by
  simp only[Dv.rn,yp] at h;obtain⟨i,h1,rfl⟩:=h
  simp only[Dv.rn,rns_back hfg _ _ h1,yz]
 |.mp id,d',h=>by
  simp only[Dv.rn,yp] at h;obtain⟨i,h1,rfl⟩:=h
  simp only[Dv.rn,hfg _ _ h1,yz]
 |.rv id v s lo n,d',h=>by
  simp only[Dv.rn,yp] at h;obtain⟨i,h1,rfl⟩:=h
  simp only[Dv.rn,hfg _ _ h1,yz]
 |.rref id v o p,d',h=>by
  simp only[Dv.rn,yp] at h;obtain⟨i,h1,rfl⟩:=h
  simp only[Dv.rn,hfg _ _ h1,yz]
 |.junk,d',h=>by cases h;rfl
theorem rns_back{f g:Nat→Option Nat}(hfg:∀i j,f i=some j→g j=some i):∀(d d':List Dv),Dv.rns f d=some d'→Dv.rns g d'=some d
 |[],d',h=>by cases h;rfl
 |x::r,d',h=>by
  simp only[Dv.rns] at h;split at h
  ·rename_i y ys h1 h2;cases h;simp only[Dv.rns,ZrV hfg x y h1,rns_back hfg r ys h2]
  ·cases h
end
theorem ZHI{f g:Nat→Option Nat}(hfg:∀i j,f i=some j→g j=some i){e e':Ent}(h:e.rn f=some e'):e'.rn g=some e:=by
 cases e with
 |var d st=>
  simp only[Ent.rn,yp] at h;obtain⟨y,h1,rfl⟩:=h
  simp only[Ent.rn,ZrV hfg _ _ h1,yz]
 |row v s st t d=>
  simp only[Ent.rn,yp] at h;obtain⟨y,h1,rfl⟩:=h
  simp only[Ent.rn,ZrV hfg _ _ h1,yz]
 |log _ _ _=>cases h;rfl
 |map _ _=>cases h;rfl
 |gone=>cases h;rfl
theorem ZHJ{H:List Ent}{ids:List Nat}{Hin:List Ent}(ho:once ids=true)(h:subEnts H ids ids=some Hin):∃Hb,Ent.rns (fromIds ids H.length) Hin=some Hb∧putBack H ids Hb=H:=by
 have hfg:∀i j,toIds ids i=some j→fromIds ids H.length j=some i:=by
  intro i j e;have hj:=idxOf?_some e;unfold fromIds;rw[if_pos (yo.1 hj).1,hj]
 have key:∀(l:List Nat)(A:List Ent),subEnts H ids l=some A→∃B,Ent.rns (fromIds ids H.length) A=some B∧B.length=l.length∧∀(j id:Nat),l[j]? =some id→B[j]? =H[id]? ∧id < H.length:=by
  intro l
  induction l with
  |nil=>
   intro A hA;simp only[subEnts,yj] at hA;subst hA
   exact⟨[],rfl,rfl,λj id hj=>by simp at hj⟩
  |cons x r ih=>
   intro A hA;simp only[subEnts] at hA;split at hA
   ·rename_i e es h1 h2;cases hA;obtain⟨B,b1,b2,b3⟩:=ih es h2;obtain⟨e0,g1,g2⟩:=yc.1 h1;refine⟨e0::B, ?_,by simp[b2],λj id hj=> ?_⟩
    ·simp only[Ent.rns,ZHI hfg g2,b1]
    ·cases j with
     |zero=>
      simp only[ybh,yj] at hj;subst hj
      exact⟨by rw[ybh,g1],(yo.1 g1).1⟩
     |succ j=>exact b3 j id (by simpa using hj)
   ·cases hA
 obtain⟨Hb,b1,b2,b3⟩:=key ids Hin h
 have hlt:∀i,i∈ids→i < H.length:=λi hi=>by
  obtain⟨j,hj⟩:=List.getElem?_of_mem hi;exact(b3 j i hj).2
 refine⟨Hb,b1, ?_⟩;have hle:ids.length≤Hb.length:=by omega
 apply List.ext_getElem?;intro i;have hlen:(putBack H ids Hb).length=H.length:=by rw[QE _ _ _ hle];omega
 by_cases hi:i < H.length
 ·by_cases hm:i∈ids
  ·obtain⟨j,hj⟩:=List.getElem?_of_mem hm;rw[Zdt H ids Hb j i ho hle hlt hj,(b3 j i hj).1]
  ·exact WC H ids Hb i hle hi hm
 ·rw[yan (by omega),yan (by omega)]
structure Sp(P:yg)where
 l:List (Fs P):=[]
 hd:(O:Type)→yu→List TD→List TEnt→(TD→List TEnt→Option O)→Option O:=λ_ _ _ _ _=>none
 mt:List (yb×String×yu):=[]
 ro:List (Rs P):=[]
def HdOk(P:yg)(hd:(O:Type)→yu→List TD→List TEnt→(TD→List TEnt→Option O)→Option O):Prop:=
 ∀(O:Type)(g:yu)(args:List TD)(H:List TEnt)(K:TD→List TEnt→Option O)(out:O),hd O g args H K=some out→
  ∃r H',K r H'=some out∧Con P g (TD.ers (lk H) args) (erH H) (r.er (lk H')) (erH H')
def MtOk(P:yg):List (yb×String×yu)→Prop
 |[]=>True
 |q::r=>ZFb P q.1 q.2.1 q.2.2∧MtOk P r
def ZHK:List (yb×String×yu)→yb→String→Option yu
 |[],_,_=>none
 |q::r,t,n=>if q.1=t then if q.2.1=n then some q.2.2 else ZHK r t n else ZHK r t n
theorem Zyo:∀{l:List (yb×String×yu)}{t:yb}{n:String}{g:yu},MtOk P l→ZHK l t n=some g→ZFb P t n g
 |[],_,_,_,_,h=>by cases h
 |q::r,t,n,g,hk,h=>by
  unfold ZHK at h;split at h
  ·rename_i e1;split at h
   ·rename_i e2;cases h;rw[←e1, ←e2];exact hk.1
   ·exact Zyo hk.2 h
  ·exact Zyo hk.2 h
structure SpOk(s:Sp P):Prop where
 l:AllOk s.l
 hd:HdOk P s.hd
 mt:MtOk P s.mt
 ro:AllRo s.ro
theorem ZJ1:HdOk P (λ_ _ _ _ _=>none):=λ_ _ _ _ _ _ h=>by cases h
theorem okS{l:List (Fs P)}(h:AllOk l):SpOk ({ l:=l}:Sp P):=⟨h,ZJ1,trivial,ytt⟩
mutual
def TD.look:TD→List Nat
 |.ref id _=>[id]
 |.own id _ _ _=>[id]
 |.view id _ _ _ _=>[id]
 |.mp id=>[id]
 |.rv id _ _ _ _=>[id]
 |.rref id _ _=>[id]
 |.rw id=>[id]
 |.rp id _=>[id]
 |.agg xs=>TD.looks xs
 |.arr _ _ xs=>TD.looks xs
 |.fn _ xs=>TD.looks xs
 |.iface _ x=>TD.look x
 |.tup xs=>TD.looks xs
 |_=>[]
def TD.looks:List TD→List Nat
 |[]=>[]
 |x::r=>TD.look x++TD.looks r
end
def TEnt.look:TEnt→List Nat
 |.var d _=>d.look
 |.row _ _ _ _ d=>d.look
 |.rowM _ _ _ _ _ _ d _=>d.look
 |_=>[]
def Zqh(h:List TEnt):Nat→List Nat→List Nat→List Nat
 |0,_,got=>got
 |_+1,[],got=>got
 |k+1,id::r,got=>if got.contains id then Zqh h k r got else Zqh h k (((h[id]?).map TEnt.look).getD []++r) (id::got)
def inT(sp:Sp P)(g:yu)(all:List TD)(H:List TEnt)(K:Kn O)(args:List TD):Option O:=
 let ids:=Zqh H 100000 (TD.looks args) []
 if once ids then(TD.rns (toIds ids) (args.map (TD.argI (lk H) ids))).bind λa2=>(YV H ids ids).bind λHin=>
  sp.hd O g a2 Hin λr Hn=>ZJ0 all H K ids r Hn
 else none
def ZAQ(g:yu)(all:List TD)(H:List TEnt)(K:Kn O)(args:List TD)(other:Option O):List (Rs P)→Option O
 |[]=>other
 |s::rest=>if s.g=g then(ZK2 H s.ps s.es args).bind λids=>(YV H ids ids).bind λHin=>if(once ids&& !ids.isEmpty&&ESh.exs s.es Hin)=true then
   (TD.rns (toIds ids) (args.map (TD.argI (lk H) ids))).bind λa2=>(Sh.mts (lk Hin) s.ps a2).bind λq=>(ESh.mts (lk Hin) s.es Hin).bind λw=>(toD s.ins (q.2++w.2)).bind λx=>
     (s.M x).bind λy=>(Sh.fill s.r (ofD s.t y)).bind λq=>(q.1.rn λ_=>none).bind λr'=>K all r' H [.call (q.1.er (lk Hin)) (erH Hin) ids] 3
   else none
  else ZAQ g all H K args other rest
def ZK4(sp:Sp P)(g:yu)(all:List TD)(H:List TEnt)(K:Kn O)(args:List TD):Option O:=ZAQ g all H K args (ZwE g all H K args (inT sp g all H K args) sp.l) sp.ro
def ZbG(h:List TEnt):List Sh→List TD→Option (List TV×List Pl)
 |[],[]=>some ([],[])
 |.v t::r,d::q=>(ZwA h 100 t d).bind λy=>(ZbG h r q).map λw=>(⟨t,y⟩::w.1,t.enc y::w.2)
 |_,_=>none
def TD.flatP:TD→Option Pl
 |.p (.v t x)=>if t.flat=true then some (t.enc x) else none
 |_=>none
mutual
theorem Zns:∀(t:Ty)(x:t.den),t.flat=true→(t.enc x).flat=true
 |.int _,_,_=>rfl
 |.u8,_,_=>rfl
 |.u32,_,_=>rfl
 |.u64,_,_=>rfl
 |.bool,_,_=>rfl
 |.str,_,h=>by cases h
 |.sl _,_,h=>by cases h
 |.arr n t,x,h=>by
  have key:∀l:List t.den,Pl.flats (l.map t.enc)=true:=by
   intro l
   induction l with
   |nil=>rfl
   |cons y r ih=>rw[yad,Pl.flats,Zns t y h,ih];rfl
  exact key x
 |.st fs,x,h=>encs_flat fs x h
theorem encs_flat:∀(fs:List Ty)(x:Ty.dens fs),Ty.flats fs=true→Pl.flats (Ty.encs fs x)=true
 |[],_,_=>rfl
 |[t],x,h=>by
  simp only[Ty.flats,Bool.and_true] at h;rw[Ty.encs,Pl.flats,Zns t x h]
  rfl
 |t::u::r,x,h=>by
  have h':(t.flat&&Ty.flats (u::r))=true:=h;rw[yi] at h';rw[Ty.encs,Pl.flats,Zns t x.1 h'.1,encs_flat (u::r) x.2 h'.2];rfl
end
theorem Ztb{d:TD}{p:Pl}{L:Lk}(h:d.flatP=some p):d.er L=.p p∧p.flat=true:=by
 cases d with
 |p x=>
  cases x with
  |v t y=>
   replace h:(if t.flat=true then some (t.enc y) else none)=some p:=h
   split at h
   ·rename_i hf;cases h;exact⟨rfl,Zns t y hf⟩
   ·cases h
  |_=>cases h
 |_=>cases h
def ZAR(g:yu)(all:List TD)(H:List TEnt)(K:Kn O)(args:List TD)(other:Option O):List (Fs P)→Option O
 |[]=>other
 |s::rest=>if s.g=g∧s.es.isEmpty=true then match (Dv.rvsOf (TD.ers (lk H) (args.map (TD.argI (lk H) [])))).bind λid=>ZbG (Zs7 id H) s.ps (args.map (TD.argI (lk H) [])) with
   |some q=>(toD s.ins q.1).bind λx=>(s.M x).bind λy=>xT 1 s.xs y λ_ rs Hn=>match rs,Hn with
    |[r],[]=>r.flatP.bind λp=>K all r H [.el (.agg q.2),.call (.p p) [] []] 1
    |_,_=>none
   |none=>ZAR g all H K args other rest
  else ZAR g all H K args other rest
def ZK5(sp:Sp P)(g:yu)(all:List TD)(H:List TEnt)(K:Kn O)(args:List TD):Option O:=ZAQ g all H K args (ZwE g all H K args (ZAR g all H K args (inT sp g all H K args) sp.l) sp.l) sp.ro
structure CallOk(P:yg)(g:yu)(all args:List TD)(H:List TEnt)(a':List TD)(d:TD)(H':List TEnt)(hs:List Hint)(cls:Nat):Prop where
 same:TD.ers (lk H') a'=TD.ers (lk H) all
 len:a'.length=all.length
 op:∃(ids:List Nat)(Hin Hn Hb:List Ent)(az:List Dv)(r:Dv),once ids=true∧ids.length≤Hn.length∧subEnts (erH H) ids ids=some Hin∧
  Dv.rns (toIds ids) (TD.ers (lk H) (args.map (TD.argI (lk H) ids)))=some az∧Con P g az Hin r Hn∧r.rn (fromIds ids H.length)=some (d.er (lk H'))∧Ent.rns (fromIds ids H.length) Hn=some Hb∧
  erH H'=putBack (erH H) ids Hb∧hs=[.call r Hn ids]∧(cls=2∧¬(ids=[]∧Hn=[])∨(cls=3∧erH H'=erH H∧¬(ids=[]∧Hn=[]))∨cls=0∧ids=[]∧Hn=[]∧H'=H∧a'=all∧r=d.er (lk H')∧r.rn (λ_=>none)=some r)
theorem ZwF{g:yu}{args:List TD}{ids:List Nat}{Hin:List TEnt}{az:List Dv}{r4:TD}{Hn:List TEnt}(honce:once ids=true)(p1:YV H ids ids=some Hin)(p2:subEnts (erH H) ids ids=some (erH Hin))
 (p3:Dv.rns (toIds ids) (TD.ers (lk H) (args.map (TD.argI (lk H) ids)))=some az) (hcon':Con P g az (erH Hin) (r4.er (lk Hn)) (erH Hn)) (h9:ZJ0 all H K ids r4 Hn=some out):
 ∃a d H' hs c,K a d H' hs c=some out∧CallOk P g all args H a d H' hs c:=by
 unfold ZJ0 at h9;split at h9
 ·rename_i hem;rw[yi] at hem;have i1:ids=[]:=by simpa using hem.1
  have i2:Hn=[]:=by simpa using hem.2
  subst i1;subst i2;obtain⟨r',hr',h9⟩:=yc.1 h9;have f1:=ZdC (L:=lk []) (M:=lk H) (λid j t e=>by cases e) _ _ hr';have f2:=V3 (f:=λ_=>none) _ _ f1;have f3:r4.er (lk [])=r'.er (lk H):=ybe (f2.symm.trans f1);have hin0:Hin=[]:=by cases p1;rfl
  subst hin0;refine⟨_,_,_,_,_,h9,rfl,rfl,[],[],[],[],az,r4.er (lk []),rfl,ym _,rfl,p3,hcon', ?_,rfl, ?_,rfl,.inr (.inr ⟨rfl,rfl,rfl,rfl,rfl,f3,f2⟩)⟩
  ·rw[←f3];exact V3 _ _ f1
  ·rw[Zp3]
 rename_i hne;obtain⟨r',hr',h9⟩:=yc.1 h9;obtain⟨Hb,hHb,h9⟩:=yc.1 h9;obtain⟨hk,h9⟩:=Za h9;simp only[yi,decide_eq_true_eq] at hk;obtain⟨⟨k1,k2⟩,k3⟩:=hk;obtain⟨b1,b2⟩:=ZAN hHb;obtain⟨s1,s2⟩:=ZcI p1
 have hlt:∀i,i∈ids→i < H.length:=λi hi=>by
  obtain⟨j,hj⟩:=List.getElem?_of_mem hi;exact(s2 j i hj).1
 have hlo:Lo ids H.length (lk H) (lk (putBack (H.map (TEnt.lay (lk H) ids)) ids Hb)):=by
  intro id t hn hl;unfold ZS lk;dsimp only
  rw[WC _ _ _ id (by rw[b1];exact k1) (by rw[yx];exact hl) (λhm=>by
   rw[List.contains_eq_any_beq] at hn;simp at hn;exact hn id hm rfl),yaf,ZJY]
 have hrc:Rc (fromIds ids H.length) (lk Hn) (lk (putBack (H.map (TEnt.lay (lk H) ids)) ids Hb)):=by
  intro j i t e
  have key:lk (putBack (H.map (TEnt.lay (lk H) ids)) ids Hb) i=lk Hn j:=by
   show lkE ((putBack (H.map (TEnt.lay (lk H) ids)) ids Hb)[i]?)=lkE (Hn[j]?);rw[←b2 j];unfold fromIds at e;split at e
   ·rw[Zdt _ _ _ j i honce (by rw[b1];exact k1) (λi hi=>by rw[yx];exact hlt i hi) e]
   ·rename_i hj;cases e;have:=ZeL (H.map (TEnt.lay (lk H) ids)) ids Hb j (by rw[b1];exact k1) (by omega);rw[yx] at this;rw[this]
  unfold ZS;rw[key]
 have e2:(putBack (H.map (TEnt.lay (lk H) ids)) ids Hb).map (TEnt.er (lk (putBack (H.map (TEnt.lay (lk H) ids)) ids Hb)))=putBack (erH H) ids (Hb.map (TEnt.er (lk (putBack (H.map (TEnt.lay (lk H) ids)) ids Hb)))):=by
  rw[Zqf,yaw];congr 1;refine ycg λe he=> ?_;exact ZJX hlo (yba.1 k3 e he)
 have f1:=ZdC hrc _ _ hr';have f2:=ZEn hrc _ _ hHb;refine⟨_,_,_,_,_,h9,ers_lay hlo all k2,ZAO all,ids,erH Hin,erH Hn,_,az,r4.er (lk Hn),honce,by rw[Zx];exact k1,p2,p3,hcon',f1,f2,e2,rfl,.inl ⟨rfl,λhh=>hne ?_⟩⟩;have i2:Hn=[]:=by have:=hh.2;unfold erH at this;simpa using this
 rw[i2,hh.1];rfl
theorem Zvb{args:List TD}{s:Fs P}{ids:List Nat}{x:Ty.dens s.ins}(ok:s.Ok)(hp:Zyn s H args ids=some x)(h:Zta s all H K args ids x=some out):
 ∃a d H' hs c,K a d H' hs c=some out∧CallOk P s.g all args H a d H' hs c:=by
 unfold Zta at h;obtain⟨y,hM,h0⟩:=yc.1 h;obtain⟨e,vs,s',hsel,hfs,h9⟩:=Znq h0;clear h0 h;obtain⟨honce,Hin,a2,a3,H3,R,p1,p2,p3,p4,p5,p6,p7⟩:=ZJZ hp;obtain⟨args,R1,H4,q1,q2,hcon⟩:=ok x y hM;obtain⟨r4,hr4,hcon⟩:=hcon e vs s' hsel hfs;rw[hr4] at h9;dsimp only at h9;rw[p4] at q1;cases q1;rw[p5] at q2;cases q2;generalize s'.2=Hn at h9 hcon;exact ZwF honce p1 p2 p3 (ZDY hcon p6 p7) h9
theorem ZgY{Q:List TD→TD→List TEnt→List Hint→Nat→Prop}{g:yu}{args:List TD}{other:Option O}(hQ:∀{a d H' hs c},CallOk P g all args H a d H' hs c→Q a d H' hs c)(ho:other=some out→∃a d H' hs c,K a d H' hs c=some out∧Q a d H' hs c):∀{l:List (Fs P)},AllOk l→ZwE g all H K args other l=some out→
 ∃a d H' hs c,K a d H' hs c=some out∧Q a d H' hs c
 |[],_,h=>ho h
 |s::r,ok,h=>by
  unfold ZwE at h;split at h
  ·rename_i hg;split at h
   ·rename_i q hq;obtain⟨ids,h1,hq⟩:=yc.1 hq;obtain⟨x,h2,rfl⟩:=Zc hq;obtain⟨a,d,H',hs,c,k1,k2⟩:=Zvb ok.1 h2 h;exact⟨a,d,H',hs,c,k1,hQ (hg ▸ k2)⟩
   ·exact ZgY hQ ho ok.2 h
  ·exact ZgY hQ ho ok.2 h
theorem ZAS{sp:Sp P}{g:yu}{args:List TD}(ok:SpOk sp)(h:inT sp g all H K args=some out):∃a d H' hs c,K a d H' hs c=some out∧CallOk P g all args H a d H' hs c:=by
 unfold inT at h;dsimp only at h;generalize Zqh H 100000 (TD.looks args) []=ids at h;obtain⟨ho,h⟩:=Za h;obtain⟨a2,h1,h⟩:=yc.1 h;obtain⟨Hin,h2,h⟩:=yc.1 h;obtain⟨r,Hn,h3,h4⟩:=ok.hd _ _ _ _ _ _ h;exact ZwF ho h2 (YI (Wv h2) h2) (rns_er (Wv h2) _ _ h1) h4 h3
theorem Zl3{Q:List TD→TD→List TEnt→List Hint→Nat→Prop}{g:yu}{args:List TD}{other:Option O}(hQ:∀{a d H' hs c},CallOk P g all args H a d H' hs c→Q a d H' hs c)(ho:other=some out→∃a d H' hs c,K a d H' hs c=some out∧Q a d H' hs c):∀{l:List (Rs P)},AllRo l→ZAQ g all H K args other l=some out→
 ∃a d H' hs c,K a d H' hs c=some out∧Q a d H' hs c
 |[],_,h=>ho h
 |s::r,ok,h=>by
  unfold ZAQ at h;split at h
  ·rename_i hg;obtain⟨ids,_,h⟩:=yc.1 h;obtain⟨Hin,h2,h⟩:=yc.1 h;obtain⟨hk,h⟩:=Za h;simp only[yi,Bool.not_eq_true',List.isEmpty_eq_false_iff] at hk;obtain⟨⟨k1,k2⟩,k3⟩:=hk;obtain⟨a2,h3,h⟩:=yc.1 h;obtain⟨q,h4,h⟩:=yc.1 h;obtain⟨⟨w1,w2⟩,h5,h⟩:=yc.1 h;obtain⟨x,h6,h⟩:=yc.1 h;obtain⟨y,h7,h⟩:=yc.1 h;obtain⟨z,h8,h⟩:=yc.1 h;obtain⟨r',h9,h⟩:=yc.1 h;have hw:w1=Hin:=ZAP k3 h5;subst hw;obtain⟨az,R,H3,q1,q2,hcon⟩:=ok.1 x y h7;have e:=QR _ _ _ h6;rw[e,mts_fills _ _ _ h4 _] at q1;cases q1;have q3:=V7 h5 [];rw[ybj] at q3;rw[q3] at q2;cases q2;have hcon:=hcon z h8;have p2:=YI (Wv h2) h2;have p3:=rns_er (Wv h2) _ _ h3;have hcon:=ZDY hcon (mts_wk (λ_ _=>rfl) _ _ _ h4) (WkH.refl _);have f1:=ZdC (f:=λ_=>none) (L:=lk w1) (M:=lk H) (λid j t e=>by cases e) _ _ h9;have f2:=V3 (f:=λ_=>none) _ _ f1;have f3:z.1.er (lk w1)=r'.er (lk H):=ybe (f2.symm.trans f1);obtain⟨Hb,b1,b2⟩:=ZHJ k1 p2;have hlen:=(ZcI h2).1;refine⟨_,_,_,_,_,h,hQ ⟨rfl,rfl,ids,erH w1,erH w1,Hb,TD.ers (lk w1) a2,z.1.er (lk w1),k1,by rw[Zx];omega,p2,p3,hg ▸ hcon, ?_,by rw[←Zx H];exact b1,b2.symm,rfl,.inr (.inl ⟨rfl,rfl,λhh=>k2 hh.1⟩)⟩⟩;rw[←f3];exact V3 _ _ f1
  ·exact Zl3 hQ ho ok.2 h
theorem ZHL{sp:Sp P}{g:yu}{args:List TD}(ok:SpOk sp)(h:ZK4 sp g all H K args=some out):∃a d H' hs c,K a d H' hs c=some out∧CallOk P g all args H a d H' hs c:=
 Zl3 (λh=>h) (λh=>ZgY (λh=>h) (λh=>ZAS ok h) ok.l h) ok.ro h
structure BrwOk(P:yg)(g:yu)(all args:List TD)(H:List TEnt)(a':List TD)(d:TD)(H':List TEnt)(hs:List Hint)(cls:Nat):Prop where
 hall:a'=all
 hH:H'=H
 hcls:cls=1
 op:∃(id:Nat)(ps:List Pl)(p:Pl),Dv.rvsOf (TD.ers (lk H) (args.map (TD.argI (lk H) [])))=some id∧d.er (lk H)=.p p∧p.flat=true∧hs=[.el (.agg ps),.call (.p p) [] []]∧Lent id (rdE ((erH H)[id]?)) (TD.ers (lk H) (args.map (TD.argI (lk H) []))) ps∧Con P g (ps.map Dv.p) [] (.p p) []
theorem ZEo{h:List TEnt}:∀{ps:List Sh}{ds:List TD}{q:List TV×List Pl},ZbG h ps ds=some q→∃es,Sh.fills ps q.1=some (es,[])∧(∀L,TD.ers L es=q.2.map Dv.p)∧ds.length=q.2.length∧
 ∀(i:Nat)(d:Dv)(y:Pl),(TD.ers (lk h) ds)[i]? =some d→q.2[i]? =some y→DeepR (erH h) d y
 |[],[],q,k=>by cases k;exact⟨[],rfl,λ_=>rfl,rfl,λi d y k=>by simp[TD.ers] at k⟩
 |.v t::r,d::ds,q,k=>by
  unfold ZbG at k;obtain⟨y,h1,k⟩:=yc.1 k;obtain⟨w,h2,rfl⟩:=Zc k;obtain⟨es,f1,f2,f3,f4⟩:=ZEo h2;refine⟨.p (.v t y)::es, ?_,λL=> ?_,by simp[f3],λi d' z k1 k2=> ?_⟩
  ·have e1:Sh.fill (.v t) (⟨t,y⟩::w.1)=some (.p (.v t y),w.1):=congrArg (Option.map λz:t.den=>(TD.p (.v t z),w.1)) (Ya t y);simp only[Sh.fills,e1,yf,f1,yz]
  ·rw[TD.ers,f2];rfl
  ·cases i with
   |zero=>cases k1;cases k2;exact Znr _ _ _ _ h1
   |succ i=>exact f4 i d' z k1 k2
 |[],_::_,_,k=>by simp[ZbG] at k
 |.v _::_,[],_,k=>by simp[ZbG] at k
 |.elem _::_,_,_,k=>by simp[ZbG] at k
 |.nil _::_,_,_,k=>by simp[ZbG] at k
 |.sl _ _::_,_,_,k=>by simp[ZbG] at k
 |.own _ _::_,_,_,k=>by simp[ZbG] at k
 |.ref _ _::_,_,_,k=>by simp[ZbG] at k
 |.mp _::_,_,_,k=>by simp[ZbG] at k
 |.rw _::_,_,_,k=>by simp[ZbG] at k
 |.rp _ _ _::_,_,_,k=>by simp[ZbG] at k
 |.view _ _ _ _ _::_,_,_,k=>by simp[ZbG] at k
 |.rv _ _ _ _ _::_,_,_,k=>by simp[ZbG] at k
 |.fn _ _::_,_,_,k=>by simp[ZbG] at k
 |.agg _::_,_,_,k=>by simp[ZbG] at k
 |.arr _ _ _::_,_,_,k=>by simp[ZbG] at k
 |.tup _::_,_,_,k=>by simp[ZbG] at k
 |.iface _ _::_,_,_,k=>by simp[ZbG] at k
 |.ptr0::_,_,_,k=>by simp[ZbG] at k
 |.fn0::_,_,_,k=>by simp[ZbG] at k
 |.if0::_,_,_,k=>by simp[ZbG] at k
 |.map0::_,_,_,k=>by simp[ZbG] at k
 |.junk::_,_,_,k=>by simp[ZbG] at k
theorem ZwG{σ:Sg}(ok:Ok σ):∀{ds:List Dv}{ps:List Pl}{vs:List Value},ds.length=ps.length→(∀(i:Nat)(d:Dv)(y:Pl),ds[i]? =some d→ps[i]? =some y→DeepR σ.H d y)→repVs σ ds vs→repVs (ZoJ σ) (ps.map Dv.p) vs
 |[],[],vs,_,_,h=>by simpa[repVs] using h
 |[],_::_,_,hl,_,_=>by simp at hl
 |_::_,[],_,hl,_,_=>by simp at hl
 |d::ds,y::ps,vs,hl,hk,h=>by
  simp only[repVs] at h;obtain⟨v,vs',rfl,h2,h3⟩:=h;have h4:=ZD1 ok (hk 0 d y rfl rfl) (v:=v) h2
  have mono:∀(b o:Nat)(v:Value),σ.w.cell? ⟨b,o,none⟩=some v→σ.stab b o→(ZoJ σ).w.cell? ⟨b,o,none⟩=some v∧(ZoJ σ).stab b o:=λb o v h _=>⟨h,by
   rcases ybp b σ.w.heap.size with q|q
   ·exact .inl q
   ·exact .inr q,λid e q=>by simp[ZoJ] at q⟩
  rw[yad];simp only[repVs];refine⟨v,vs',rfl,⟨λq=> ?_,λq=> ?_⟩,ZwG ok (by simpa using hl) (λi d y h5 h6=>hk (i+1) d y (by simpa using h5) (by simpa using h6)) h3⟩
  ·obtain⟨cs,e1,e2⟩:=h4.1 q;refine⟨cs,e1, ?_⟩;simp only[repD] at e2 ⊢;exact WB mono y _ e2
  ·have:=h4.2 q;simp only[repD] at this ⊢;exact WB mono y _ this
theorem Zl4{g:yu}{args:List TD}{other:Option O}{Q:List TD→TD→List TEnt→List Hint→Nat→Prop}(hQ:∀{a d H' hs c},BrwOk P g all args H a d H' hs c→Q a d H' hs c)(ho:other=some out→∃a d H' hs c,K a d H' hs c=some out∧Q a d H' hs c):∀{l:List (Fs P)},AllOk l→ZAR g all H K args other l=some out→
 ∃a d H' hs c,K a d H' hs c=some out∧Q a d H' hs c
 |[],_,h=>ho h
 |s::r,ok,h=>by
  unfold ZAR at h;split at h
  ·rename_i hg;obtain⟨hg,hes⟩:=hg;split at h
   ·rename_i q hq;obtain⟨id,hid,hq⟩:=yc.1 hq;obtain⟨x,h6,h⟩:=yc.1 h;obtain⟨y,h7,h⟩:=yc.1 h;obtain⟨e,vs,s',hsel,hfs,h9⟩:=Znq h;split at h9
    ·rename_i rr hr1 hr2;obtain⟨p,hp,h9⟩:=yc.1 h9;obtain⟨az,R,H3,q1,q2,hcon⟩:=ok.1 x y h7;obtain⟨r4,hr4,hcon⟩:=hcon e vs s' hsel hfs;rw[hr1] at hr4;cases hr4;obtain⟨es,f1,f2,f3,f4⟩:=ZEo hq;rw[QR _ _ _ h6,f1] at q1;cases q1;have hes':s.es=[]:=by simpa using hes
     rw[hes'] at q2
     have:H3=[]:=by
      simp only[ESh.fills,yj,Prod.mk.injEq] at q2;exact q2.1.symm
     subst this;rw[hr2,f2] at hcon;obtain⟨hrr,hfl⟩:=Ztb (L:=lk s'.2) hp;obtain⟨hrr2,_⟩:=Ztb (L:=lk H) hp;rw[hr2] at hrr;rw[hrr] at hcon;refine⟨_,_,_,_,_,h9,hQ ⟨rfl,rfl,rfl,id,q.2,p,hid,hrr2,hfl,rfl, ?_,hg ▸ hcon⟩⟩;intro σ vs okσ hH hv;obtain⟨H2,hw,hdeep⟩:=ZFJ okσ hH;obtain⟨to,ok'⟩:=ZkY (H':=H2) okσ hw;have hlen:(TD.ers (lk H) (args.map (TD.argI (lk H) []))).length=q.2.length:=by rw[QK];exact f3
     have hv':repVs { σ with H:=H2} (TD.ers (lk H) (args.map (TD.argI (lk H) []))) vs:=repVs_leaf to.leaf _ _ hv;have hlk:lk (Zs7 id H)=lk H:=ZAM _ _;exact ZwG (σ:={ σ with H:=H2}) ok' hlen (λi d y k1 k2=>hdeep _ _ (f4 i d y (by rw[hlk];exact k1) k2)) hv'
    ·cases h9
   ·exact Zl4 hQ ho ok.2 h
  ·exact Zl4 hQ ho ok.2 h
theorem ZHM{sp:Sp P}{g:yu}{args:List TD}(ok:SpOk sp)(h:ZK5 sp g all H K args=some out):∃a d H' hs c,K a d H' hs c=some out∧(CallOk P g all args H a d H' hs c∨BrwOk P g all args H a d H' hs c):=
 Zl3 .inl (λh=>ZgY .inl (λh=>Zl4 .inr (λh=>by
  obtain⟨a,d,H',hs,c,k1,k2⟩:=ZAS ok h;exact⟨a,d,H',hs,c,k1,.inl k2⟩) ok.l h) ok.l h) ok.ro h
theorem ZFK{c:Call}{f:yn}{g:yu}{cap az:List TD}{a:List TD}{d:TD}{H':List TEnt}{hs:List Hint}{cls:Nat}(ho:o.op=.call c)(hc:c.callee=.value f)(hf:arT P ts 0 f=some (.fn g cap))
 (hb:(VE P (ZaC g)&&c.args.size==c.argTypes.size)=true) (ha:Zqg P ts c.args.toList c.argTypes.toList=some az) (h:CallOk P (ZaC g) all (if g < big then az++cap else cap++az) H a d H' hs cls):Good P o ts all H a d H' hs cls:=by
 have hfv:=Zn (L:=lk H) hf;obtain⟨ids,Hin,Hn,Hb,az',r,honce,hle,p2,p3,hcon,f1,f2,e2,rfl,hcl⟩:=h.op
 have ea:ZM P ids (TD.ers (lk H) ts) c g (TD.ers (lk H) cap)=TD.ers (lk H) ((if g < big then az++cap else cap++az).map (TD.argI (lk H) ids)):=by
  unfold ZM;split
  ·rw[Zgd ids ha,ZrU,yaj,Zv,Zv,Zv,yaj]
  ·rw[Zgd ids ha,ZrU,yaj,Zv,Zv,Zv,yaj]
 have ge:¬(ids=[]∧Hn=[])→GoodE P o ts H d H' [.call r Hn ids]:=λhne=>by
  refine⟨λrest=> ?_,λrest=> ?_,[Con P (ZaC g) az' Hin r Hn],⟨hcon,ytt⟩,λrest=> ?_⟩
  ·unfold evN;rw[ho];dsimp only;rw[hc];dsimp only;rw[hfv];dsimp only[TD.er];rw[yaa,yv];split
   ·rename_i e1 e2;exfalso;simp only[List.cons.injEq,Hint.call.injEq] at e2;exact hne ⟨e2.1.2.2,e2.1.2.1⟩
   ·rename_i e2;cases e2
   ·rfl
  ·unfold evR;rw[ho];dsimp only;rw[hc];dsimp only;rw[hfv];rfl
  ·unfold evE;rw[ho];dsimp only;rw[hc];dsimp only;rw[hfv];dsimp only[TD.er];rw[yaa,yv];dsimp only;rw[if_pos (by simp only[yi,decide_eq_true_eq] at hb ⊢;exact⟨⟨hb,honce⟩,hle⟩)];rw[ea,p3,p2,Zx,f1,f2];dsimp only;rw[e2]
 rcases hcl with⟨rfl,hne⟩|⟨rfl,hsm,hne⟩|⟨rfl,rfl,rfl,rfl,rfl,rfl,hrn⟩
 ·exact⟨h.same,h.len,or3 ⟨rfl,ge hne⟩⟩
 ·exact⟨h.same,h.len,.inr (.inr (.inr ⟨rfl,hsm,ge hne⟩))⟩
 ·refine⟨h.same,h.len,.inl ⟨rfl,rfl,[Con P (ZaC g) az' [] (d.er (lk H')) []],⟨?_,ytt⟩,λrest=> ?_⟩⟩
  ·cases p2;exact hcon
  ·unfold evN;rw[ho];dsimp only;rw[hc];dsimp only;rw[hfv];dsimp only[TD.er];rw[yaa,yv];dsimp only;rw[if_pos hb,ea, ←Zdu,p3,Zdu,hrn]
theorem ZHN{c:Call}{f:yn}{g:yu}{cap az:List TD}{a:List TD}{d:TD}{H':List TEnt}{hs:List Hint}{cls:Nat}(ho:o.op=.call c)(hc:c.callee=.value f)(hf:arT P ts 0 f=some (.fn g cap))
 (hb:(VE P (ZaC g)&&c.args.size==c.argTypes.size)=true) (ha:Zqg P ts c.args.toList c.argTypes.toList=some az) (h:BrwOk P (ZaC g) all (if g < big then az++cap else cap++az) H a d H' hs cls):Good P o ts all H a d H' hs cls:=by
 have hfv:=Zn (L:=lk H) hf;obtain⟨rfl,rfl,rfl,id,ps,p,hid,e1,e2,rfl,hl,hcon⟩:=h
 have ea:ZM P [] (TD.ers (lk H') ts) c g (TD.ers (lk H') cap)=TD.ers (lk H') ((if g < big then az++cap else cap++az).map (TD.argI (lk H') [])):=by
  unfold ZM;split
  ·rw[Zgd [] ha,ZrU,yaj,Zv,Zv,Zv,yaj]
  ·rw[Zgd [] ha,ZrU,yaj,Zv,Zv,Zv,yaj]
 refine⟨rfl,rfl,.inr (.inl ⟨rfl,rfl,λrest=> ?_,[Lent id (rdE ((erH H')[id]?)) (ZM P [] (TD.ers (lk H') ts) c g (TD.ers (lk H') cap)) ps,Con P (ZaC g) (ps.map Dv.p) [] (.p p) []],⟨by rw[ea];exact hl,hcon,ytt⟩,λrest=> ?_⟩)⟩
 ·unfold evN;rw[ho];dsimp only;rw[hc];dsimp only;rw[hfv];rfl
 ·unfold evR;rw[ho];dsimp only;rw[hc];dsimp only;rw[hfv];dsimp only[TD.er];rw[yaa,yaa,yv];dsimp only;rw[show Dv.rvsOf (ZM P [] (TD.ers (lk H') ts) c g (TD.ers (lk H') cap))=some id by rw[ea];exact hid];dsimp only;rw[if_pos (by simp only[yi] at hb ⊢;exact⟨hb,e2⟩),e1]
theorem ZFL{c:Call}{recv:yn}{name:String}{t:yb}{x:TD}{g:yu}{az:List TD}{a:List TD}{d:TD}{H':List TEnt}{hs:List Hint}{cls:Nat}(ho:o.op=.call c)(hc:c.callee=.invoke recv name)(hf:arT P ts 0 recv=some (.iface t x))
 (hm:ZFb P t name g) (hb:(VE P g&&c.args.size==c.argTypes.size)=true) (ha:Zqg P ts c.args.toList c.argTypes.toList=some az) (h:CallOk P g all (x::az) H a d H' hs cls):Good P o ts all H a d H' (.meth g::hs) 2:=by
 have hfv:=Zn (L:=lk H) hf;obtain⟨ids,Hin,Hn,Hb,az',r,honce,hle,p2,p3,hcon,f1,f2,e2,rfl,hcl⟩:=h.op
 have ea:(x.er (lk H)).argI ids::ZM P ids (TD.ers (lk H) ts) c 0 []=TD.ers (lk H) ((x::az).map (TD.argI (lk H) ids)):=by
  unfold ZM;rw[if_pos (by decide),Zgd ids ha,List.map_nil,ybj,yad,TD.ers,Zym]
 refine⟨h.same,h.len,or3 (⟨rfl,λrest=> ?_,λrest=> ?_,[ZFb P t name g,Con P g az' Hin r Hn],⟨hm,hcon,ytt⟩,λrest=> ?_⟩)⟩
 ·unfold evN;rw[ho];dsimp only;rw[hc]
 ·unfold evR;rw[ho];dsimp only;rw[hc]
 ·unfold evE;rw[ho];dsimp only;rw[hc];dsimp only;rw[hfv];dsimp only[TD.er];rw[yaa,yaa,yv];dsimp only;rw[if_pos (by simp only[yi,decide_eq_true_eq] at hb ⊢;exact⟨⟨hb,honce⟩,hle⟩)];rw[ea,p3,p2,Zx,f1,f2];dsimp only;rw[e2]
end
end Go.Ev
end
