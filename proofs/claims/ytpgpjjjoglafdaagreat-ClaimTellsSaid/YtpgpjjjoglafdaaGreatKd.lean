/- Parts of the proof, in one file. -/
import Derived.Test.YtpgpjjjoglafdaaGreatKc
open Bool renaming and_eq_true → yj, false_eq_true → yby, or_eq_true → ycg
open Go renaming TypeId → yc, Program → yg, Operand → yn, FuncId → yw
open List renaming length_append → yo, getElem?_eq_some_iff → yq, range → yr, replicate → yv, nil_append → yx, length_map → yy, cons_append → yaa, append_assoc → yab, getElem?_eq_getElem → yac, map_cons → yad, length_cons → yah, getElem?_map → yai, take_length → yaj, map_append → yam, getElem?_eq_none → yan, getElem?_append_left → yap, append_nil → yar, map_map → yav, all_eq_true → yba, getElem?_cons_zero → ybd, map_set → ybn, map_take → ycc, map_nil → ycf, length_replicate → ycj, map_congr_left → ycn, length_nil → yco, getElem?_set_self → ycw, getD_eq_getElem?_getD → ycx
open Nat renaming le_refl → ym
open Option renaming bind_some → ya, bind_eq_some_iff → yf, map_eq_some_iff → yp, map_some → yz
set_option linter.unusedVariables false
set_option linter.unusedSimpArgs false
section
namespace Go.Ev
mutual
theorem Zn2{L M:Lk}(h:∀id t,ZZ L id t none=ZZ M id t none):∀(d:TD),d.er L=d.er M
 |.p _=>rfl
 |.elem _=>rfl
 |.ref _ _=>rfl
 |.own id nn t c=>by
  cases c with
  |none=>rw[TD.er,TD.er,h]
  |some _=>rfl
 |.view _ _ _ _ _=>rfl
 |.agg xs=>by rw[TD.er,TD.er,ers_cont h xs]
 |.arr _ _ xs=>by rw[TD.er,TD.er,ers_cont h xs]
 |.fn _ xs=>by rw[TD.er,TD.er,ers_cont h xs]
 |.iface _ x=>by rw[TD.er,TD.er,Zn2 h x]
 |.tup xs=>by rw[TD.er,TD.er,ers_cont h xs]
 |.mp _=>rfl
 |.rv _ _ _ _ _=>rfl
 |.rref _ _ _=>rfl
 |.rw _=>by simp only[TD.er,Zbb,h]
 |.rp _ _=>by simp only[TD.er,Zbb,h]
 |.junk=>rfl
theorem ers_cont{L M:Lk}(h:∀id t,ZZ L id t none=ZZ M id t none):∀(ds:yL TD),TD.ers L ds=TD.ers M ds
 |[]=>rfl
 |x::r=>by rw[TD.ers,TD.ers,Zn2 h x,ers_cont h r]
end
theorem ZGX{L M:Lk}(h:∀id t,ZZ L id t none=ZZ M id t none)(e:TEnt):e.er L=e.er M:=by
 cases e with
 |var d st=>rw[TEnt.er,TEnt.er,Zn2 h]
 |row v s st e d=>rw[TEnt.er,TEnt.er,Zn2 h]
 |rowM t np v st e pre mid post=>rw[TEnt.er,TEnt.er,Zn2 h]
 |_=>rfl
mutual
def TD.free(n:Nat):TD->Bool
 |.own id _ _ c=>c.isSome || id !=n
 |.rw id=>id !=n
 |.rp id _=>id !=n
 |.agg xs=>TD.frees n xs
 |.arr _ _ xs=>TD.frees n xs
 |.fn _ xs=>TD.frees n xs
 |.iface _ x=>TD.free n x
 |.tup xs=>TD.frees n xs
 |_=>true
def TD.frees(n:Nat):yL TD->Bool
 |[]=>true
 |x::r=>TD.free n x&&TD.frees n r
end
def TEnt.free(n:Nat):TEnt->Bool
 |.var d _=>d.free n
 |.row _ _ _ _ d=>d.free n
 |.rowM _ _ _ _ _ _ d _=>d.free n
 |_=>true
mutual
theorem Zdx{L M:Lk}{n:Nat}(h:∀id t,id≠n->ZZ L id t none=ZZ M id t none):∀(d:TD),d.free n=true->d.er L=d.er M
 |.p _,_=>rfl
 |.elem _,_=>rfl
 |.ref _ _,_=>rfl
 |.own id nn t c,hf=>by
  cases c with
  |none=>
   have:id≠n:=by simpa[TD.free] using hf
   rw[TD.er,TD.er,h id t this]
  |some _=>rfl
 |.view _ _ _ _ _,_=>rfl
 |.agg xs,hf=>by rw[TD.er,TD.er,ers_free h xs hf]
 |.arr _ _ xs,hf=>by rw[TD.er,TD.er,ers_free h xs hf]
 |.fn _ xs,hf=>by rw[TD.er,TD.er,ers_free h xs hf]
 |.iface _ x,hf=>by rw[TD.er,TD.er,Zdx h x hf]
 |.tup xs,hf=>by rw[TD.er,TD.er,ers_free h xs hf]
 |.mp _,_=>rfl
 |.rv _ _ _ _ _,_=>rfl
 |.rref _ _ _,_=>rfl
 |.rw id,hf=>by
  have:id≠n:=by simpa[TD.free] using hf
  simp only[TD.er,Zbb,h id _ this]
 |.rp id _,hf=>by
  have:id≠n:=by simpa[TD.free] using hf
  simp only[TD.er,Zbb,h id _ this]
 |.junk,_=>rfl
theorem ers_free{L M:Lk}{n:Nat}(h:∀id t,id≠n->ZZ L id t none=ZZ M id t none):∀(ds:yL TD),TD.frees n ds=true->TD.ers L ds=TD.ers M ds
 |[],_=>rfl
 |x::r,hf=>by
  simp only[TD.frees,yj] at hf;rw[TD.ers,TD.ers,Zdx h x hf.1,ers_free h r hf.2]
end
mutual
def TD.stale(L:Lk)(n:Nat):TD->TD
 |.own id nn t c=>if id=n then .own id nn t (some (ZZ L id t c)) else .own id nn t c
 |.agg xs=>.agg (TD.stales L n xs)
 |.arr m s xs=>.arr m s (TD.stales L n xs)
 |.fn f xs=>.fn f (TD.stales L n xs)
 |.iface t x=>.iface t (TD.stale L n x)
 |.tup xs=>.tup (TD.stales L n xs)
 |.p x=>.p x
 |.elem x=>.elem x
 |.ref id yQ=>.ref id yQ
 |.view id yQ s lo n=>.view id yQ s lo n
 |.mp id=>.mp id
 |.rv id v s lo n=>.rv id v s lo n
 |.rref id v yQ=>.rref id v yQ
 |.rw id=>if id=n then .rv id (Zbb L id 0) (Zbb L id 1) 0 (Zbb L id 2) else .rw id
 |.rp id yQ=>if id=n then .rref id (Zbb L id 0) yQ else .rp id yQ
 |.junk=>.junk
def TD.stales(L:Lk)(n:Nat):yL TD->yL TD
 |[]=>[]
 |x::r=>TD.stale L n x::TD.stales L n r
end
def TEnt.stale(L:Lk)(n:Nat):TEnt->TEnt
 |.var d st=>.var (d.stale L n) st
 |.row v s st e d=>.row v s st e (d.stale L n)
 |.rowM t np v st e pre d post=>.rowM t np v st e pre (d.stale L n) post
 |e=>e
mutual
theorem ZjJ{L M:Lk}{n:Nat}(h:∀id t,id≠n->ZZ L id t none=ZZ M id t none):∀(d:TD),(d.stale L n).er M=d.er L
 |.p _=>rfl
 |.elem _=>rfl
 |.ref _ _=>rfl
 |.own id nn t c=>by
  rw[TD.stale];split
  ·rfl
  ·rename_i hn
   cases c with
   |none=>rw[TD.er,TD.er,h id t hn]
   |some _=>rfl
 |.view _ _ _ _ _=>rfl
 |.agg xs=>by rw[TD.stale,TD.er,TD.er,ers_stale h xs]
 |.arr _ _ xs=>by rw[TD.stale,TD.er,TD.er,ers_stale h xs]
 |.fn _ xs=>by rw[TD.stale,TD.er,TD.er,ers_stale h xs]
 |.iface _ x=>by rw[TD.stale,TD.er,TD.er,ZjJ h x]
 |.tup xs=>by rw[TD.stale,TD.er,TD.er,ers_stale h xs]
 |.mp _=>rfl
 |.rv _ _ _ _ _=>rfl
 |.rref _ _ _=>rfl
 |.rw id=>by
  rw[TD.stale];split
  ·rfl
  ·rename_i hn
   simp only[TD.er,Zbb,h id _ hn]
 |.rp id _=>by
  rw[TD.stale];split
  ·rfl
  ·rename_i hn
   simp only[TD.er,Zbb,h id _ hn]
 |.junk=>rfl
theorem ers_stale{L M:Lk}{n:Nat}(h:∀id t,id≠n->ZZ L id t none=ZZ M id t none):∀(ds:yL TD),TD.ers M (TD.stales L n ds)=TD.ers L ds
 |[]=>rfl
 |x::r=>by rw[TD.stales,TD.ers,TD.ers,ZjJ h x,ers_stale h r]
end
theorem Zla{L M:Lk}{n:Nat}(h:∀id t,id≠n->ZZ L id t none=ZZ M id t none)(e:TEnt):(e.stale L n).er M=e.er L:=by
 cases e with
 |var d st=>rw[TEnt.stale,TEnt.er,TEnt.er,ZjJ h]
 |row v s st e d=>rw[TEnt.stale,TEnt.er,TEnt.er,ZjJ h]
 |rowM t np v st e pre d post=>rw[TEnt.stale,TEnt.er,TEnt.er,ZjJ h]
 |_=>rfl
def TEnt.isLog:TEnt->Bool
 |.log _ _ _=>true
 |.rowT _ _ _ _ _=>true
 |.rowN _ _ _ _ _ _ _=>true
 |.rowM _ _ _ _ _ _ _ _=>true
 |_=>false
theorem ZCk{e:TEnt}(h:e.isLog=false):lkE (some e)=none:=by
 cases e <;> first|rfl|cases h
theorem Zaz{H:yL TEnt}{e:TEnt}(h:e.isLog=false):lk (H++[e])=lk H:=by
 funext id;unfold lk;rcases Nat.lt_trichotomy id H.length with hl|hl|hl
 ·rw[yap hl]
 ·subst hl;rw[List.getElem?_concat_length,ZCk h,yan (ym _)];rfl
 ·rw[yan (by simp;omega),yan (by omega)]
theorem VM{H:yL TEnt}{id:Nat}{e x:TEnt}(hx:H[id]? =some x)(h1:x.isLog=false)(h2:e.isLog=false):lk (H.set id e)=lk H:=by
 funext j;unfold lk;by_cases hj:id=j
 ·subst hj;rw[getElem?_set_eq' hx,hx,ZCk h1,ZCk h2]
 ·rw[getElem?_set_ne' hj]
theorem ZaA{H:yL TEnt}{e:TEnt}(h:lk (H++[e])=lk H):erH (H++[e])=erH H++[e.er (lk H)]:=by
 unfold erH;rw[h,yam];rfl
theorem XH{H:yL TEnt}{id:Nat}{e:TEnt}(h:lk (H.set id e)=lk H):erH (H.set id e)=(erH H).set id (e.er (lk H)):=by
 unfold erH;rw[h,ybn]
theorem Zn3{H:yL TEnt}{T:Ty}{e:yc}(id:Nat)(t:Ty):ZZ (lk H) id t none=ZZ (lk (H++[.log T e []])) id t none:=by
 unfold ZZ lk;dsimp only;rcases Nat.lt_trichotomy id H.length with hl|hl|hl
 ·rw[yap hl]
 ·subst hl;rw[List.getElem?_concat_length,yan (ym _)];show[]=(Ty.castL T t []).getD []
  cases h:Ty.castL T t [] with
  |none=>rfl
  |some y=>
   obtain⟨e,h2⟩:=Zx h;subst e;subst h2;rfl
 ·rw[yan (by omega),yan (by simp;omega)]
theorem ZxD{H:yL TEnt}{T:Ty}{e:yc}:erH (H++[.log T e []])=erH H++[.log T.size e []]:=by
 unfold erH;rw[yam];congr 1;exact ycn λx _=>(ZGX (λid t=>Zn3 id t) x).symm
theorem Zch{H:yL TEnt}{e:TEnt}(id:Nat)(t:Ty)(h:id≠H.length):ZZ (lk H) id t none=ZZ (lk (H++[e])) id t none:=by
 unfold ZZ lk;dsimp only;rcases Nat.lt_or_gt_of_ne h with hl|hl
 ·rw[yap hl]
 ·rw[yan (by omega),yan (by simp;omega)]
theorem ZDP{H:yL TEnt}{T:Ty}{e:yc}{l:yL T.den}(h:H.all (TEnt.free H.length)=true):erH (H++[.log T e l])=erH H++[.log T.size e (l.map T.enc)]:=by
 unfold erH;rw[yam];congr 1;refine ycn λx hx=> ?_
 cases x with
 |var d st=>
  rw[TEnt.er,TEnt.er];congr 1
  exact(Zdx (λid t hn=>Zch id t hn) d (yba.1 h _ hx)).symm
 |row v s st e d=>
  rw[TEnt.er,TEnt.er];congr 1
  exact(Zdx (λid t hn=>Zch id t hn) d (yba.1 h _ hx)).symm
 |rowM t np v st e pre d post=>
  rw[TEnt.er,TEnt.er,Zdx (λid t hn=>Zch id t hn) d (yba.1 h _ hx)]
 |_=>rfl
theorem Zag{H:yL TEnt}{n:Nat}{e:TEnt}(L:Lk)(id:Nat)(t:Ty)(h:id≠n):ZZ (lk H) id t none=ZZ (lk ((H.map (TEnt.stale L n)).set n e)) id t none:=by
 have h1:lk ((H.map (TEnt.stale L n)).set n e) id=lk H id:=by
  unfold lk;rw[getElem?_set_ne' (Ne.symm h),yai]
  cases H[id]? with
  |none=>rfl
  |some x=>cases x <;> rfl
 unfold ZZ;rw[h1]
theorem ZGY{H:yL TEnt}{n:Nat}{T:Ty}{e:yc}{l:yL T.den}:erH ((H.map (TEnt.stale (lk H) n)).set n (.log T e l))=(erH H).set n (.log T.size e (l.map T.enc)):=by
 unfold erH;rw[ybn,yav];congr 1;refine ycn λx hx=> ?_;exact Zla (λid t hn=>Zag (lk H) id t hn) x
def TP.isV:TP->yO (Σ t:Ty,t.den)
 |.v t x=>some ⟨t,x⟩
 |_=>none
def TP.setF:TP->Nat->TP->yO TP
 |.v (.st fs) x,i,z=>match z.isV with
  |some q=>(Ty.upd fs x i q.1 q.2).map (.v (.st fs))
  |none=>some (.agg ((Ty.flds fs x).set i z))
 |.agg l,i,z=>some (.agg (l.set i z))
 |_,_,_=>none
theorem ZJI{x y z:TP}{i:Nat}(h:x.setF i z=some y):∀xs,x.pe=.agg xs->y.pe=.agg (xs.set i z.pe):=by
 cases x with
 |v u a=>
  cases u with
  |st fs=>
   intro xs hx;have hx':Pl.agg (Ty.encs fs a)=.agg xs:=hx;injection hx' with hx';subst hx';simp only[TP.setF] at h;split at h
   ·rename_i q hq;obtain⟨x',h1,rfl⟩:=Zc h
    have hz:z=.v q.1 q.2:=by
     unfold TP.isV at hq;split at hq
     ·cases hq;rfl
     ·cases hq
    show Pl.agg (Ty.encs fs x')=_;rw[ZDE fs a i q.1 q.2 x' h1,hz];rfl
   ·cases h;show Pl.agg (TP.pes ((Ty.flds fs a).set i z))=_;rw[ZbY,ybn, <-ZbY]
    exact congrArg (λl=>Pl.agg (l.set i z.pe)) (Zxo fs a)
  |_=>cases h
 |agg l=>
  intro xs hx;cases h;rw[TP.pe] at hx;injection hx with hx;subst hx
  rw[TP.pe,ZbY,ZbY,ybn]
 |_=>cases h
def ZNe(x:Pl)(i o:Nat):Bool:=
 match x with
 |.agg xs=>o==Pl.sizes (xs.take i)
 |_=>false
def ZKZ(x:TP)(i:Nat):TD->yO TD
 |.p y=>(x.setF i y).map .p
 |d=>x.parts.map λl=>.agg ((l.map .p).set i d)
def ZK0(a:ARow)(i:Nat):TD->yO TD
 |.p z=>(TP.to ZjH z a.t).map λy'=>.p (.v (.arr a.n a.t) (a.l.set i y'))
 |d=>some (.arr a.n a.t.size ((a.l.map λy=>TD.p (.v a.t y)).set i d))
theorem ZLO{L:Lk}(l:yL TP):TD.ers L (l.map .p)=(TP.pes l).map .p:=by
 rw[ZE,ZbY,yav,yav];rfl
abbrev Kg(O:Type):=TD->yL Hint->(TD->yO TD)->yO O
def gpT{O:Type}(L:Lk):yL Stp->TD->Kg O->yO O
 |[],d,K=>K d [] some
 |.fld i o::r,.p x,K=>(x.fld i).bind λz=>if ZNe x.pe i o=true then gpT L r (.p z) λsub hs put=>K sub hs λnew=>(put new).bind λd=>ZKZ x i d else none
 |.ix i s::r,.p x,K=>x.arow.bind λa=>if s=a.t.size then(a.l[i]?).bind λy=>gpT L r (.p (.v a.t y)) λsub hs put=>K sub (.el (a.t.enc y)::hs) λnew=>
   (put new).bind λd=>ZK0 a i d else none
 |.fld i o::r,.agg ds,K=>(ds[i]?).bind λz=>if o=Dv.sizes ((TD.ers L ds).take i) then gpT L r z λsub hs put=>K sub hs λnew=>(put new).map λy=>.agg (ds.set i y) else none
 |.ix i s::r,.arr n s' ds,K=>(ds[i]?).bind λz=>if s=s' then gpT L r z λsub hs put=>K sub hs λnew=>(put new).map λy=>.arr n s' (ds.set i y) else none
 |_,_,_=>none
def Zdy:yL Stp->Nat
 |[]=>0
 |q::r=>q.o+Zdy r
theorem Wg(l:yL Stp):WH l=Zdy l:=by
 have:∀(l:yL Stp)(n:Nat),l.foldl (λn q=>n+q.o) n=n+Zdy l:=by
  intro l
  induction l with
  |nil=>intro n;rfl
  |cons q r ih=>intro n;rw[List.foldl_cons,ih,Zdy];omega
 rw[WH,this];omega
theorem XX{O:Type}{L:Lk}:∀(yQ:yL Stp)(d:TD)(K:Kg O)(out:O),gpT L yQ d K=some out->
 ∃sub hs put C,K sub hs put=some out/\AllP C/\(∀yK,Ye (d.er L) (yQ.map Stp.i) (hs++yK)=some (C,Zdy yQ,sub.er L,yK))/\
  ∀new d',put new=some d'->∀yK,WU (new.er L) (d.er L) (yQ.map Stp.i) (hs++yK)=some (d'.er L)
 |[],d,K,out,h=>⟨d,[],some,[],h,zP,λ_=>rfl,λnew d' h _=>by cases h;rfl⟩
 |q::r,d,K,out,h=>by
  cases q with
  |fld i o=>
   cases d with
   |p x=>
    simp only[gpT] at h;obtain⟨z,h1,h⟩:=yf.1 h;obtain⟨h2,h⟩:=Za h;obtain⟨sub,hs,put,C,k1,k2,k3,k4⟩:=XX r (.p z) _ out h;obtain⟨xs,e1,e2⟩:=ZGF h1
    have h3:o=Pl.sizes (xs.take i):=by
     unfold ZNe at h2;rw[e1] at h2;simpa using h2
    refine⟨sub,hs,_,C,k1,k2,λyK=> ?_,λnew d' hp yK=> ?_⟩
    ·rw[TD.er,e1];show Ye (.p (.agg xs)) (i::r.map Stp.i) (hs++yK)=_;unfold Ye;rw[e2];dsimp only;have:=k3 yK;rw[TD.er] at this;rw[this,yz,Zdy,h3];rfl
    ·obtain⟨d1,p1,hp⟩:=yf.1 hp;have:=k4 new d1 p1 yK;unfold ZKZ at hp;rw[TD.er] at this;rw[TD.er,e1];show WU (new.er L) (.p (.agg xs)) (i::r.map Stp.i) (hs++yK)=_;unfold WU;rw[e2];dsimp only;rw[this];split at hp
     ·obtain⟨x',p3,rfl⟩:=Zc hp;rw[TD.er,TD.er,ZJI p3 xs e1]
     ·rename_i hne;obtain⟨l,p3,rfl⟩:=Zc hp
      have e3:TP.pes l=xs:=by
       have:=ZzO p3;rw[e1] at this;injection this with this;exact this.symm
      rw[TD.er,ZE,ybn, <-ZE,ZLO,e3]
      cases d1 <;> first|rfl|exact absurd rfl (hne _)
   |agg ds=>
    simp only[gpT] at h;obtain⟨z,h1,h⟩:=yf.1 h;split at h
    ·rename_i h2;obtain⟨sub,hs,put,C,k1,k2,k3,k4⟩:=XX r z _ out h;refine⟨sub,hs,_,C,k1,k2,λyK=> ?_,λnew d' hp yK=> ?_⟩
     ·rw[TD.er];show Ye (.agg (TD.ers L ds)) (i::r.map Stp.i) (hs++yK)=_;unfold Ye;rw[Zfu h1];dsimp only;rw[k3 yK,yz,Zdy,h2];rfl
     ·obtain⟨y,p1,rfl⟩:=Zc hp;rw[TD.er];show WU (new.er L) (.agg (TD.ers L ds)) (i::r.map Stp.i) (hs++yK)=_;unfold WU;rw[Zfu h1];dsimp only;rw[k4 new y p1 yK,yz,TD.er,ZE,ZE,ybn]
    ·cases h
   |_=>cases h
  |ix i s=>
   cases d with
   |p x=>
    simp only[gpT] at h;obtain⟨a,h1,h⟩:=yf.1 h;split at h
    ·rename_i hs0;obtain⟨y,h2,h⟩:=yf.1 h;obtain⟨sub,hs,put,C,k1,k2,k3,k4⟩:=XX r (.p (.v a.t y)) _ out h;refine⟨sub,_,_,((a.l.map a.t.enc)[i]? =some (a.t.enc y))::C,k1,⟨ZnW h2,k2⟩,λyK=> ?_,λnew d' hp yK=> ?_⟩
     ·rw[TD.er,VQ h1];show Ye (.p (.arr a.n a.t.size _)) (i::r.map Stp.i) (_::(hs++yK))=_;unfold Ye;dsimp only;have:=k3 yK;rw[TD.er,TP.pe] at this;rw[this,yz,Zdy,hs0];rfl
     ·obtain⟨d1,p1,hp⟩:=yf.1 hp;have:=k4 new d1 p1 yK;unfold ZK0 at hp;rw[TD.er,TP.pe] at this;rw[TD.er,VQ h1];show WU (new.er L) (.p (.arr a.n a.t.size _)) (i::r.map Stp.i) (_::(hs++yK))=_;unfold WU;dsimp only;rw[this];split at hp
      ·rename_i z;obtain⟨y',p3,rfl⟩:=Zc hp;rw[TD.er];dsimp only;rw[Zdw z a.t y' p3, <-ybn];rfl
      ·rename_i hne;cases hp;rw[TD.er,ZE,ybn,yav,yav];cases d1 <;> first|rfl|exact absurd rfl (hne _)
    ·cases h
   |arr n s' ds=>
    simp only[gpT] at h;obtain⟨z,h1,h⟩:=yf.1 h;split at h
    ·rename_i h2;obtain⟨sub,hs,put,C,k1,k2,k3,k4⟩:=XX r z _ out h;refine⟨sub,hs,_,C,k1,k2,λyK=> ?_,λnew d' hp yK=> ?_⟩
     ·rw[TD.er];show Ye (.arr n s' (TD.ers L ds)) (i::r.map Stp.i) (hs++yK)=_;unfold Ye;rw[Zfu h1];dsimp only;rw[k3 yK,yz,Zdy, <-h2];rfl
     ·obtain⟨y,p1,rfl⟩:=Zc hp;rw[TD.er];show WU (new.er L) (.arr n s' (TD.ers L ds)) (i::r.map Stp.i) (hs++yK)=_;unfold WU;rw[Zfu h1];dsimp only;rw[k4 new y p1 yK,yz,TD.er,ZE,ZE,ybn]
    ·cases h
   |_=>cases h
theorem Zbd{H:yL TEnt}{id:Nat}{T:Ty}{v:yL Unit}{st:Bool}{e:yc}{l:yL T.den}(hd:H[id]? =some (.rowT T v st e l)):(TD.rw id).er (lk H)=.rv id v.length T.size 0 l.length/\
 ∀yQ,(TD.rp id yQ).er (lk H)=.rref id v.length (WH yQ) (yQ.map Stp.i):=by
 have h:ZZ (lk H) id (.sl (.st [])) none=([v,yv T.size (),yv l.length ()]:yL (yL Unit)):=by
  unfold ZZ lk;dsimp only;rw[hd];rfl
 refine⟨?_,λyQ=> ?_⟩
 ·rw[TD.er];unfold Zbb;rw[h];show Dv.rv id v.length (yv T.size ()).length 0 (yv l.length ()).length=_;rw[ycj,ycj]
 ·rw[TD.er];unfold Zbb;rw[h];rfl
abbrev Kn(O:Type):=yL TD->TD->yL TEnt->yL Hint->Nat->yO O
def GoodR(P:yg)(o:Oper)(ts:yL TD)(H:yL TEnt)(d:TD)(hs:yL Hint):Prop:=
 (∀yK,evN P o (TD.ers (lk H) ts) (hs++yK)=none)/\∃C,AllP C/\∀yK,evR P o (TD.ers (lk H) ts) (erH H) (hs++yK)=some (C,d.er (lk H),yK)
def GoodE(P:yg)(o:Oper)(ts:yL TD)(H:yL TEnt)(d:TD)(H':yL TEnt)(hs:yL Hint):Prop:=
 (∀yK,evN P o (TD.ers (lk H) ts) (hs++yK)=none)/\(∀yK,evR P o (TD.ers (lk H) ts) (erH H) (hs++yK)=none)/\
   ∃C,AllP C/\∀yK,evE P o (TD.ers (lk H) ts) (erH H) (hs++yK)=some (C,d.er (lk H'),erH H',yK)
theorem or3{a b c d:Prop}(h:c):a\/b\/c\/d:=.inr (.inr (.inl h))
structure Good(P:yg)(o:Oper)(ts all:List TD)(H:List TEnt)(all':List TD)(d:TD)(H':List TEnt)(hs:List Hint)(cls:Nat):Prop where
 same:TD.ers (lk H') all'=TD.ers (lk H) all
 len:all'.length=all.length
 op:(cls=0/\H'=H/\GoodN (lk H) P o ts d hs)\/(cls=1/\H'=H/\GoodR P o ts H d hs)\/(cls=2/\GoodE P o ts H d H' hs)\/(cls=3/\erH H'=erH H/\GoodE P o ts H d H' hs)
section
variable{P:yg}{o:Oper}{ts all:yL TD}{H:yL TEnt}{O:Type}{K:Kn O}{out:O}
def ZqE(H:yL TEnt)(id:Nat):yO TD:=
 match H[id]? with
 |some (.var d _)=>some d
 |_=>none
theorem Zej{id:Nat}{d:TD}(h:ZqE H id=some d):∃st,H[id]? =some (.var d st)/\(erH H)[id]? =some (.var (d.er (lk H)) st):=by
 unfold ZqE at h;split at h
 ·rename_i d' st hd;cases h;exact⟨st,hd,Z6 hd⟩
 ·cases h
def ZCl(H:yL TEnt)(id v:Nat):yO TD:=
 match H[id]? with
 |some (.row w _ _ _ d)=>if(w==v)=true then some d else none
 |_=>none
theorem Zz0{id v:Nat}{d:TD}(h:ZCl H id v=some d):∃w s st e,H[id]? =some (.row w s st e d)/\(w==v)=true:=by
 unfold ZCl at h;split at h
 ·rename_i w s st e d' hd;split at h
  ·rename_i hw;cases h;exact⟨w,s,st,e,hd,hw⟩
  ·cases h
 ·cases h
def ZGZ(P:yg)(t:yc)(all:yL TD)(H:yL TEnt)(K:Kn O):TD->yO O
 |.ref id yQ=>(ZqE H id).bind λd=>gpT (lk H) yQ d λsub hs _=>if okT P t (sub.er (lk H))=true then K all sub H hs 1 else none
 |.rref id v yQ=>(ZCl H id v).bind λd=>gpT (lk H) yQ d λsub hs _=>if okT P t (sub.er (lk H))=true then K all sub H hs 1 else none
 |_=>none
theorem ZCm{t:yc}{x:yn}{xd:TD}(ho:o.op=.load t x)(hx:arT P ts 0 x=some xd)(h:ZGZ P t all H K xd=some out):∃a d H' hs c,K a d H' hs c=some out/\Good P o ts all H a d H' hs c:=by
 have hv:=Zo (L:=lk H) hx;unfold ZGZ at h;split at h
 ·rename_i id yQ;obtain⟨d,h1,h⟩:=yf.1 h;obtain⟨st,h2,h3⟩:=Zej h1;obtain⟨sub,hs,put,C,k1,k2,k3,_⟩:=XX _ _ _ _ h;obtain⟨k4,k5⟩:=Za k1;refine⟨_,_,_,_,_,k5,rfl,rfl,.inr (.inl ⟨rfl,rfl,λyK=> ?_,C++[Zdy yQ=WH yQ],Zj.2 ⟨k2,(Wg _).symm,ytt⟩,λyK=> ?_⟩)⟩
  ·unfold evN;rw[ho];dsimp only;rw[hv];rfl
  ·unfold evR;rw[ho];dsimp only;rw[hv];dsimp only[TD.er];rw[h3];dsimp only;rw[k3 yK];dsimp only;rw[yW k4]
 ·rename_i id v yQ;obtain⟨d,h1,h⟩:=yf.1 h;obtain⟨w,s,st,e,h2,h3⟩:=Zz0 h1;obtain⟨sub,hs,put,C,k1,k2,k3,_⟩:=XX _ _ _ _ h;obtain⟨k4,k5⟩:=Za k1;refine⟨_,_,_,_,_,k5,rfl,rfl,.inr (.inl ⟨rfl,rfl,λyK=> ?_,C++[Zdy yQ=WH yQ],Zj.2 ⟨k2,(Wg _).symm,ytt⟩,λyK=> ?_⟩)⟩
  ·unfold evN;rw[ho];dsimp only;rw[hv];rfl
  ·unfold evR;rw[ho];dsimp only;rw[hv];dsimp only[TD.er];rw[Z6 h2];dsimp only[TEnt.er];rw[k3 yK];dsimp only;rw[yW (by rw[yj];exact⟨k4,h3⟩)]
 ·cases h
def ZCn(P:yg)(t:yc)(lo hi:yO Int)(all:yL TD)(H:yL TEnt)(K:Kn O):TD->yO O
 |.rv id v s l0 n=>match P.underlying t,H[id]? with
  |some (.slice e),some (.row w s' _ _ d)=>hi.bind λh=>(rowN (d.er (lk H)) s').bind λN=>if(P.cellsOf e=s&&(P.info? e).isSome&&w==v&&s'==s&&s' !=0)=true then
    if(decide (0<=lo.getD 0)&&decide (lo.getD 0<=h)&&decide (l0+h.toNat<=N))=true then K all (.rv id v s (l0+(lo.getD 0).toNat) (h.toNat - (lo.getD 0).toNat)) H [.raw] 1 else none else none
  |_,_=>none
 |_=>none
theorem Zz1{t:yc}{x:yn}{lo hi:yO yn}{l h':yO Int}{xd:TD}(ho:o.op=.slice t x lo hi none)(hx:arT P ts t x=some xd)(hl:Ze9 P ts lo=some l)(hh:Ze9 P ts hi=some h')(h:ZCn P t l h' all H K xd=some out):
 ∃a d H' hs c,K a d H' hs c=some out/\Good P o ts all H a d H' hs c:=by
 have hv:=Zo (L:=lk H) hx;have hl:=Zay (L:=lk H) hl;have hh:=Zay (L:=lk H) hh;unfold ZCn at h;split at h
 ·rename_i id v s l0 n;split at h
  ·rename_i e w s' st e' d hu hd;obtain⟨h2,q1,g1⟩:=yf.1 h;obtain⟨N,q2,g2⟩:=yf.1 g1;obtain⟨h3,g3⟩:=Za g2;obtain⟨h4,g4⟩:=Za g3;clear h g1 g2 g3;simp only[yj,yP] at h4;subst q1;refine⟨_,_,_,_,_,g4,rfl,rfl,.inr (.inl ⟨rfl,rfl,λyK=> ?_,[0<=l.getD 0,l.getD 0<=h2,l0+h2.toNat<=N],⟨h4.1.1,h4.1.2,h4.2,ytt⟩,λyK=> ?_⟩)⟩
   ·unfold evN;rw[ho];dsimp only;rw[hu,hv,hl,hh];rfl
   ·unfold evR;rw[ho];dsimp only;rw[hu,hv,hl,hh];dsimp only[TD.er];rw[yaa,yx];dsimp only;rw[Z6 hd];dsimp only[TEnt.er];rw[q2];dsimp only;rw[yW h3]
  ·cases h
 ·cases h
def ZqF{α β:Type}(o:yO α)(f:α->yO β)(g:yO β):yO β:=
 match o with
 |some a=>f a
 |none=>g
def ZlS(P:yg)(kt:yc)(k:Ty):Bool:=ZgF P kt&&(k.flat&&ZzW P 20 kt k)
structure MapE where
 tid:yc
 k:Ty
 v:Ty
 l:List (k.den×v.den)
def Zwh(H:yL TEnt)(id:Nat):yO MapE:=
 match H[id]? with
 |some (.map tid k v l)=>some ⟨tid,k,v,l⟩
 |_=>none
theorem Zek{id:Nat}{m:MapE}(h:Zwh H id=some m):H[id]? =some (.map m.tid m.k m.v m.l)/\(erH H)[id]? =some (.map m.tid (kvl m.k.enc m.v.enc m.l)):=by
 unfold Zwh at h;split at h
 ·rename_i hd;cases h;exact⟨hd,Z6 hd⟩
 ·cases h
def ZDQ(x:TD)(k:Ty):yO k.den:=x.inner.bind λy=>TP.to ZmV y k
theorem Zn4{L:Lk}{x:TD}{k:Ty}{y:k.den}(h:ZDQ x k=some y):x.er L=.p (k.enc y):=by
 obtain⟨p,h1,h2⟩:=yf.1 h;rw[Y9 h1,TD.er,ZjI p k y h2]
theorem Zn5{kt:yc}{k:Ty}(h:ZlS P kt k=true):∀x y:k.den,k.enc x=k.enc y↔x=y:=by
 simp only[ZlS,yj] at h;exact λx y=>⟨ZnY k x y h.2.1,λe=>by rw[e]⟩
theorem ZaB{kt:yc}{k:Ty}(h:ZlS P kt k=true):∀x:k.den,fitP P 20 kt (k.enc x):=by
 simp only[ZlS,yj] at h;exact ZnZ 20 kt k h.2.2
theorem ZsU{kt:yc}{k:Ty}(h:ZlS P kt k=true):ZgF P kt=true:=by
 simp only[ZlS,yj] at h;exact h.1
def ZsV(P:yg)(t:yc):yO TP:=
 match Y7 P t with
 |.p z=>Zxu P t z
 |_=>none
theorem ZjK{t:yc}{z:TP}(h:ZsV P t=some z):Y7 P t=.p z.pe:=by
 unfold ZsV at h;split at h
 ·rename_i y hy;rw[hy,Zpx h]
 ·cases h
def ZCo(ok:Bool)(d:TD)(b:Bool):TD:=if ok then .tup [d,.p (.v .bool b)] else d
def ZxE(P:yg)(t:yc)(all:yL TD)(H:yL TEnt)(ok:Bool)(K:Kn O)(kd:yc->yO TD):TD->yO O
 |.mp id=>match P.underlying t with
  |some (.map kt et)=>(Zwh H id).bind λm=>(kd kt).bind λx=>(ZDQ x m.k).bind λkey=>(ZsV P et).bind λz=>
   if(ZlS P kt m.k&&Zw6 P et)=true then
    ZqF (@Zdv m.k.den m.v.den (Ty.deq m.k) m.l key) (λy=>K all (ZCo ok (.p (.v m.v y)) true) H [.el (m.v.enc y)] 1) (K all (ZCo ok (.p z) false) H [.raw] 1)
   else none
  |_=>none
 |_=>none
theorem Zwi{L:Lk}{ok:Bool}{d:TD}{b:Bool}:(ZCo ok d b).er L=if ok then .tup [d.er L,.p (.bool b)] else d.er L:=by
 cases ok <;> rfl
theorem ZxF{t:yc}{x ix:yn}{ok:Bool}{xd:TD}(ho:o.op=.lookup t x ix ok)(hx:arT P ts t x=some xd)(h:ZxE P t all H ok K (λkt=>arT P ts kt ix) xd=some out):
 ∃a d H' hs c,K a d H' hs c=some out/\Good P o ts all H a d H' hs c:=by
 have hv:=Zo (L:=lk H) hx;unfold ZxE at h;split at h
 ·rename_i id;split at h
  ·rename_i kt et hu;obtain⟨m,h1,h⟩:=yf.1 h;obtain⟨kd,h2,h⟩:=yf.1 h;obtain⟨key,h3,h⟩:=yf.1 h;obtain⟨z,h4,h⟩:=yf.1 h;obtain⟨h5,h⟩:=Za h;rw[yj] at h5;obtain⟨e1,e2⟩:=Zek h1;have hk:=Zo (L:=lk H) h2;rw[Zn4 h3] at hk
   have nN:∀hs,evN P o (TD.ers (lk H) ts) hs=none:=λhs=>by
    unfold evN;rw[ho]
   letI:=Ty.deq m.k
   unfold ZqF at h;split at h
   ·rename_i y hy
    refine⟨_,_,_,_,_,h,rfl,rfl,.inr (.inl ⟨rfl,rfl,λ_=>nN _,[fitP P 20 kt (m.k.enc key),VP P kt (kvl m.k.enc m.v.enc m.l),W7 (kvl m.k.enc m.v.enc m.l) (m.k.enc key) (some (m.v.enc y))],
     ⟨ZaB h5.1 key,ZgJ (ZaB h5.1) _,@ZB5 _ _ (Ty.deq m.k) _ _ (Zn5 h5.1) _ _ _ hy,ytt⟩,λyK=> ?_⟩)⟩
    unfold evR;rw[ho];dsimp only;rw[hu,hv];dsimp only[TD.er];rw[hk,e2]
    try dsimp only
    rw[yaa,yx]
    try dsimp only
    rw[yW (ZsU h5.1),Zwi];rfl
   ·rename_i hy
    refine⟨_,_,_,_,_,h,rfl,rfl,.inr (.inl ⟨rfl,rfl,λ_=>nN _,[fitP P 20 kt (m.k.enc key),VP P kt (kvl m.k.enc m.v.enc m.l),W7 (kvl m.k.enc m.v.enc m.l) (m.k.enc key) none],
     ⟨ZaB h5.1 key,ZgJ (ZaB h5.1) _,@ZB6 _ _ (Ty.deq m.k) _ _ (Zn5 h5.1) _ _ (by rw[hy];rfl),ytt⟩,λyK=> ?_⟩)⟩
    unfold evR;rw[ho];dsimp only;rw[hu,hv];dsimp only[TD.er];rw[hk,e2]
    try dsimp only
    rw[yaa,yx]
    try dsimp only
    rw[yW (by rw[ZsU h5.1,h5.2];rfl),Zwi,ZjK h4];rfl
  ·cases h
 ·cases h
def ZxG(P:yg)(t:yc)(all:yL TD)(H:yL TEnt)(K:Kn O):TD->yO O
 |.mp id=>match P.underlying t with
  |some (.map _ _)=>(Zwh H id).bind λm=>K all (.p (.v (.int .i64) (m.l.length:Int))) H [] 1
  |_=>none
 |_=>none
theorem ZxH{t:yc}{x:yn}{c:Call}{xd:TD}(ho:o.op=.call c)(hc:c.callee=.builtin .len)(ha:c.args.toList=[x])(ht:c.argTypes.toList=[t])(hx:arT P ts t x=some xd)(h:ZxG P t all H K xd=some out):
 ∃a d H' hs c,K a d H' hs c=some out/\Good P o ts all H a d H' hs c:=by
 have hv:=Zo (L:=lk H) hx;unfold ZxG at h;split at h
 ·rename_i id;split at h
  ·rename_i kt et hu;obtain⟨m,h1,h⟩:=yf.1 h;obtain⟨e1,e2⟩:=Zek h1;refine⟨_,_,_,_,_,h,rfl,rfl,.inr (.inl ⟨rfl,rfl,λyK=> ?_,[],zP,λyK=> ?_⟩)⟩
   ·unfold evN;rw[ho];dsimp only;rw[hc];dsimp only;rw[ha,ht];dsimp only;rw[hu,hv]
   ·unfold evR;rw[ho];dsimp only;rw[hc];dsimp only;rw[ha,ht];dsimp only;rw[hu,hv];dsimp only[TD.er];rw[e2];simp[TP.pe,Ty.enc,kvl]
  ·cases h
 ·cases h
theorem ZbG{e:TEnt}(h:e.isLog=false):TD.ers (lk (H++[e])) all=TD.ers (lk H) all:=by rw[Zaz h]
theorem Zz2{T:Ty}{e:yc}:TD.ers (lk (H++[.log T e []])) all=TD.ers (lk H) all:=(ers_cont (λid t=>Zn3 id t) all).symm
theorem Zel{e:TEnt}(h:TD.frees H.length all=true):TD.ers (lk (H++[e])) all=TD.ers (lk H) all:=(ers_free (λid t hn=>Zch id t hn) all h).symm
theorem ZgN{T:Ty}{e:yc}{l:yL T.den}:ZZ (lk (H++[.log T e l])) H.length T none=l:=by
 unfold ZZ lk;dsimp only;rw[List.getElem?_concat_length];show(Ty.castL T T l).getD []=l;unfold Ty.castL;split
 ·rfl
 ·rename_i h _;exact absurd rfl h
def ZCp(P:yg)(t:yc)(dst:Tmp)(all:yL TD)(H:yL TEnt)(K:Kn O):TD->yO O
 |.p (.sl (some false) T [])=>match P.underlying t with
  |some (.slice e)=>(P.info? e).bind λi=>if(zOk i&&i.size !=0&&decide (i.size=T.size))=true then K all (.own H.length none T none) (H++[.log T e []]) [.fresh dst] 2 else none
  |_=>none
 |_=>none
theorem Zz3{x:yn}{dst:Tmp}{xd:TD}(ho:o.op=.assign x)(hd:o.dst=some dst)(hx:arT P ts o.type x=some xd)(h:ZCp P o.type dst all H K xd=some out):
 ∃a d H' hs c,K a d H' hs c=some out/\Good P o ts all H a d H' hs c:=by
 have hv:=Zo (L:=lk H) hx;unfold ZCp at h;split at h
 ·rename_i T;split at h
  ·rename_i e hu;obtain⟨i,h1,h⟩:=yf.1 h;obtain⟨h2,h⟩:=Za h;simp only[yj,yP] at h2;refine⟨_,_,_,_,_,h,Zz2,rfl,or3 (⟨rfl,λyK=> ?_,λyK=> ?_,[],zP,λyK=> ?_⟩)⟩
   ·unfold evN;rw[ho];rfl
   ·unfold evR;rw[ho]
   ·unfold evE;rw[ho];dsimp only;rw[yaa,yx];dsimp only;rw[yW hd,hu,hv,show(TD.p (TP.sl (some false) T [])).er (lk H)=Dv.p (.sl (some false) T.size []) from rfl]
    dsimp only;rw[h1];dsimp only;rw[yW (by simpa using h2.1),ZxD,ZG,TD.er,ZgN,h2.2];rfl
  ·cases h
 ·cases h
def ZsW(P:yg)(t:yc)(all:yL TD)(H:yL TEnt)(K:Kn O):yO O:=
 match P.underlying t with
 |some (.map kt et)=>(ZiY P tyD kt).bind λk=>(ZiY P tyD et).bind λv=>K all (.mp H.length) (H++[.map t k v []]) [] 2
 |_=>none
theorem Zu1{t:yc}(ho:o.op=.makeMap t none)(h:ZsW P t all H K=some out):∃a d H' hs c,K a d H' hs c=some out/\Good P o ts all H a d H' hs c:=by
 unfold ZsW at h;split at h
 ·rename_i kt et hu;obtain⟨k,h1,h⟩:=yf.1 h;obtain⟨v,h2,h⟩:=yf.1 h;refine⟨_,_,_,_,_,h,ZbG rfl,rfl,or3 (⟨rfl,λyK=> ?_,λyK=> ?_,[],zP,λyK=> ?_⟩)⟩
  ·unfold evN;rw[ho]
  ·unfold evR;rw[ho]
  ·unfold evE;rw[ho];dsimp only;rw[ZaA (Zaz rfl),ZG];rfl
 ·cases h
def ZgO(n:Int)(b:Nat):Bool:=decide (0<=n)&&ZzS n.toNat b
def Zm0(P:yg)(t:yc)(own row:Bool)(n n':Int)(all:yL TD)(H:yL TEnt)(K:Kn O):yO O:=
 match P.underlying t with
 |some (.slice e)=>(P.info? e).bind λi=>(ZiY P tyD e).bind λT=>
  if row then
   if(zOk i&&i.size !=0&&decide (i.size=T.size))=true then if(decide (n=0)&&ZgO n' i.bytes)=true then K all (.rv H.length 0 i.size 0 0) (H++[.row 0 i.size true e (.p (.v (.arr 0 T) []))]) [.arr] 2 else none else none
  else if own then
   if(zOk i&&i.size !=0&&decide (i.size=T.size))=true then if(decide (n=0)&&ZgO n' i.bytes)=true then K all (.own H.length (some true) T none) (H++[.log T e []]) [.own] 2 else none else none
  else(ZsV P e).bind λz=>(TP.to ZmV z T).bind λy=>
   if(zOk i&&decide (i.size=1)&&z.pe.size==1&& !z.pe.isAgg&&decide (T.size=1))=true then if(decide (n'=n)&&ZgO n i.bytes)=true then
    K all (.view H.length [] 1 0 n.toNat) (H++[.var (.p (.v (.arr n.toNat T) (yv n.toNat y))) true]) [.raw] 2 else none else none
 |_=>none
theorem Zrk{t:yc}{l c:yn}{n n':Num}{own row:Bool}(ho:o.op=.makeSlice t l c)(hl:(arT P ts 0 l).bind TD.num=some n)(hc:(arT P ts 0 c).bind TD.num=some n')(hk:n.k=.i64)(hk':n'.k=.i64)
 (h:Zm0 P t own row n.n n'.n all H K=some out):∃a d H' hs c,K a d H' hs c=some out/\Good P o ts all H a d H' hs c:=by
 obtain⟨ld,l1,l2⟩:=yf.1 hl;obtain⟨cd,c1,c2⟩:=yf.1 hc;have hv:=Zo (L:=lk H) l1;have hw:=Zo (L:=lk H) c1;rw[Ql l2,hk] at hv;rw[Ql c2,hk'] at hw;unfold Zm0 at h;have nN:∀hs,evN P o (TD.ers (lk H) ts) hs=none:=λhs=>by unfold evN;rw[ho]
 have nR:∀hs,evR P o (TD.ers (lk H) ts) (erH H) hs=none:=λhs=>by unfold evR;rw[ho]
 split at h
 ·rename_i e hu;obtain⟨i,h1,h⟩:=yf.1 h;obtain⟨T,h2,h⟩:=yf.1 h;split at h
  ·obtain⟨h3,h⟩:=Za h;obtain⟨h4,h⟩:=Za h;simp only[yj,yP] at h3;simp only[ZgO,yj,yP] at h4;obtain⟨g1,g2⟩:=Zax h4.2.2;refine⟨_,_,_,_,_,h,ZbG rfl,rfl,or3 (⟨rfl,λyK=>nN _,λyK=>nR _,[n.n=0,0<=n'.n,n'.n.toNat*i.bytes<=Zm,n'.n.toNat<=maxLen],⟨h4.1,h4.2.1,g1,g2,ytt⟩,λyK=> ?_⟩)⟩;unfold evE;rw[ho];dsimp only;rw[hu,hv,hw];dsimp only;rw[h1,yaa,yx];dsimp only;rw[yW (by simpa using h3.1),ZaA (Zaz rfl),ZG];simp only[TEnt.er,TD.er,TP.pe,Zxr,h3.2];rfl
  split at h
  ·obtain⟨h3,h⟩:=Za h;obtain⟨h4,h⟩:=Za h;simp only[yj,yP] at h3;simp only[ZgO,yj,yP] at h4;obtain⟨g1,g2⟩:=Zax h4.2.2;refine⟨_,_,_,_,_,h,Zz2,rfl,or3 (⟨rfl,λyK=>nN _,λyK=>nR _,[n.n=0,0<=n'.n,n'.n.toNat*i.bytes<=Zm,n'.n.toNat<=maxLen],⟨h4.1,h4.2.1,g1,g2,ytt⟩,λyK=> ?_⟩)⟩;unfold evE;rw[ho];dsimp only;rw[hu,hv,hw];dsimp only;rw[h1,yaa,yx];dsimp only;rw[yW (by simpa using h3.1),ZxD,ZG,TD.er,ZgN,h3.2];rfl
  ·obtain⟨z,z1,h⟩:=yf.1 h;obtain⟨y,z2,h⟩:=yf.1 h;obtain⟨h3,h⟩:=Za h;obtain⟨h4,h⟩:=Za h;simp only[yj,yP,yT] at h3;simp only[ZgO,yj,yP] at h4;obtain⟨g1,g2⟩:=Zax h4.2.2;refine⟨_,_,_,_,_,h,ZbG rfl,rfl,or3 (⟨rfl,λyK=>nN _,λyK=>nR _,[n'.n=n.n,0<=n.n,n.n.toNat*i.bytes<=Zm,n.n.toNat<=maxLen],⟨h4.1,h4.2.1,g1,g2,ytt⟩,λyK=> ?_⟩)⟩;unfold evE;rw[ho];dsimp only;rw[hu,hv,hw];dsimp only;rw[h1,yaa,yx];dsimp only;rw[ZjK z1];dsimp only;rw[yW (by simp only[yj,yP];exact h3.1),ZaA (Zaz rfl),ZG,ZjI z T y z2];simp only[TEnt.er,TD.er,TP.pe,WH,ycf,List.foldl_nil];congr 5;show _=[Ent.var (Dv.p (Pl.arr n.n.toNat T.size (List.map T.enc (yv n.n.toNat y)))) true];rw[List.map_replicate,h3.2]
 ·cases h
end
end Go.Ev
end
section
namespace Go.Ev
section
variable{P:yg}{o:Oper}{ts all:yL TD}{H:yL TEnt}{O:Type}{K:Kn O}{out:O}
theorem QE{id:Nat}{e x:TEnt}(hx:H[id]? =some x)(h1:x.isLog=false)(h2:e.isLog=false):TD.ers (lk (H.set id e)) all=TD.ers (lk H) all:=by rw[VM hx h1 h2]
def Zlb(P:yg)(t:yc)(all:yL TD)(H:yL TEnt)(K:Kn O)(kd vd:yc->yO TD):TD->yO O
 |.mp id=>match P.underlying t with
  |some (.map kt et)=>(Zwh H id).bind λm=>(kd kt).bind λx=>(ZDQ x m.k).bind λkey=>((vd et).bind (TD.flat (lk H))).bind λz=>(TP.to ZjH z m.v).bind λy=>
   if ZlS P kt m.k=true then K all .junk (H.set id (.map m.tid m.k m.v (@Zpt m.k.den m.v.den (Ty.deq m.k) m.l key y))) [.kvs (kvl m.k.enc m.v.enc (@Zpt m.k.den m.v.den (Ty.deq m.k) m.l key y))] 2 else none
  |_=>none
 |_=>none
theorem ZxI{t:yc}{x k v:yn}{xd:TD}(ho:o.op=.mapUpdate t x k v)(hx:arT P ts t x=some xd)(h:Zlb P t all H K (λkt=>arT P ts kt k) (λet=>arT P ts et v) xd=some out):
 ∃a d H' hs c,K a d H' hs c=some out/\Good P o ts all H a d H' hs c:=by
 have hv:=Zo (L:=lk H) hx;unfold Zlb at h;split at h
 ·rename_i id;split at h
  ·rename_i kt et hu;obtain⟨m,h1,h⟩:=yf.1 h;obtain⟨kd,h2,h⟩:=yf.1 h;obtain⟨key,h3,h⟩:=yf.1 h;obtain⟨z,h4,h⟩:=yf.1 h;obtain⟨zd,h40,h41⟩:=yf.1 h4;obtain⟨y,h6,h⟩:=yf.1 h;obtain⟨h5,h⟩:=Za h;obtain⟨e1,e2⟩:=Zek h1;have hk:=Zo (L:=lk H) h2;rw[Zn4 h3] at hk;have hz:=Zo (L:=lk H) h40
   letI:=Ty.deq m.k
   refine⟨_,_,_,_,_,h,QE e1 rfl rfl,rfl,or3 (⟨rfl,λyK=> ?_,λyK=> ?_,[fitP P 20 kt (m.k.enc key),VP P kt (kvl m.k.enc m.v.enc m.l),VO (kvl m.k.enc m.v.enc m.l) (m.k.enc key) z.pe.soft (kvl m.k.enc m.v.enc (Zpt m.l key y))],
    ⟨ZaB h5 key,ZgJ (ZaB h5) _,by rw[Zdw z m.v y h6];exact ZmU (Zn5 h5) _ _ _,ytt⟩,λyK=> ?_⟩)⟩
   ·unfold evN;rw[ho]
   ·unfold evR;rw[ho]
   ·unfold evE;rw[ho];dsimp only;rw[hu,hv];dsimp only[TD.er];rw[hk,hz,ZsQ h41,e2]
    try dsimp only
    rw[yaa,yx]
    try dsimp only
    rw[yW (ZsU h5),XH (VM e1 rfl rfl)];rfl
  ·cases h
 ·cases h
theorem ZxJ{t:yc}{x k v:yn}{xd:TD}(ho:o.op=.insert t x k v)(hx:arT P ts t x=some xd)(h:Zlb P t all H K (λkt=>arT P ts kt k) (λet=>arT P ts et v) xd=some out):
 ∃a d H' hs c,K a d H' hs c=some out/\Good P o ts all H a d H' hs c:=by
 have hv:=Zo (L:=lk H) hx;unfold Zlb at h;split at h
 ·rename_i id;split at h
  ·rename_i kt et hu;obtain⟨m,h1,h⟩:=yf.1 h;obtain⟨kd,h2,h⟩:=yf.1 h;obtain⟨key,h3,h⟩:=yf.1 h;obtain⟨z,h4,h⟩:=yf.1 h;obtain⟨zd,h40,h41⟩:=yf.1 h4;obtain⟨y,h6,h⟩:=yf.1 h;obtain⟨h5,h⟩:=Za h;obtain⟨e1,e2⟩:=Zek h1;have hk:=Zo (L:=lk H) h2;rw[Zn4 h3] at hk;have hz:=Zo (L:=lk H) h40
   letI:=Ty.deq m.k
   refine⟨_,_,_,_,_,h,QE e1 rfl rfl,rfl,or3 (⟨rfl,λyK=> ?_,λyK=> ?_,[fitP P 20 kt (m.k.enc key),VP P kt (kvl m.k.enc m.v.enc m.l),VO (kvl m.k.enc m.v.enc m.l) (m.k.enc key) z.pe.soft (kvl m.k.enc m.v.enc (Zpt m.l key y))],
    ⟨ZaB h5 key,ZgJ (ZaB h5) _,by rw[Zdw z m.v y h6];exact ZmU (Zn5 h5) _ _ _,ytt⟩,λyK=> ?_⟩)⟩
   ·unfold evN;rw[ho]
   ·unfold evR;rw[ho]
   ·unfold evE;rw[ho];dsimp only;rw[hu,hv];dsimp only[TD.er];rw[hk,hz,ZsQ h41,e2]
    try dsimp only
    rw[yaa,yx]
    try dsimp only
    rw[yW (ZsU h5),XH (VM e1 rfl rfl)];rfl
  ·cases h
 ·cases h
def ZxK(P:yg)(t:yc)(all:yL TD)(H:yL TEnt)(K:Kn O)(kd:yO TD):TD->yO O
 |.mp id=>match P.underlying t with
  |some (.map kt et)=>(Zwh H id).bind λm=>kd.bind λx=>(ZDQ x m.k).bind λkey=>
   if ZlS P kt m.k=true then K all (.tup []) (H.set id (.map m.tid m.k m.v (@ZFg m.k.den m.v.den (Ty.deq m.k) m.l key))) [.kvs (kvl m.k.enc m.v.enc (@ZFg m.k.den m.v.den (Ty.deq m.k) m.l key))] 2 else none
  |_=>none
 |_=>none
theorem ZxL{t u:yc}{x k:yn}{c:Call}{xd:TD}(ho:o.op=.call c)(hc:c.callee=.builtin .delete)(ha:c.args.toList=[x,k])(ht:c.argTypes.toList=[t,u])(hx:arT P ts t x=some xd)
 (h:ZxK P t all H K (arT P ts u k) xd=some out):∃a d H' hs c,K a d H' hs c=some out/\Good P o ts all H a d H' hs c:=by
 have hv:=Zo (L:=lk H) hx;unfold ZxK at h;split at h
 ·rename_i id;split at h
  ·rename_i kt et hu;obtain⟨m,h1,h⟩:=yf.1 h;obtain⟨kd,h2,h⟩:=yf.1 h;obtain⟨key,h3,h⟩:=yf.1 h;obtain⟨h5,h⟩:=Za h;obtain⟨e1,e2⟩:=Zek h1;have hk:=Zo (L:=lk H) h2;rw[Zn4 h3] at hk
   letI:=Ty.deq m.k
   refine⟨_,_,_,_,_,h,QE e1 rfl rfl,rfl,or3 (⟨rfl,λyK=> ?_,λyK=> ?_,[fitP P 20 kt (m.k.enc key),VP P kt (kvl m.k.enc m.v.enc m.l),Zcd (kvl m.k.enc m.v.enc m.l) (m.k.enc key) (kvl m.k.enc m.v.enc (ZFg m.l key))],
    ⟨ZaB h5 key,ZgJ (ZaB h5) _,ZsL (Zn5 h5) _ _,ytt⟩,λyK=> ?_⟩)⟩
   ·unfold evN;rw[ho];dsimp only;rw[hc]
   ·unfold evR;rw[ho];dsimp only;rw[hc]
   ·unfold evE;rw[ho];dsimp only;rw[hc];dsimp only;rw[ha,ht];dsimp only;rw[hu,hv];dsimp only[TD.er];rw[hk,e2]
    try dsimp only
    rw[yaa,yx]
    try dsimp only
    rw[yW (ZsU h5),XH (VM e1 rfl rfl)];rfl
  ·cases h
 ·cases h
def TP.nilT(x:TP)(T:Ty):Bool:=
 match x with
 |.sl (some false) t []=>decide (t.size=T.size)
 |_=>false
theorem ZDR{x:TP}{T:Ty}(h:x.nilT T=true):x.pe=.sl (some false) T.size []:=by
 unfold TP.nilT at h;split at h
 ·rename_i t;show Pl.sl (some false) t.size []=_;rw[yF h]
 ·cases h
def ZhM(T:Ty)(new:TD):yL Nat->TD->yO TD
 |[],.p x=>if x.nilT T then some new else none
 |i::r,.p x=>x.parts.bind λl=>(l[i]?).bind λz=>(ZhM T new r (.p z)).map λy=>.agg ((l.map .p).set i y)
 |i::r,.agg ds=>(ds[i]?).bind λz=>(ZhM T new r z).map λy=>.agg (ds.set i y)
 |_,_=>none
theorem Zlc{L:Lk}{T:Ty}{new:TD}:∀(yQ:yL Nat)(d d':TD),ZhM T new yQ d=some d'->Xj (d.er L) yQ T.size (new.er L)=some (d'.er L)
 |[],d,d',h=>by
  cases d with
  |p x=>
   simp only[ZhM] at h;split at h
   ·rename_i hn;cases h;rw[TD.er,ZDR hn];simp[Xj]
   ·cases h
  |_=>cases h
 |i::r,d,d',h=>by
  cases d with
  |p x=>
   simp only[ZhM] at h;obtain⟨l,h1,h⟩:=yf.1 h;obtain⟨z,h2,h⟩:=yf.1 h;obtain⟨y,h3,rfl⟩:=Zc h;have:=Zlc (L:=L) r (.p z) y h3;rw[TD.er,ZzO h1];unfold Xj;rw[show(TP.pes l)[i]? =some z.pe by rw[ZbY,yai,h2];rfl];dsimp only;rw[TD.er] at this
   rw[this,yz,TD.er,ZE,ybn, <-ZE,ZGU]
  |agg ds=>
   simp only[ZhM] at h;obtain⟨z,h2,h⟩:=yf.1 h;obtain⟨y,h3,rfl⟩:=Zc h;have:=Zlc (L:=L) r z y h3;rw[TD.er];unfold Xj;rw[Zfu h2];dsimp only
   rw[this,yz,TD.er,ZE,ZE,ybn]
  |_=>cases h
def Zn6(d:TD)(n:Nat):yL (yL Nat×Ty×yc)->yO (TD×yL (Ty×yc))
 |[]=>some (d,[])
 |q::r=>(ZhM q.2.1 (.own n none q.2.1 none) q.1 d).bind λd'=>(Zn6 d' (n+1) r).map λz=>(z.1,(q.2.1,q.2.2)::z.2)
def ghH(l:yL (yL Nat×Ty×yc)):yL Hint:=l.map λq=>.ghost q.1 q.2.1.size q.2.2
def Zz4(l:yL (Ty×yc)):yL TEnt:=l.map λq=>.log q.1 q.2 []
def ZG0(L:Lk)(n:Nat):Prop:=∀id t,n<=id->ZZ L id t none=[]
theorem Zm1{L:Lk}:∀(l:yL (yL Nat×Ty×yc))(d:TD)(n:Nat)(z:TD×yL (Ty×yc)),ZG0 L n->Zn6 d n l=some z->∀yK,
 Yh (d.er L) n (ghH l++.raw::yK)=(z.1.er L,z.2.map (λq=>Ent.log q.1.size q.2 []),.raw::yK)
 |[],d,n,z,hN,h,yK=>by cases h;rfl
 |q::r,d,n,z,hN,h,yK=>by
  simp only[Zn6] at h;obtain⟨d',h1,h⟩:=yf.1 h;obtain⟨w,h2,rfl⟩:=Zc h;have e:=Zlc (L:=L) q.1 d d' h1;rw[TD.er,hN n q.2.1 (ym _)] at e;have ih:=Zm1 r d' (n+1) w (λid t h=>hN id t (by omega)) h2 yK;show Yh (d.er L) n (.ghost q.1 q.2.1.size q.2.2::(ghH r++.raw::yK))=_;unfold Yh;rw[show Xj (d.er L) q.1 q.2.1.size (Dv.own n none q.2.1.size [])=some (d'.er L) from e]
  dsimp only;rw[ih];rfl
theorem ZG1(H:yL TEnt):ZG0 (lk H) H.length:=λid t h=>by
 unfold ZZ lk;rw[yan h];rfl
theorem Zpz:∀(l:yL (Ty×yc))(H:yL TEnt),(∀id t,ZZ (lk H) id t none=ZZ (lk (H++Zz4 l)) id t none)/\erH (H++Zz4 l)=erH H++l.map (λq=>Ent.log q.1.size q.2 [])
 |[],H=>by simp[Zz4]
 |q::l,H=>by
  have e:H++Zz4 (q::l)=(H++[.log q.1 q.2 []])++Zz4 l:=by simp[Zz4]
  obtain⟨h1,h2⟩:=Zpz l (H++[.log q.1 q.2 []]);rw[e];refine⟨λid t=>(Zn3 id t).trans (h1 id t), ?_⟩;rw[h2,ZxD];simp
def newVar(hi:HI)(dst:yO Tmp)(d:TD)(all:yL TD)(H:yL TEnt)(K:Kn O):yO O:=
 match dst with
 |some t=>match hi.ghost.lookup t with
  |some l=>(Zn6 d (H.length+1) l).bind λz=>K all (.ref H.length []) (H++[.var z.1 true]++Zz4 z.2) (ghH l++[.raw]) 2
  |none=>K all (.ref H.length []) (H++[.var d true]) [.raw] 2
 |none=>none
theorem ZqG{hi:HI}{dst:yO Tmp}{d:TD}(h:newVar hi dst d all H K=some out):
 ∃H' hs gd gl,K all (.ref H.length []) H' hs 2=some out/\TD.ers (lk H') all=TD.ers (lk H) all/\erH H'=erH H++Ent.var gd true::gl/\∀yK,Yh (d.er (lk H)) ((erH H).length+1) (hs++yK)=(gd,gl,.raw::yK):=by
 unfold newVar at h;split at h
 ·rename_i t;split at h
  ·rename_i l hl;obtain⟨z,h1,h⟩:=yf.1 h;obtain⟨c1,c2⟩:=Zpz z.2 (H++[.var z.1 true]);have hL:lk (H++[.var z.1 true])=lk H:=Zaz rfl;refine⟨_,_,z.1.er (lk H),z.2.map (λq=>Ent.log q.1.size q.2 []),h, ?_, ?_,λyK=> ?_⟩
   ·rw[<-ers_cont c1 all,hL]
   ·rw[c2,ZaA hL];simp[TEnt.er]
   ·rw[ZG,yab];exact Zm1 l d _ z (λid t hh=>ZG1 H id t (by omega)) h1 yK
  ·refine⟨_,_,d.er (lk H),[],h,ZbG rfl, ?_,λyK=> ?_⟩
   ·rw[ZaA (Zaz rfl)];rfl
   ·rfl
 ·cases h
def ZCq(P:yg)(hi:HI)(dst:yO Tmp)(t:yc)(all:yL TD)(H:yL TEnt)(K:Kn O):yO O:=
 (P.info? t).bind λi=>(ZsV P t).bind λz=>if(zOk i&&okT P t (Y7 P t)&&(Y7 P t).solid)=true then newVar hi dst (.p z) all H K else none
theorem Zz5{hi:HI}{t:yc}(ho:o.op=.alloc t)(h:ZCq P hi o.dst t all H K=some out):∃a d H' hs c,K a d H' hs c=some out/\Good P o ts all H a d H' hs c:=by
 unfold ZCq at h;obtain⟨i,h1,h⟩:=yf.1 h;obtain⟨z,h2,h⟩:=yf.1 h;obtain⟨h3,h⟩:=Za h;obtain⟨H',hs,gd,gl,k1,k2,k3,k4⟩:=ZqG h;refine⟨_,_,_,_,_,k1,k2,rfl,or3 (⟨rfl,λyK=> ?_,λyK=> ?_,[],zP,λyK=> ?_⟩)⟩
 ·unfold evN;rw[ho]
 ·unfold evR;rw[ho]
 ·have k5:=k4 yK;rw[TD.er, <-ZjK h2] at k5;unfold evE;rw[ho];dsimp only;rw[h1];dsimp only;rw[k5];dsimp only;rw[yW h3,k3,ZG];rfl
def ZJJ(L:Lk)(d:TD):TD:=
 match d.plain L with
 |some y=>.p y
 |none=>d
theorem ZJK{L:Lk}(d:TD):(ZJJ L d).er L=ZBM (d.er L):=by
 unfold ZJJ ZBM
 cases h:d.plain L with
 |none=>rw[ZsT h]
 |some y=>rw[Zwe h];rfl
def ZLP(hi:HI)(dst:yO Tmp)(all:yL TD)(H:yL TEnt)(K:Kn O)(d:TD):yO O:=
 if((ZJJ (lk H) d).er (lk H)).solid=true then newVar hi dst (ZJJ (lk H) d) all H K else none
theorem ZFl{hi:HI}{t:yc}{x:yn}{xd:TD}(ho:o.op=.box t x)(hx:arT P ts t x=some xd)(h:ZLP hi o.dst all H K xd=some out):∃a d H' hs c,K a d H' hs c=some out/\Good P o ts all H a d H' hs c:=by
 have hv:=Zo (L:=lk H) hx;unfold ZLP at h;obtain⟨h3,h⟩:=Za h;obtain⟨H',hs,gd,gl,k1,k2,k3,k4⟩:=ZqG h;refine⟨_,_,_,_,_,k1,k2,rfl,or3 (⟨rfl,λyK=> ?_,λyK=> ?_,[],zP,λyK=> ?_⟩)⟩
 ·unfold evN;rw[ho]
 ·unfold evR;rw[ho]
 ·have k5:=k4 yK;rw[ZJK] at k5 h3;unfold evE;rw[ho];dsimp only;rw[hv,k5];dsimp only;rw[yW h3,k3,ZG];rfl
def TD.meltP(L:Lk)(v:TD):TD:=
 match v.flat L with
 |some x=>.p x
 |none=>v
theorem ZsX{L:Lk}(v:TD):(v.meltP L).er L=(v.er L).meltP:=by
 unfold TD.meltP Dv.meltP;rw[ZrZ];cases v.flat L <;> rfl
def ZxM(L:Lk)(yQ:yL Stp)(d v:TD):yO TD:=
 match d,yQ with
 |.p _,_=>some (v.meltP L)
 |_,[]=>some (v.meltP L)
 |_,_=>some v
theorem ZpA{L:Lk}{yQ:yL Stp}{d v new:TD}(h:ZxM L yQ d v=some new):Zd5 (yQ.map Stp.i) (d.er L) (v.er L)=some (new.er L):=by
 unfold ZxM at h;split at h
 ·cases h;unfold Zd5;rw[TD.er];dsimp only;rw[ZsX]
 ·cases h;unfold Zd5;split
  ·rw[ZsX]
  ·simp only[ycf];rw[ZsX]
 ·rename_i h1 h2;cases h;unfold Zd5;split
  ·rename_i z hz;cases d <;> first|cases hz|skip
   rename_i q;exact absurd rfl (h1 q)
  ·cases yQ with
   |nil=>exact absurd rfl h2
   |cons _ _=>rfl
def Zld(P:yg)(t:yc)(new sub:Dv):Bool:=new.solid&&new.size==sub.size&&P.cellsOf t==new.size&&(P.info? t).isSome&&new.isAgg==sub.isAgg
def ZNf(hi:HI):yn->yL (yL Nat×Ty×yc)
 |.tmp t=>(hi.gst.lookup t).getD []
 |_=>[]
def ZCr(P:yg)(gs:yL (yL Nat×Ty×yc))(t:yc)(all:yL TD)(H:yL TEnt)(K:Kn O)(v:TD):TD->yO O
 |.ref id yQ=>match H[id]? with
  |some (.var d true)=>gpT (lk H) yQ d λsub hs put=>(ZxM (lk H) yQ d v).bind λnew=>(put new).bind λd'=>(Zn6 d' H.length gs).bind λz=>
   if Zld P t (new.er (lk H)) (sub.er (lk H))=true then K all .junk (H.set id (.var z.1 true)++Zz4 z.2) (hs++(ghH gs++[.raw])) 2 else none
  |_=>none
 |.rref id v' yQ=>match H[id]? with
  |some (.row w s true e d)=>gpT (lk H) yQ d λsub hs put=>(ZxM (lk H) yQ d v).bind λnew=>(put new).bind λd'=>
   if(Zld P t (new.er (lk H)) (sub.er (lk H))&&w==v'&&rowN (d'.er (lk H)) s==rowN (d.er (lk H)) s)=true then K all .junk (H.set id (.row v' s true e d')) hs 2 else none
  |_=>none
 |_=>none
theorem Zz6{gs:yL (yL Nat×Ty×yc)}{t:yc}{x y:yn}{xd yd:TD}(ho:o.op=.store t x y)(hx:arT P ts 0 x=some xd)(hy:arT P ts t y=some yd)(h:ZCr P gs t all H K yd xd=some out):
 ∃a d H' hs c,K a d H' hs c=some out/\Good P o ts all H a d H' hs c:=by
 have hv:=Zo (L:=lk H) hx;have hw:=Zo (L:=lk H) hy;unfold ZCr at h;split at h
 ·rename_i id yQ;split at h
  ·rename_i d hd;obtain⟨sub,hs,put,C,k1,k2,k3,k4⟩:=XX _ _ _ _ h;obtain⟨new,h1,h2⟩:=yf.1 k1;obtain⟨d',h3,h2⟩:=yf.1 h2;obtain⟨z,h5,h2⟩:=yf.1 h2;obtain⟨h4,h2⟩:=Za h2;unfold Zld at h4;obtain⟨g1,g2⟩:=Zpz z.2 (H.set id (.var z.1 true));have hL:lk (H.set id (.var z.1 true))=lk H:=VM hd rfl rfl;refine⟨_,_,_,_,_,h2, ?_,rfl,or3 (⟨rfl,λyK=> ?_,λyK=> ?_,C++[Zdy yQ=WH yQ],Zj.2 ⟨k2,(Wg _).symm,ytt⟩,λyK=> ?_⟩)⟩
   ·rw[<-ers_cont g1 all,hL]
   ·unfold evN;rw[ho]
   ·unfold evR;rw[ho]
   ·have k5:=Zm1 gs d' H.length z (ZG1 H) h5 yK;unfold evE;rw[ho];dsimp only;rw[hv,hw];dsimp only[TD.er];rw[Z6 hd];dsimp only[TEnt.er];rw[yab,k3 (ghH gs++[Hint.raw]++yK)];dsimp only;rw[ZpA h1];dsimp only;rw[k4 new d' h3 _];dsimp only;rw[yW h4,ZG,yab];rw[show([Hint.raw]++yK)=.raw::yK from rfl,k5]
    dsimp only;rw[g2,XH hL];rfl
  ·cases h
 ·rename_i id v' yQ;split at h
  ·rename_i w s e d hd;obtain⟨sub,hs,put,C,k1,k2,k3,k4⟩:=XX _ _ _ _ h;obtain⟨new,h1,h2⟩:=yf.1 k1;obtain⟨d',h3,h2⟩:=yf.1 h2;obtain⟨h4,h2⟩:=Za h2;rw[yj,yj] at h4;obtain⟨⟨h4,h5⟩,h6⟩:=h4;have h4':=h4;unfold Zld at h4';have hL:lk (H.set id (.row v' s true e d'))=lk H:=VM hd rfl rfl;refine⟨_,_,_,_,_,h2,QE hd rfl rfl,rfl,or3 (⟨rfl,λyK=> ?_,λyK=> ?_,C++[Zdy yQ=WH yQ],Zj.2 ⟨k2,(Wg _).symm,ytt⟩,λyK=> ?_⟩)⟩
   ·unfold evN;rw[ho]
   ·unfold evR;rw[ho]
   ·unfold evE;rw[ho];dsimp only;rw[hv,hw];dsimp only[TD.er];rw[Z6 hd];dsimp only[TEnt.er];rw[k3 yK];dsimp only;rw[ZpA h1];dsimp only;rw[k4 new d' h3 _];dsimp only;rw[yW (by simp only[yj] at h4' ⊢;exact⟨⟨h4',h5⟩,h6⟩),XH hL];rfl
  ·cases h
 ·cases h
def ZxN(P:yg)(ts:yL TD)(t:yc)(len:Nat)(parts:yL (Nat×yn))(all:yL TD)(H:yL TEnt)(K:Kn O):yO O:=
 ZCj (lk H) P ts t len parts λT l e=>K all (.rv H.length 0 T.size 0 len) (H++[.row 0 T.size true e (.p (.v (.arr len T) l))]) [.arr] 2
theorem ZxO{t:yc}{len:Nat}{parts:Array (Nat×yn)}(ho:o.op=.buildSlice t len parts)(h:ZxN P ts t len parts.toList all H K=some out):
 ∃a d H' hs c,K a d H' hs c=some out/\Good P o ts all H a d H' hs c:=by
 unfold ZxN at h;obtain⟨e,T,l,i,xs,h1,hu,hi,hl,hz,hs,hx⟩:=ZgL h;refine⟨_,_,_,_,_,h1,ZbG rfl,rfl,or3 (⟨rfl,λyK=> ?_,λyK=> ?_,[],zP,λyK=> ?_⟩)⟩
 ·unfold evN;rw[ho];rfl
 ·unfold evR;rw[ho]
 ·unfold evE;rw[ho];dsimp only;rw[yaa,yx];dsimp only;rw[hu];dsimp only;rw[hi,hl];dsimp only;rw[yW (by simpa using hz),hx,ZaA (Zaz rfl),ZG,hs];rfl
def ZG2(P:yg)(ts:yL TD)(e:yc):yL (Nat×yn)->yO (yL TD)
 |[]=>some []
 |q::r=>match arT P ts e q.2,ZG2 P ts e r with
  |some d,some ds=>some (d::ds)
  |_,_=>none
theorem ZDS{L:Lk}{e:yc}:∀{parts:yL (Nat×yn)}{ds:yL TD},ZG2 P ts e parts=some ds->(parts.map λq=>Zq P (TD.ers L ts) e q.2)=TD.ers L ds
 |[],ds,h=>by cases h;rfl
 |q::r,ds,h=>by
  simp only[ZG2] at h;split at h
  ·rename_i d l h1 h2;cases h;rw[yad,Zo h1,ZDS h2,TD.ers]
  ·cases h
def ZNg(P:yg)(ts:yL TD)(t:yc)(L:Lk)(parts:yL (Nat×yn)):Bool:=
 match P.underlying t with
 |some (.slice e)=>match ZG2 P ts e parts with
  |some ds=>ds.all λd=>(d.flat L).isSome
  |none=>true
 |_=>true
def ZsY(P:yg)(ts:yL TD)(t:yc)(len:Nat)(parts:yL (Nat×yn))(all:yL TD)(H:yL TEnt)(K:Kn O):yO O:=
 match P.underlying t with
 |some (.slice e)=>(P.info? e).bind λi=>(ZG2 P ts e parts).bind λds=>
  if((parts.map (·.1)==yr len)&&((TD.ers (lk H) ds).all λd=>d.solid&&d.size==P.cellsOf e)&&(zOk i&&i.size !=0&&decide (len*i.size<=16777216)))=true then
   K all (.rv H.length 0 i.size 0 len) (H++[.row 0 i.size true e (.arr len i.size ds)]) [.raw] 2 else none
 |_=>none
theorem Zu2{t:yc}{len:Nat}{parts:Array (Nat×yn)}(ho:o.op=.buildSlice t len parts)(h:ZsY P ts t len parts.toList all H K=some out):
 ∃a d H' hs c,K a d H' hs c=some out/\Good P o ts all H a d H' hs c:=by
 unfold ZsY at h;split at h
 ·rename_i e hu;obtain⟨i,hi,h⟩:=yf.1 h;obtain⟨ds,hd,h⟩:=yf.1 h;obtain⟨hk,h1⟩:=Za h;rw[yj,yj] at hk;refine⟨_,_,_,_,_,h1,ZbG rfl,rfl,or3 (⟨rfl,λyK=> ?_,λyK=> ?_,[],zP,λyK=> ?_⟩)⟩
  ·unfold evN;rw[ho];rfl
  ·unfold evR;rw[ho]
  ·unfold evE;rw[ho];dsimp only;rw[yaa,yx];dsimp only;rw[hu];dsimp only
   have hl:ZdS P (TD.ers (lk H) ts) e (P.cellsOf e) len parts.toList=some (TD.ers (lk H) ds):=by
    unfold ZdS;rw[yW hk.1.1,ZDS hd,yW hk.1.2]
   rw[hi,hl];dsimp only;rw[yW (by simpa using hk.2),ZaA (Zaz rfl),ZG];rfl
 ·cases h
def ZxP(P:yg)(ts:yL TD)(t:yc)(len:Nat)(parts:yL (Nat×yn))(all:yL TD)(H:yL TEnt)(K:Kn O):yO O:=
 ZCj (lk H) P ts t len parts λT l e=>if(TD.frees H.length all&&H.all (TEnt.free H.length))=true then K all (.own H.length (some true) T none) (H++[.log T e l]) [.own] 2 else none
theorem ZxQ{t:yc}{len:Nat}{parts:Array (Nat×yn)}(ho:o.op=.buildSlice t len parts)(h:ZxP P ts t len parts.toList all H K=some out):
 ∃a d H' hs c,K a d H' hs c=some out/\Good P o ts all H a d H' hs c:=by
 unfold ZxP at h;obtain⟨e,T,l,i,xs,h1,hu,hi,hl,hz,hs,hx⟩:=ZgL h;obtain⟨h2,h1⟩:=Za h1;rw[yj] at h2;refine⟨_,_,_,_,_,h1,Zel h2.1,rfl,or3 (⟨rfl,λyK=> ?_,λyK=> ?_,[],zP,λyK=> ?_⟩)⟩
 ·unfold evN;rw[ho];rfl
 ·unfold evR;rw[ho]
 ·unfold evE;rw[ho];dsimp only;rw[yaa,yx];dsimp only;rw[hu];dsimp only;rw[hi,hl];dsimp only;rw[yW (by simpa using hz),hx,ZDP h2.2,ZG,TD.er,ZgN,hs]
def Zz7(P:yg)(T:Ty)(u:yc)(H:yL TEnt)(K:yL T.den->yL Hint->yO O)(x:TD):yO O:=
 match x with
 |.view id yQ s lo n=>match P.underlying u with
  |some (.slice _)=>(ZqE H id).bind λd=>gpT (lk H) yQ d λsub hs _=>sub.inner.bind λy=>y.arow.bind λr=>(Ty.castL r.t T r.l).bind λl=>
   if(decide (s=T.size))=true then if(decide (lo+n<=r.n))=true then K ((l.drop lo).take n) hs else none else none
  |_=>none
 |.rv id v s lo n=>match P.underlying u,H[id]? with
  |some (.slice _),some (.row w s' _ _ d)=>d.inner.bind λy=>y.arow.bind λr=>(Ty.castL r.t T r.l).bind λl=>
   if(decide (s=T.size)&&decide (s'=T.size)&&w==v)=true then if(decide (lo+n<=r.n))=true then K ((l.drop lo).take n) [] else none else none
  |_,_=>none
 |.rw id=>match P.underlying u,H[id]? with
  |some (.slice _),some (.rowT T' v st e l')=>(Ty.castL T' T l').bind λl=>K l []
  |_,_=>none
 |x=>(ZzZ (lk H) P T u x).bind λl=>K l []
theorem Zm2{T:Ty}{u:yc}{x:TD}{K:yL T.den->yL Hint->yO O}(h:Zz7 P T u H K x=some out):
 ∃l hs C,K l hs=some out/\AllP C/\∀yK,ZuR P T.size u (erH H) (hs++yK) (x.er (lk H))=some (C,l.map T.enc,yK):=by
 unfold Zz7 at h;split at h
 ·rename_i id yQ s lo n;split at h
  ·rename_i e hu;obtain⟨d,h1,h⟩:=yf.1 h;obtain⟨st,h2,h3⟩:=Zej h1;obtain⟨sub,hs,put,C,k1,k2,k3,_⟩:=XX _ _ _ _ h;obtain⟨y,p1,k1⟩:=yf.1 k1;obtain⟨r,p2,k1⟩:=yf.1 k1;obtain⟨l,p3,k1⟩:=yf.1 k1;obtain⟨p4,k1⟩:=Za k1;obtain⟨p5,k1⟩:=Za k1;have p4:=yF p4;have p5:=yF p5
   have esub:sub.er (lk H)=.p (.arr r.n T.size (l.map T.enc)):=by
    rw[Y9 p1,TD.er,VQ p2];obtain⟨e,p3⟩:=Zx p3;obtain⟨n0,t0,l0⟩:=r;dsimp only at e p3 ⊢;subst e;subst p3;rfl
   refine⟨_,_,C++[Zdy yQ=WH yQ,lo+n<=r.n],k1,Zj.2 ⟨k2,(Wg _).symm,p5,ytt⟩,λyK=> ?_⟩;unfold ZuR;rw[TD.er];dsimp only;rw[hu,h3];dsimp only;rw[k3 yK,esub];dsimp only;rw[yW (by simp[p4]),ycc,List.map_drop]
  ·cases h
 ·rename_i id v s lo n;split at h
  ·rename_i e w s' st e' d hu hd;obtain⟨y,p1,k1⟩:=yf.1 h;obtain⟨r,p2,k1⟩:=yf.1 k1;obtain⟨l,p3,k1⟩:=yf.1 k1;obtain⟨p4,k1⟩:=Za k1;obtain⟨p5,k1⟩:=Za k1;simp only[yj,yP] at p4;have p5:=yF p5
   have esub:d.er (lk H)=.p (.arr r.n T.size (l.map T.enc)):=by
    rw[Y9 p1,TD.er,VQ p2];obtain⟨e,p3⟩:=Zx p3;obtain⟨n0,t0,l0⟩:=r;dsimp only at e p3 ⊢;subst e;subst p3;rfl
   refine⟨_,_,[lo+n<=r.n],k1,⟨p5,ytt⟩,λyK=> ?_⟩;unfold ZuR;rw[TD.er];dsimp only;rw[hu,Z6 hd,TEnt.er,esub];dsimp only;rw[yW (by simp[p4]),ycc,List.map_drop];rfl
  ·cases h
 ·rename_i id;split at h
  ·rename_i e T' v st e' l' hu hd;obtain⟨l,p3,k1⟩:=yf.1 h;obtain⟨eT,p3⟩:=Zx p3;subst eT;subst p3;refine⟨l,[],[0+l.length<=l.length],k1,⟨by omega,ytt⟩,λyK=> ?_⟩;unfold ZuR;rw[(Zbd hd).1];dsimp only;rw[hu,Z6 hd,TEnt.er];dsimp only;rw[yW (by simp),List.drop_zero, <-yy (f:=T'.enc),yaj];simp
  ·cases h
 ·rename_i hx hx2 hx3;obtain⟨l,h1,h⟩:=yf.1 h;refine⟨l,[],[],h,zP,λyK=> ?_⟩;rw[yx];unfold ZuR;split
  ·rename_i e;cases x <;> first|cases e|skip
   exact absurd rfl (hx _ _ _ _ _)
  ·rename_i e;cases x <;> first|cases e|skip
   ·exact absurd rfl (hx2 _ _ _ _ _)
   ·exact absurd rfl (hx3 _)
  ·rw[Zk9 h1];rfl
structure LogE where
 t:Ty
 e:yc
 l:List t.den
def ZG3(H:yL TEnt)(id:Nat):yO LogE:=
 match H[id]? with
 |some (.log t e l)=>some ⟨t,e,l⟩
 |_=>none
theorem ZCs{id:Nat}{m:LogE}(h:ZG3 H id=some m):H[id]? =some (.log m.t m.e m.l):=by
 unfold ZG3 at h;split at h
 ·rename_i hd;cases h;exact hd
 ·cases h
def apB(n m b:Nat):Bool:=decide ((n+m)*b<=Zm)&&decide (n+m<=maxLen)
def ZxR(P:yg)(own row:Bool)(t u:yc)(all:yL TD)(H:yL TEnt)(K:Kn O)(y:TD):TD->yO O
 |.own id nn T none=>match P.underlying t with
  |some (.slice e)=>(P.info? e).bind λi=>(ZG3 H id).bind λm=>(Ty.castL m.t T m.l).bind λzs=>Zz7 P T u H (λys hs=>
   if(zOk i&&decide (i.size=T.size)&&decide (m.e=e)&&decide (T.size≠0))=true then if apB zs.length ys.length i.bytes=true then
    K (TD.stales (lk H) id all) (.own id none T none) ((H.map (TEnt.stale (lk H) id)).set id (.log T e (zs++ys))) hs 2 else none else none) y
  |_=>none
 |.rv id v s lo n=>match P.underlying t with
  |some (.slice e)=>(P.info? e).bind λi=>(ZiY P tyD e).bind λT=>Zz7 P T u H (λys hs=>if ys.isEmpty=true then
    if(zOk i&&decide (P.cellsOf e=T.size))=true then K all (.rv id v s lo n) H (.bare::hs) 2 else none
   else match H[id]? with
    |some (.row w s' true e' d)=>d.inner.bind λy0=>y0.arow.bind λr=>(Ty.castL r.t T r.l).bind λxs=>
     if(zOk i&&decide (i.size=T.size)&&decide (s'=T.size)&&decide (e'=e)&&decide (T.size≠0)&&w==v&&decide (lo=0)&&decide (s=T.size))=true then if(decide (n<=r.n)&&apB n ys.length i.bytes)=true then
      K all (.rv id (v+1) s 0 (n+ys.length)) (H.set id (.row (v+1) s true e (.p (.v (.arr (n+ys.length) T) (xs.take n++ys))))) (.raw::hs) 2 else none else none
    |_=>none) y
  |_=>none
 |.p (.sl (some false) _ [])=>if row then match P.underlying t with
  |some (.slice e)=>(P.info? e).bind λi=>(ZiY P tyD e).bind λT=>(ZzZ (lk H) P T u y).bind λys=>
   if(zOk i&&i.size !=0&&decide (i.size=T.size)&&decide (P.cellsOf e=T.size))=true then if ZzS ys.length i.bytes=true then
    K all (.rv H.length 0 i.size 0 ys.length) (H++[.row 0 i.size true e (.p (.v (.arr ys.length T) ys))]) [.arr] 2 else none else none
  |_=>none else if own then match P.underlying t with
  |some (.slice e)=>(P.info? e).bind λi=>(ZiY P tyD e).bind λT=>(ZzZ (lk H) P T u y).bind λys=>
   if(zOk i&&i.size !=0&&decide (i.size=T.size)&&decide (P.cellsOf e=T.size)&&TD.frees H.length all&&H.all (TEnt.free H.length))=true then if ZzS ys.length i.bytes=true then
    K all (.own H.length none T none) (H++[.log T e ys]) [.own] 2 else none else none
  |_=>none else none
 |_=>none
theorem ZG4{id:Nat}{T:Ty}{e:yc}{l:yL T.den}(H:yL TEnt)(h:id < H.length):ZZ (lk (H.set id (.log T e l))) id T none=l:=by
 unfold ZZ lk;dsimp only;rw[ycw h];show(Ty.castL T T l).getD []=l;unfold Ty.castL;split
 ·rfl
 ·rename_i h _;exact absurd rfl h
theorem Zem{L:Lk}{n:Nat}:∀(l:yL TD),(TD.stales L n l).length=l.length
 |[]=>rfl
 |_::r=>by rw[TD.stales,yah,yah,Zem r]
def ZCt(H:yL TEnt):TD->TD
 |.own id nn T (some zs)=>match H[id]? with
  |some (.log t e l)=>match Ty.castL t T l with
   |some l'=>if@decide (l'=zs) (@instDecidableEqList T.den (Ty.deq T) l' zs)=true then .own id nn T none else .own id nn T (some zs)
   |none=>.own id nn T (some zs)
  |_=>.own id nn T (some zs)
 |d=>d
theorem ZFm(d:TD):(ZCt H d).er (lk H)=d.er (lk H):=by
 unfold ZCt;split
 ·rename_i id nn T zs;split
  ·rename_i t e l hd;split
   ·rename_i l' hc;split
    ·rename_i he;have he:=@of_decide_eq_true _ (@instDecidableEqList T.den (Ty.deq T) l' zs) he;rw[TD.er,TD.er]
     have:ZZ (lk H) id T none=zs:=by
      unfold ZZ lk;dsimp only;rw[hd];show(Ty.castL t T l).getD []=zs;rw[hc, <-he];rfl
     rw[this];rfl
    ·rfl
   ·rfl
  ·rfl
 ·rfl
theorem ZxS{own row:Bool}{t u:yc}{x y:yn}{c:Call}{xd yd:TD}(ho:o.op=.call c)(hc:c.callee=.builtin .append)(ha:c.args.toList=[x,y])(ht:c.argTypes.toList=[t,u])
 (hv:Zq P (TD.ers (lk H) ts) t x=xd.er (lk H)) (hy:arT P ts u y=some yd) (h:ZxR P own row t u all H K yd xd=some out):∃a d H' hs c,K a d H' hs c=some out/\Good P o ts all H a d H' hs c:=by
 have hw:=Zo (L:=lk H) hy;unfold ZxR at h;split at h
 ·rename_i id nn T;split at h
  ·rename_i e hu;obtain⟨i,h1,h⟩:=yf.1 h;obtain⟨m,h2,h⟩:=yf.1 h;obtain⟨zs,h3,h⟩:=yf.1 h;obtain⟨ys,hs,C,k1,k2,k3⟩:=Zm2 h;obtain⟨k4,k6⟩:=Za k1;obtain⟨k5,kk⟩:=Za k6;clear k1 k6;simp only[yj,yP] at k4;obtain⟨⟨⟨g1,g2⟩,g3⟩,g4⟩:=k4;simp only[apB,yj,yP] at k5;have hl:=ZCs h2;obtain⟨mt,me,ml⟩:=m;dsimp only at h3 g3 hl;obtain⟨eT,h3⟩:=Zx h3;subst eT;subst h3;subst g3;have hlt:id < H.length:=(yq.1 hl).1
   have ec:ZZ (lk H) id mt none=zs:=by
    unfold ZZ lk;dsimp only;rw[hl];show(Ty.castL mt mt zs).getD []=zs;unfold Ty.castL;split
    ·rfl
    ·rename_i h _;exact absurd rfl h
   refine⟨_,_,_,_,_,kk,ers_stale (λid' t hn=>Zag (lk H) id' t hn) all,Zem all,or3 (⟨rfl,λyK=> ?_,λyK=> ?_,
    C++[zs.map mt.enc=zs.map mt.enc,((zs.map mt.enc).length+(ys.map mt.enc).length)*i.bytes<=Zm,(zs.map mt.enc).length+(ys.map mt.enc).length<=maxLen],Zj.2 ⟨k2,rfl,by simpa using k5.1,by simpa using k5.2,ytt⟩,λyK=> ?_⟩)⟩
   ·unfold evN;rw[ho];dsimp only;rw[hc];dsimp only;rw[ha,ht];split
    ·rename_i e1 e2 e3;simp only[List.cons.injEq,and_true] at e1 e2;obtain⟨rfl,rfl⟩:=e1;obtain⟨rfl,rfl⟩:=e2;rw[hu,hv];rfl
    ·rfl
   ·unfold evR;rw[ho];dsimp only;rw[hc]
   ·unfold evE;rw[ho];dsimp only;rw[hc];dsimp only;rw[ha,ht];dsimp only;rw[hu,hv,hw];dsimp only[TD.er];rw[ec,h1,k3 yK,Z6 hl];dsimp only[TEnt.er];rw[yW (by simp[g1,g2,g4]),ZGY,ZG4 _ (by rw[yy];exact hlt),yam]
  ·cases h
 ·rename_i id v s lo n;split at h
  ·rename_i e hu;obtain⟨i,h1,h⟩:=yf.1 h;obtain⟨T,h2,h⟩:=yf.1 h;obtain⟨ys,hs,C,k1,k2,k3⟩:=Zm2 h
   have nN:∀hs,evN P o (TD.ers (lk H) ts) hs=none:=λhs=>by
    unfold evN;rw[ho];dsimp only;rw[hc];dsimp only;rw[ha,ht]
    cases hs with
    |nil=>rfl
    |cons h0 hr=>cases h0 <;> first|rfl|(dsimp only;rw[hu,hv];rfl)
   have nR:∀hs,evR P o (TD.ers (lk H) ts) (erH H) hs=none:=λhs=>by
    unfold evR;rw[ho];dsimp only;rw[hc]
   split at k1
   ·rename_i hemp;obtain⟨k4,k5⟩:=Za k1;simp only[yj,yP] at k4;have hys:ys=[]:=by simpa using hemp
    refine⟨_,_,_,_,_,k5,rfl,rfl,or3 (⟨rfl,λyK=>nN _,λyK=>nR _,C++[ys.map T.enc=[]],Zj.2 ⟨k2,by rw[hys];rfl,ytt⟩,λyK=> ?_⟩)⟩;unfold evE;rw[ho];dsimp only;rw[hc];dsimp only;rw[ha,ht];dsimp only;rw[hu,hv,hw];dsimp only[TD.er];rw[yaa];dsimp only;rw[h1,k4.2,k3 yK];dsimp only;rw[yW k4.1]
   ·split at k1
    ·rename_i w s' e' d hd;obtain⟨y0,p1,q1⟩:=yf.1 k1;obtain⟨r,p2,q2⟩:=yf.1 q1;obtain⟨xs,p3,q3⟩:=yf.1 q2;obtain⟨p4,q4⟩:=Za q3;obtain⟨p5,q5⟩:=Za q4;simp only[yj,yP,yT] at p4;obtain⟨⟨⟨⟨⟨⟨⟨g1,g2⟩,g3⟩,g4⟩,g5⟩,g6⟩,g7⟩,g8⟩:=p4;simp only[apB,yj,yP] at p5
     have esub:d.er (lk H)=.p (.arr r.n T.size (xs.map T.enc)):=by
      rw[Y9 p1,TD.er,VQ p2];obtain⟨e,p3⟩:=Zx p3;obtain⟨n0,t0,l0⟩:=r;dsimp only at e p3 ⊢;subst e;subst p3;rfl
     refine⟨_,_,_,_,_,q5,QE hd rfl rfl,rfl,or3 (⟨rfl,λyK=>nN _,λyK=>nR _,C++[n<=r.n,(n+(ys.map T.enc).length)*i.bytes<=Zm,n+(ys.map T.enc).length<=maxLen,true=true\/n=r.n],
      Zj.2 ⟨k2,p5.1,by simpa using p5.2.1,by simpa using p5.2.2,.inl rfl,ytt⟩,λyK=> ?_⟩)⟩
     unfold evE;rw[ho];dsimp only;rw[hc];dsimp only;rw[ha,ht];dsimp only;rw[hu,hv,hw];dsimp only[TD.er];rw[yaa];dsimp only;rw[h1,g8,k3 yK,Z6 hd,TEnt.er,esub];dsimp only;rw[yW (by simp[g1,g2,g3,g4,g5,g6,g7]),XH (VM hd rfl rfl)];simp only[TEnt.er,TD.er,TP.pe,Zxr,yy,yam,ycc]
    ·cases k1
  ·cases h
 ·rename_i T0;split at h
  ·split at h
   ·rename_i e hu;obtain⟨i,h1,h⟩:=yf.1 h;obtain⟨T,h2,h⟩:=yf.1 h;obtain⟨ys,h3,h⟩:=yf.1 h;obtain⟨k4,h⟩:=Za h;obtain⟨k5,h⟩:=Za h;simp only[yj,yP] at k4;obtain⟨⟨⟨g1,g2⟩,g3⟩,g4⟩:=k4;obtain⟨g7,g8⟩:=Zax k5;refine⟨_,_,_,_,_,h,ZbG rfl,rfl,or3 (⟨rfl,λyK=> ?_,λyK=> ?_,[(ys.map T.enc).length*i.bytes<=Zm,(ys.map T.enc).length<=maxLen],⟨by rw[yy];exact g7,by rw[yy];exact g8,ytt⟩,λyK=> ?_⟩)⟩
    ·unfold evN;rw[ho];dsimp only;rw[hc];dsimp only;rw[ha,ht];rfl
    ·unfold evR;rw[ho];dsimp only;rw[hc]
    ·unfold evE;rw[ho];dsimp only;rw[hc];dsimp only;rw[ha,ht];dsimp only;rw[hu,hv,hw,show(TD.p (TP.sl (some false) T0 [])).er (lk H)=Dv.p (.sl (some false) T0.size []) from rfl]
     dsimp only;rw[h1,g4,Zk9 h3,yaa,yx];dsimp only;rw[yW (by simp only[yj];exact⟨g1,g2⟩),ZaA (Zaz rfl),ZG];simp only[TEnt.er,TD.er,TP.pe,Zxr,yy,g3]
   ·cases h
  split at h
  ·split at h
   ·rename_i e hu;obtain⟨i,h1,h⟩:=yf.1 h;obtain⟨T,h2,h⟩:=yf.1 h;obtain⟨ys,h3,h⟩:=yf.1 h;obtain⟨k4,h⟩:=Za h;obtain⟨k5,h⟩:=Za h;simp only[yj,yP] at k4;obtain⟨⟨⟨⟨⟨g1,g2⟩,g3⟩,g4⟩,g5⟩,g6⟩:=k4;obtain⟨g7,g8⟩:=Zax k5;refine⟨_,_,_,_,_,h,Zel g5,rfl,or3 (⟨rfl,λyK=> ?_,λyK=> ?_,[(ys.map T.enc).length*i.bytes<=Zm,(ys.map T.enc).length<=maxLen],⟨by rw[yy];exact g7,by rw[yy];exact g8,ytt⟩,λyK=> ?_⟩)⟩
    ·unfold evN;rw[ho];dsimp only;rw[hc];dsimp only;rw[ha,ht];rfl
    ·unfold evR;rw[ho];dsimp only;rw[hc]
    ·unfold evE;rw[ho];dsimp only;rw[hc];dsimp only;rw[ha,ht];dsimp only;rw[hu,hv,hw,show(TD.p (TP.sl (some false) T0 [])).er (lk H)=Dv.p (.sl (some false) T0.size []) from rfl]
     dsimp only;rw[h1,g4,Zk9 h3,yaa,yx];dsimp only;rw[yW (by simp only[yj];exact⟨g1,g2⟩),ZDP g6,ZG,TD.er,ZgN,g3]
   ·cases h
  ·cases h
 ·cases h
def ZCu(P:yg)(t:yc)(all:yL TD)(H:yL TEnt)(K:Kn O):TD->yO O
 |.rv id v s lo n=>match P.underlying t,H[id]? with
  |some (.slice e),some (.row w s' true e' d)=>(P.info? e).bind λi=>(ZsV P e).bind λz=>d.inner.bind λy=>y.arow.bind λr=>(TP.to ZjH z r.t).bind λz'=>
   if(zOk i&&decide (i.size=s)&&decide (s'=s)&&decide (r.t.size=s)&&w==v&&s !=0&&z.pe.size==s&&decide (n=1))=true then if decide (lo+1<=r.n)=true then
    K all (.tup []) (H.set id (.row v s true e' (.p (.v (.arr r.n r.t) (r.l.set lo z'))))) [] 2 else none else none
  |_,_=>none
 |_=>none
theorem Zz8{t:yc}{x:yn}{c:Call}{xd:TD}(ho:o.op=.call c)(hc:c.callee=.builtin .clear)(ha:c.args.toList=[x])(ht:c.argTypes.toList=[t])
 (hx:arT P ts t x=some xd) (h:ZCu P t all H K xd=some out):∃a d H' hs c,K a d H' hs c=some out/\Good P o ts all H a d H' hs c:=by
 have hv:=Zo (L:=lk H) hx;unfold ZCu at h;split at h
 ·rename_i id v s lo n;split at h
  ·rename_i e w s' e' d hu hd;obtain⟨i,h1,h⟩:=yf.1 h;obtain⟨z,h2,h⟩:=yf.1 h;obtain⟨y,p1,q1⟩:=yf.1 h;obtain⟨r,p2,q2⟩:=yf.1 q1;obtain⟨z',p3,q3⟩:=yf.1 q2;obtain⟨p4,q4⟩:=Za q3;obtain⟨p5,k1⟩:=Za q4;clear q1 q2 q3 q4 h;simp only[yj,yP] at p4;obtain⟨⟨⟨⟨⟨⟨⟨g1,g2⟩,g3⟩,g4⟩,g5⟩,g6⟩,g7⟩,g8⟩:=p4;have g8':=g8;subst g8;have p5:=yF p5;have esub:d.er (lk H)=.p (.arr r.n r.t.size (r.l.map r.t.enc)):=by rw[Y9 p1,TD.er,VQ p2]
   refine⟨_,_,_,_,_,k1,QE hd rfl rfl,rfl,or3 (⟨rfl,λyK=> ?_,λyK=> ?_,[lo+1<=r.n],⟨p5,ytt⟩,λyK=> ?_⟩)⟩
   ·unfold evN;rw[ho];dsimp only;rw[hc]
   ·unfold evR;rw[ho];dsimp only;rw[hc]
   ·unfold evE;rw[ho];dsimp only;rw[hc];dsimp only;rw[ha,ht];dsimp only;rw[hu,hv];dsimp only[TD.er];rw[h1,ZjK h2,Z6 hd,TEnt.er,esub];dsimp only;rw[yW (by simp only[yj,yP];exact⟨⟨⟨⟨⟨⟨⟨g1,g2⟩,g3⟩,g4⟩,g5⟩,g6⟩,g7⟩,ytt⟩),XH (VM hd rfl rfl),Zdw z r.t z' p3];have eset:(r.l.set lo z').map r.t.enc=(r.l.map r.t.enc).set lo (r.t.enc z'):=ybn ..;show some ([lo+1<=r.n],Dv.tup [],(erH H).set id (Ent.row v s true e' (.p (.arr r.n s ((r.l.map r.t.enc).set lo (r.t.enc z'))))),yK)=some ([lo+1<=r.n],Dv.tup [],(erH H).set id (Ent.row v s true e' (.p (.arr r.n r.t.size ((r.l.set lo z').map r.t.enc)))),yK);rw[eset,g4]
  ·cases h
 ·cases h
def ZG5(P:yg)(t u:yc)(all:yL TD)(H:yL TEnt)(K:Kn O)(y:TD):TD->yO O
 |.view id yQ s lo n=>match P.underlying t,H[id]? with
  |some (.slice e),some (.var d true)=>gpT (lk H) yQ d λsub hs put=>sub.inner.bind λy0=>y0.arow.bind λr=>(ZzZ (lk H) P r.t u y).bind λys=>
   (put (.p (.v (.arr r.n r.t) (r.l.take lo++(ys++r.l.drop (lo+ys.length)))))).bind λd'=>
     if(decide (r.t.size=s)&&decide (P.cellsOf e=s)&&(P.info? e).isSome&&decide (ys.length<=n)&&decide (lo+n<=r.n))=true then K all (.p (.v (.int .i64) (ys.length:Int))) (H.set id (.var d' true)) hs 2 else none
  |_,_=>none
 |_=>none
theorem ZCv{t u:yc}{x y:yn}{c:Call}{xd yd:TD}(ho:o.op=.call c)(hc:c.callee=.builtin .copy)(ha:c.args.toList=[x,y])(ht:c.argTypes.toList=[t,u])
 (hx:arT P ts t x=some xd) (hy:arT P ts u y=some yd) (h:ZG5 P t u all H K yd xd=some out):∃a d H' hs c,K a d H' hs c=some out/\Good P o ts all H a d H' hs c:=by
 have hv:=Zo (L:=lk H) hx;have hw:=Zo (L:=lk H) hy;unfold ZG5 at h;split at h
 ·rename_i id yQ s lo n;split at h
  ·rename_i e d hu hd;obtain⟨sub,hs,put,C,k1,k2,k3,k4⟩:=XX _ _ _ _ h;obtain⟨y0,p1,k1⟩:=yf.1 k1;obtain⟨r,p2,k1⟩:=yf.1 k1;obtain⟨ys,p3,k1⟩:=yf.1 k1;obtain⟨d',p4,k1⟩:=yf.1 k1;obtain⟨p5,k1⟩:=Za k1;simp only[yj,yP] at p5;obtain⟨⟨⟨⟨g1,g2⟩,g3⟩,g4⟩,g5⟩:=p5;have esub:sub.er (lk H)=.p (.arr r.n r.t.size (r.l.map r.t.enc)):=by rw[Y9 p1,TD.er,VQ p2]
   refine⟨_,_,_,_,_,k1,QE hd rfl rfl,rfl,or3 (⟨rfl,λyK=> ?_,λyK=> ?_,C++[Zdy yQ=WH yQ,(ys.map r.t.enc).length<=n,lo+n<=r.n],Zj.2 ⟨k2,(Wg _).symm,by rw[yy];exact g4,g5,ytt⟩,λyK=> ?_⟩)⟩
   ·unfold evN;rw[ho];dsimp only;rw[hc]
   ·unfold evR;rw[ho];dsimp only;rw[hc]
   ·unfold evE;rw[ho];dsimp only;rw[hc];dsimp only;rw[ha,ht];dsimp only;rw[hu,hv,hw];dsimp only[TD.er];rw[<-g1,Zk9 p3,Z6 hd];dsimp only[TEnt.er];rw[k3 yK,esub];dsimp only;have:=k4 _ _ p4 yK
    have e1:(TD.p (.v (.arr r.n r.t) (r.l.take lo++(ys++r.l.drop (lo+ys.length))))).er (lk H)=.p (.arr r.n r.t.size (Zpg (r.l.map r.t.enc) (ys.map r.t.enc) lo)):=by
     show Dv.p (Pl.arr r.n r.t.size ((r.l.take lo++(ys++r.l.drop (lo+ys.length))).map r.t.enc))=_;unfold Zpg;rw[yam,yam,ycc,List.map_drop,yy]
    rw[e1] at this;rw[this];dsimp only;rw[yW (by simp only[yj,yP];exact⟨⟨zP,by rw[g1];exact g2⟩,g3⟩),XH (VM hd rfl rfl),yy];rfl
  ·cases h
 ·cases h
def ZCw(H:yL TEnt)(id:Nat):Bool:=
 match H[id]? with
 |some (.var _ false)=>true
 |_=>false
def ZLQ(P:yg)(t:yc)(lo hi:yO Int)(all:yL TD)(H:yL TEnt)(K:Kn O):TD->yO O
 |.ref id yQ=>match P.underlying t with
  |some (.array n e)=>(ZqE H id).bind λd=>gpT (lk H) yQ d λsub hs _=>sub.inner.bind λy=>y.arow.bind λr=>
   if(decide (n=r.n)&&okB P e r.t.size&&decide (n<=maxLen))=true then if Zeh n lo hi=true then(if ZCw H id=true then K all (.p (.sl (some true) r.t (Vg r.l lo hi))) H (.frz::hs) 1 else
    K all (.p (.sl (some true) r.t (Vg r.l lo hi))) (H.set id (.var d false)) (.frz::hs) 2) else none else none
  |_=>none
 |_=>none
theorem ZFn{t:yc}{x:yn}{lo hi:yO yn}{l h':yO Int}{xd:TD}(ho:o.op=.slice t x lo hi none)(hx:arT P ts t x=some xd)(hl:Ze9 P ts lo=some l)(hh:Ze9 P ts hi=some h')
 (h:ZLQ P t l h' all H K xd=some out):∃a d H' hs c,K a d H' hs c=some out/\Good P o ts all H a d H' hs c:=by
 have hv:=Zo (L:=lk H) hx;have hl:=Zay (L:=lk H) hl;have hh:=Zay (L:=lk H) hh;unfold ZLQ at h;split at h
 ·rename_i id yQ;split at h
  ·rename_i n e hu;obtain⟨d,h1,h⟩:=yf.1 h;obtain⟨st,h2,h3⟩:=Zej h1;obtain⟨sub,hs,put,C,k1,k2,k3,_⟩:=XX _ _ _ _ h;obtain⟨y,p1,k1⟩:=yf.1 k1;obtain⟨r,p2,k1⟩:=yf.1 k1;obtain⟨p4,k1⟩:=Za k1;obtain⟨p5,k1⟩:=Za k1;have esub:sub.er (lk H)=.p (.arr r.n r.t.size (r.l.map r.t.enc)):=by rw[Y9 p1,TD.er,VQ p2]
   have nN:∀yK,evN P o (TD.ers (lk H) ts) (.frz::hs++yK)=none:=λyK=>by
    unfold evN;rw[ho];dsimp only;rw[hu,hv,hl,hh];rfl
   split at k1
   ·rename_i hst
    have hst':st=false:=by
     unfold ZCw at hst;rw[h2] at hst
     cases st with
     |false=>rfl
     |true=>cases hst
    subst hst';refine⟨_,_,_,_,_,k1,rfl,rfl,.inr (.inl ⟨rfl,rfl,nN,C++[Zdy yQ=WH yQ]++YT n l h',Zj.2 ⟨Zj.2 ⟨k2,(Wg _).symm,ytt⟩,Zei p5⟩,λyK=> ?_⟩)⟩;unfold evR;rw[ho];dsimp only;rw[hu,hv,hl,hh];dsimp only[TD.er];rw[yaa];dsimp only;rw[h3];dsimp only;rw[k3 yK,esub];dsimp only;rw[yW (by simpa[okB,and_assoc] using p4),TP.pe,Zfv]
   rename_i hst
   have hst':st=true:=by
    unfold ZCw at hst;rw[h2] at hst
    cases st with
    |true=>rfl
    |false=>exact absurd rfl hst
   subst hst';refine⟨_,_,_,_,_,k1,QE h2 rfl rfl,rfl,or3 (⟨rfl,nN,λyK=> ?_,C++[Zdy yQ=WH yQ]++YT n l h',Zj.2 ⟨Zj.2 ⟨k2,(Wg _).symm,ytt⟩,Zei p5⟩,λyK=> ?_⟩)⟩
   ·unfold evR;rw[ho];dsimp only;rw[hu,hv,hl,hh];dsimp only[TD.er];rw[yaa];dsimp only;rw[h3]
   ·unfold evE;rw[ho];dsimp only;rw[hu,hv,hl,hh];dsimp only[TD.er];rw[yaa];dsimp only;rw[h3];dsimp only;rw[k3 yK,esub];dsimp only;rw[yW (by simpa[okB,and_assoc] using p4),XH (VM h2 rfl rfl),TP.pe,Zfv];rfl
  ·cases h
 ·cases h
def ZxT(dst:Tmp)(all:yL TD)(H:yL TEnt)(K:Kn O):TD->yO O
 |.view id yQ s lo n=>(ZqE H id).bind λd=>gpT (lk H) yQ d λsub hs _=>sub.inner.bind λy=>y.arow.bind λr=>
  if(decide (r.t.size=s))=true then if(decide (lo+n<=r.n))=true then K all (.p (.sl (some true) r.t ((r.l.drop lo).take n))) (H.set id (.var d false)) (.still dst::hs) 2 else none else none
 |.rv id v s lo n=>match H[id]? with
  |some (.row w s' _ e d)=>d.inner.bind λy=>y.arow.bind λr=>
   if(decide (r.t.size=s)&&decide (s'=s)&&w==v)=true then if(decide (lo+n<=r.n))=true then K all (.p (.sl none r.t ((r.l.drop lo).take n))) (H.set id (.row v s false e d)) [.still dst] 2 else none else none
  |_=>none
 |_=>none
theorem Zz9{dst:Tmp}{xd:TD}(h:ZxT dst all H K xd=some out):∃a d H' hs,K a d H' (.still dst::hs) 2=some out/\TD.ers (lk H') a=TD.ers (lk H) all/\a.length=all.length/\
 ∃C,AllP C/\∀yK,Zd6 (xd.er (lk H)) (erH H) (hs++yK)=some (C,d.er (lk H'),erH H',yK):=by
 unfold ZxT at h;split at h
 ·rename_i id yQ s lo n;obtain⟨d,h1,h⟩:=yf.1 h;obtain⟨st,h2,h3⟩:=Zej h1;obtain⟨sub,hs,put,C,k1,k2,k3,_⟩:=XX _ _ _ _ h;obtain⟨y,p1,k1⟩:=yf.1 k1;obtain⟨r,p2,k1⟩:=yf.1 k1;obtain⟨p4,k1⟩:=Za k1;obtain⟨p5,k1⟩:=Za k1;have p4:=yF p4;have p5:=yF p5;have esub:sub.er (lk H)=.p (.arr r.n r.t.size (r.l.map r.t.enc)):=by rw[Y9 p1,TD.er,VQ p2]
  refine⟨_,_,_,_,k1,QE h2 rfl rfl,rfl,C++[Zdy yQ=WH yQ,lo+n<=r.n],Zj.2 ⟨k2,(Wg _).symm,p5,ytt⟩,λyK=> ?_⟩;unfold Zd6;rw[show(TD.view id yQ s lo n).er (lk H)=Dv.view id (WH yQ) (yQ.map Stp.i) s lo n from rfl]
  try dsimp only
  rw[h3]
  try dsimp only
  rw[k3 yK,esub]
  try dsimp only
  rw[yW p4,XH (VM h2 rfl rfl),TD.er,TP.pe,ycc,List.map_drop,p4]
  try rfl
 ·rename_i id v s lo n;split at h
  ·rename_i w s' st e d hd;obtain⟨y,p1,k1⟩:=yf.1 h;obtain⟨r,p2,k1⟩:=yf.1 k1;obtain⟨p4,k1⟩:=Za k1;obtain⟨p5,k1⟩:=Za k1;simp only[yj,yP] at p4;have p5:=yF p5;have esub:d.er (lk H)=.p (.arr r.n r.t.size (r.l.map r.t.enc)):=by rw[Y9 p1,TD.er,VQ p2]
   refine⟨_,_,_,[],k1,QE hd rfl rfl,rfl,[lo+n<=r.n],⟨p5,ytt⟩,λyK=> ?_⟩;rw[yx];unfold Zd6;rw[show(TD.rv id v s lo n).er (lk H)=Dv.rv id v s lo n from rfl]
   dsimp only;rw[Z6 hd,TEnt.er,esub];dsimp only;rw[yW (by simp[p4]),XH (VM hd rfl rfl),TEnt.er,esub,TD.er,TP.pe,ycc,List.map_drop,p4.1.1]
  ·cases h
 ·cases h
theorem ZAa{x:yn}{dst:Tmp}{xd:TD}(ho:o.op=.assign x\/o.op=.move x)(hd:o.dst=some dst)(hx:arT P ts o.type x=some xd)(h:ZxT dst all H K xd=some out):
 ∃a d H' hs c,K a d H' hs c=some out/\Good P o ts all H a d H' hs c:=by
 have hv:=Zo (L:=lk H) hx;obtain⟨a,d,H',hs,k1,k2,k3,C,k4,k5⟩:=Zz9 h;refine⟨_,_,_,_,_,k1,k2,k3,or3 (⟨rfl,λyK=> ?_,λyK=> ?_,C,k4,λyK=> ?_⟩)⟩
 ·rcases ho with ho|ho <;> (unfold evN;rw[ho];rfl)
 ·rcases ho with ho|ho <;> (unfold evR;rw[ho])
 ·rcases ho with ho|ho
  ·unfold evE;rw[ho];dsimp only;rw[yaa];dsimp only;rw[yW hd,hv];exact k5 yK
  ·unfold evE;rw[ho];dsimp only;rw[yaa];dsimp only;rw[yW hd,hv];exact k5 yK
def TD.isRw:TD->Bool
 |.rw _=>true
 |_=>false
def TD.isRp:TD->Bool
 |.rp _ _=>true
 |_=>false
theorem ZDT{id:Nat}{T:Ty}{v:yL Unit}{st st':Bool}{e e':yc}{l l':yL T.den}(hd:H[id]? =some (.rowT T v st e l))(hl:l'.length=l.length):lk (H.set id (.rowT T v st' e' l'))=lk H:=by
 funext j;unfold lk;by_cases hj:id=j
 ·subst hj;rw[getElem?_set_eq' hd,hd];show some _=some _;rw[hl]
 ·rw[getElem?_set_ne' hj]
def ZxU(P:yg)(t:yc)(i:Int)(all:yL TD)(H:yL TEnt)(K:Kn O):TD->yO O
 |.rw id=>match P.underlying t,H[id]? with
  |some (.slice e),some (.rowT T v st e' l)=>if okB P e T.size=true then if inB i l.length=true then K all (.rp id [.ix i.toNat T.size]) H [] 0 else none else none
  |_,_=>none
 |_=>none
theorem ZxV{t:yc}{x ix:yn}{xd:TD}{q:IntKind×Int}{ip:TP}(ho:o.op=.indexAddr t x ix)(hx:arT P ts t x=some xd)(hi:arT P ts 0 ix=some (.p ip))(hq:Zxs ip=some q)(h:ZxU P t q.2 all H K xd=some out):
 ∃a d H' hs c,K a d H' hs c=some out/\Good P o ts all H a d H' hs c:=by
 have hv:=Zo (L:=lk H) hx;have hw:=Zo (L:=lk H) hi;rw[TD.er,(ZrY hq).1] at hw;unfold ZxU at h;split at h
 ·rename_i id;split at h
  ·rename_i e T v st e' l hu hd;obtain⟨h3,h⟩:=Za h;obtain⟨h4,h⟩:=Za h;refine⟨_,_,_,_,_,h,rfl,rfl,.inl ⟨rfl,rfl,[0<=q.2,q.2 < (l.length:Int)],⟨(QP h4).1,(QP h4).2,ytt⟩,λyK=> ?_⟩⟩;simp only[yx];unfold evN;rw[ho];dsimp only;rw[hu,hv,hw,(Zbd hd).1,(Zbd hd).2];dsimp only;rw[yW (by simpa[okB] using h3)];simp[WH,Stp.o,Stp.i]
  ·cases h
 ·cases h
def ZG6(P:yg)(t:yc)(all:yL TD)(H:yL TEnt)(K:Kn O):TD->yO O
 |.rw id=>match P.underlying t,H[id]? with
  |some (.slice _),some (.rowT T v st e' l)=>K all (.p (.v (.int .i64) (l.length:Int))) H [] 0
  |_,_=>none
 |_=>none
theorem ZCx{t:yc}{x:yn}{c:Call}{xd:TD}(ho:o.op=.call c)(hc:c.callee=.builtin .len)(ha:c.args.toList=[x])(ht:c.argTypes.toList=[t])(hx:arT P ts t x=some xd)(h:ZG6 P t all H K xd=some out):
 ∃a d H' hs c,K a d H' hs c=some out/\Good P o ts all H a d H' hs c:=by
 have hv:=Zo (L:=lk H) hx;unfold ZG6 at h;split at h
 ·rename_i id;split at h
  ·rename_i e T v st e' l hu hd;refine⟨_,_,_,_,_,h,rfl,rfl,.inl ⟨rfl,rfl,[],zP,λyK=> ?_⟩⟩;simp only[yx];unfold evN;rw[ho];dsimp only;rw[hc];dsimp only;rw[ha,ht];dsimp only;rw[hu,hv,(Zbd hd).1];rfl
  ·cases h
 ·cases h
def ZCy(P:yg)(t:yc)(all:yL TD)(H:yL TEnt)(K:Kn O):TD->yO O
 |.rp id yQ=>match H[id]? with
  |some (.rowT T v st e l)=>gpT (lk H) yQ (.p (.v (.arr l.length T) l)) λsub hs _=>if okT P t (sub.er (lk H))=true then K all sub H hs 1 else none
  |_=>none
 |_=>none
theorem ZAb{t:yc}{x:yn}{xd:TD}(ho:o.op=.load t x)(hx:arT P ts 0 x=some xd)(h:ZCy P t all H K xd=some out):∃a d H' hs c,K a d H' hs c=some out/\Good P o ts all H a d H' hs c:=by
 have hv:=Zo (L:=lk H) hx;unfold ZCy at h;split at h
 ·rename_i id yQ;split at h
  ·rename_i T v st e l hd;obtain⟨sub,hs,put,C,k1,k2,k3,_⟩:=XX _ _ _ _ h;obtain⟨k4,k5⟩:=Za k1;refine⟨_,_,_,_,_,k5,rfl,rfl,.inr (.inl ⟨rfl,rfl,λyK=> ?_,C++[Zdy yQ=WH yQ],Zj.2 ⟨k2,(Wg _).symm,ytt⟩,λyK=> ?_⟩)⟩
   ·unfold evN;rw[ho];dsimp only;rw[hv];rfl
   ·unfold evR;rw[ho];dsimp only;rw[hv,(Zbd hd).2];dsimp only;rw[Z6 hd];dsimp only[TEnt.er];have k6:Ye (.p (.arr l.length T.size (l.map T.enc))) (yQ.map Stp.i) (hs++yK)=some (C,Zdy yQ,sub.er (lk H),yK):=k3 yK;rw[k6];dsimp only;rw[yW (by rw[yj];exact⟨k4,by simp⟩)]
  ·cases h
 ·cases h
def ZxW(P:yg)(t:yc)(all:yL TD)(H:yL TEnt)(K:Kn O)(v:TD):TD->yO O
 |.rp id (.ix i s::r)=>match H[id]? with
  |some (.rowT T u true e l)=>if s=T.size then(l[i]?).bind λy=>gpT (lk H) r (.p (.v T y)) λsub hs put=>(put (v.meltP (lk H))).bind λd1=>d1.inner.bind λz=>(TP.to ZjH z T).bind λy'=>
   if Zld P t ((v.meltP (lk H)).er (lk H)) (sub.er (lk H))=true then K all .junk (H.set id (.rowT T u true e (l.set i y'))) (.el (T.enc y)::hs) 2 else none else none
  |_=>none
 |_=>none
theorem ZxX{t:yc}{x y:yn}{xd yd:TD}(ho:o.op=.store t x y)(hx:arT P ts 0 x=some xd)(hy:arT P ts t y=some yd)(h:ZxW P t all H K yd xd=some out):
 ∃a d H' hs c,K a d H' hs c=some out/\Good P o ts all H a d H' hs c:=by
 have hv:=Zo (L:=lk H) hx;have hw:=Zo (L:=lk H) hy;unfold ZxW at h;split at h
 ·rename_i id i s r;split at h
  ·rename_i T u e l hd;split at h
   ·rename_i hs0;obtain⟨y0,h2,h⟩:=yf.1 h;obtain⟨sub,hs,put,C,k1,k2,k3,k4⟩:=XX r (.p (.v T y0)) _ out h;obtain⟨d1,p1,k1⟩:=yf.1 k1;obtain⟨z,p2,k1⟩:=yf.1 k1;obtain⟨y',p3,k1⟩:=yf.1 k1;obtain⟨h4,k1⟩:=Za k1;have h4':=h4;unfold Zld at h4';have hL:lk (H.set id (.rowT T u true e (l.set i y')))=lk H:=ZDT hd (by rw[List.length_set])
    have hg:∀yK,Ye (.p (.arr l.length T.size (l.map T.enc))) (i::r.map Stp.i) (.el (T.enc y0)::(hs++yK))=some (((l.map T.enc)[i]? =some (T.enc y0))::C,i*T.size+Zdy r,sub.er (lk H),yK):=by
     intro yK;unfold Ye;dsimp only;have:=k3 yK;rw[TD.er,TP.pe] at this;rw[this,yz]
    have hp:∀yK,WU ((yd.meltP (lk H)).er (lk H)) (.p (.arr l.length T.size (l.map T.enc))) (i::r.map Stp.i) (.el (T.enc y0)::(hs++yK))=some (.p (.arr l.length T.size ((l.set i y').map T.enc))):=by
     intro yK;have:=k4 _ d1 p1 yK;rw[TD.er,TP.pe] at this;unfold WU;dsimp only;rw[this,Y9 p2,TD.er];dsimp only;rw[Zdw z T y' p3, <-ybn]
    refine⟨_,_,_,_,_,k1,by rw[hL],rfl,or3 (⟨rfl,λyK=> ?_,λyK=> ?_,(((l.map T.enc)[i]? =some (T.enc y0))::C)++[i*T.size+Zdy r=WH (.ix i s::r)],
     Zj.2 ⟨⟨ZnW h2,k2⟩,by rw[Wg,Zdy,Stp.o,hs0],ytt⟩,λyK=> ?_⟩)⟩
    ·unfold evN;rw[ho]
    ·unfold evR;rw[ho]
    ·unfold evE;rw[ho];dsimp only;rw[hv,hw,(Zbd hd).2];dsimp only;rw[Z6 hd];dsimp only[TEnt.er];rw[yad,show(Stp.ix i s).i=i from rfl,yaa,hg yK]
     dsimp only;have hst:Zd5 (i::r.map Stp.i) (.p (.arr l.length T.size (l.map T.enc))) (yd.er (lk H))=some ((yd.meltP (lk H)).er (lk H)):=ZpA (yQ:=.ix i s::r) (d:=.p (.v (.arr l.length T) l)) (v:=yd) (new:=yd.meltP (lk H)) (L:=lk H) rfl;rw[hst];dsimp only;rw[hp yK];dsimp only;rw[yW (by simp only[yj] at h4' ⊢;exact⟨⟨h4',by simp⟩,by simp[rowN]⟩),XH hL];simp only[TEnt.er,List.length_set];rfl
   ·cases h
  ·cases h
 ·cases h
def ZxY(dst:Tmp)(all:yL TD)(H:yL TEnt)(K:Kn O):TD->yO O
 |.rw id=>match H[id]? with
  |some (.rowT T v st e l)=>K all (.p (.sl none T l)) (H.set id (.rowT T v false e l)) [.still dst] 2
  |_=>none
 |_=>none
theorem ZxZ{x:yn}{dst:Tmp}{xd:TD}(ho:o.op=.assign x\/o.op=.move x)(hd:o.dst=some dst)(hx:arT P ts o.type x=some xd)(h:ZxY dst all H K xd=some out):
 ∃a d H' hs c,K a d H' hs c=some out/\Good P o ts all H a d H' hs c:=by
 have hv:=Zo (L:=lk H) hx;unfold ZxY at h;split at h
 ·rename_i id;split at h
  ·rename_i T v st e l hr;have hL:lk (H.set id (.rowT T v false e l))=lk H:=ZDT hr rfl
   have k5:∀yK,Zd6 ((TD.rw id).er (lk H)) (erH H) yK=some ([0+l.length<=l.length],.p (.sl none T.size (l.map T.enc)),erH (H.set id (.rowT T v false e l)),yK):=by
    intro yK;unfold Zd6;rw[(Zbd hr).1];dsimp only;rw[Z6 hr,TEnt.er];dsimp only;rw[yW (by simp),XH hL,TEnt.er,List.drop_zero, <-yy (f:=T.enc),yaj]
   refine⟨_,_,_,_,_,h,by rw[hL],rfl,or3 (⟨rfl,λyK=> ?_,λyK=> ?_,[0+l.length<=l.length],⟨by omega,ytt⟩,λyK=> ?_⟩)⟩
   ·rcases ho with ho|ho <;> (unfold evN;rw[ho];rfl)
   ·rcases ho with ho|ho <;> (unfold evR;rw[ho])
   ·rcases ho with ho|ho
    ·unfold evE;rw[ho];dsimp only;rw[yaa];dsimp only;rw[yW hd,hv];exact k5 yK
    ·unfold evE;rw[ho];dsimp only;rw[yaa];dsimp only;rw[yW hd,hv];exact k5 yK
  ·cases h
 ·cases h
theorem ZAc{L M:Lk}{n:Nat}(h:∀id t,id≠n->ZZ L id t none=ZZ M id t none)(x:TEnt)(hf:x.free n=true):x.er L=x.er M:=by
 cases x with
 |var d st=>rw[TEnt.er,TEnt.er,Zdx h d hf]
 |row v s st e d=>rw[TEnt.er,TEnt.er,Zdx h d hf]
 |rowM t np v st e pre d post=>rw[TEnt.er,TEnt.er,Zdx h d hf]
 |_=>rfl
theorem ZjL{T:Ty}{v:yL Unit}{st:Bool}{e:yc}{l:yL T.den}(h:H.all (TEnt.free H.length)=true):erH (H++[.rowT T v st e l])=erH H++[.row v.length T.size st e (.p (.arr l.length T.size (l.map T.enc)))]:=by
 unfold erH;rw[yam];congr 1;refine ycn λx hx=> ?_;have hf:=yba.1 h x hx;exact(ZAc (λid t hn=>Zch id t hn) x hf).symm
theorem Zn7{T:Ty}{v:yL Unit}{st:Bool}{e:yc}{l:yL T.den}:(TD.rw H.length).er (lk (H++[.rowT T v st e l]))=.rv H.length v.length T.size 0 l.length:=
 (Zbd (H:=H++[.rowT T v st e l]) (List.getElem?_concat_length ..)).1
def ZsZ(P:yg)(row:Bool)(t u:yc)(all:yL TD)(H:yL TEnt)(K:Kn O)(y:TD):TD->yO O
 |.rw id=>match P.underlying t,H[id]? with
  |some (.slice e),some (.rowT T v st e' l)=>(P.info? e).bind λi=>Zz7 P T u H (λys hs=>
   if(zOk i&&decide (i.size=T.size)&&decide (P.cellsOf e=T.size)&&decide (e'=e)&&decide (T.size≠0))=true then if apB l.length ys.length i.bytes=true then
    K (TD.stales (lk H) id all) (.rw id) ((H.map (TEnt.stale (lk H) id)).set id (.rowT T (()::v) st e (l++ys))) (.raw::hs) 2 else none else none) y
  |_,_=>none
 |.p (.sl (some false) _ [])=>match P.underlying t with
  |some (.slice e)=>(P.info? e).bind λi=>(ZiY P tyD e).bind λT=>(ZzZ (lk H) P T u y).bind λys=>
   if(zOk i&&i.size !=0&&decide (i.size=T.size)&&decide (P.cellsOf e=T.size)&&TD.frees H.length all&&H.all (TEnt.free H.length))=true then if ZzS ys.length i.bytes=true then
    K all (.rw H.length) (H++[.rowT T [] true e ys]) [.arr] 2 else none else none
  |_=>none
 |_=>none
theorem Zu3{row:Bool}{t u:yc}{x y:yn}{c:Call}{xd yd:TD}(ho:o.op=.call c)(hc:c.callee=.builtin .append)(ha:c.args.toList=[x,y])(ht:c.argTypes.toList=[t,u])
 (hv:Zq P (TD.ers (lk H) ts) t x=xd.er (lk H)) (hy:arT P ts u y=some yd) (h:ZsZ P row t u all H K yd xd=some out):∃a d H' hs c,K a d H' hs c=some out/\Good P o ts all H a d H' hs c:=by
 have hw:=Zo (L:=lk H) hy;unfold ZsZ at h;split at h
 ·rename_i id;split at h
  ·rename_i e T v st e' l hu hd;obtain⟨i,h1,h⟩:=yf.1 h;obtain⟨ys,hs,C,k1,k2,k3⟩:=Zm2 h;obtain⟨k4,k6⟩:=Za k1;obtain⟨k5,kk⟩:=Za k6;clear k1 k6;simp only[yj,yP] at k4;obtain⟨⟨⟨⟨g1,g2⟩,g3⟩,g4⟩,g5⟩:=k4;subst g4;simp only[apB,yj,yP] at k5;have hlt:id < H.length:=(yq.1 hd).1
   refine⟨_,_,_,_,_,kk,ers_stale (λid' t hn=>Zag (lk H) id' t hn) all,Zem all,or3 (⟨rfl,λyK=> ?_,λyK=> ?_,
    C++[l.length<=l.length,(l.length+(ys.map T.enc).length)*i.bytes<=Zm,l.length+(ys.map T.enc).length<=maxLen,st=true\/l.length=l.length],Zj.2 ⟨k2,ym _,by simpa using k5.1,by simpa using k5.2,.inr rfl,ytt⟩,λyK=> ?_⟩)⟩
   ·unfold evN;rw[ho];dsimp only;rw[hc];dsimp only;rw[ha,ht,yaa]
   ·unfold evR;rw[ho];dsimp only;rw[hc]
   ·unfold evE;rw[ho];dsimp only;rw[hc];dsimp only;rw[ha,ht];dsimp only;rw[hu,hv,hw,(Zbd hd).1];rw[yaa];dsimp only;rw[h1,k3 yK,Z6 hd];dsimp only[TEnt.er]
    have hnew:((H.map (TEnt.stale (lk H) id)).set id (.rowT T (()::v) st e' (l++ys)))[id]? =some (.rowT T (()::v) st e' (l++ys)):=by
     rw[ycw (by rw[yy];exact hlt)]
    have hH:erH ((H.map (TEnt.stale (lk H) id)).set id (.rowT T (()::v) st e' (l++ys)))=(erH H).set id (.row (v.length+1) T.size st e' (.p (.arr (l.length+ys.length) T.size (l.map T.enc++ys.map T.enc)))):=by
     unfold erH;rw[ybn,yav]
     have:(TEnt.rowT T (()::v) st e' (l++ys)).er (lk ((H.map (TEnt.stale (lk H) id)).set id (.rowT T (()::v) st e' (l++ys))))=.row (v.length+1) T.size st e' (.p (.arr (l.length+ys.length) T.size (l.map T.enc++ys.map T.enc))):=by
      simp only[TEnt.er,yah,yo,yam]
     rw[this];congr 1;refine ycn λx hx=> ?_;exact Zla (λid t hn=>Zag (lk H) id t hn) x
    rw[yW (by simp[g1,g2,g5]),hH,(Zbd hnew).1];simp only[yy,yah,yo];rw[show(l.map T.enc).take l.length=l.map T.enc by rw[<-yy (f:=T.enc),yaj]]
  ·cases h
 ·rename_i T0;split at h
  ·rename_i e hu;obtain⟨i,h1,h⟩:=yf.1 h;obtain⟨T,h2,h⟩:=yf.1 h;obtain⟨ys,h3,h⟩:=yf.1 h;obtain⟨k4,h⟩:=Za h;obtain⟨k5,h⟩:=Za h;simp only[yj,yP] at k4;obtain⟨⟨⟨⟨⟨g1,g2⟩,g3⟩,g4⟩,g5⟩,g6⟩:=k4;obtain⟨g7,g8⟩:=Zax k5;refine⟨_,_,_,_,_,h,Zel g5,rfl,or3 (⟨rfl,λyK=> ?_,λyK=> ?_,[(ys.map T.enc).length*i.bytes<=Zm,(ys.map T.enc).length<=maxLen],⟨by rw[yy];exact g7,by rw[yy];exact g8,ytt⟩,λyK=> ?_⟩)⟩
   ·unfold evN;rw[ho];dsimp only;rw[hc];dsimp only;rw[ha,ht];rfl
   ·unfold evR;rw[ho];dsimp only;rw[hc]
   ·unfold evE;rw[ho];dsimp only;rw[hc];dsimp only;rw[ha,ht];dsimp only;rw[hu,hv,hw,show(TD.p (TP.sl (some false) T0 [])).er (lk H)=Dv.p (.sl (some false) T0.size []) from rfl]
    dsimp only;rw[h1,g4,Zk9 h3,yaa,yx];dsimp only;rw[yW (by simp only[yj];exact⟨g1,g2⟩),ZjL g6,ZG,Zn7,g3];simp only[yy,yco]
  ·cases h
 ·cases h
def ZG7(P:yg)(ts:yL TD)(t:yc)(len:Nat)(parts:yL (Nat×yn))(all:yL TD)(H:yL TEnt)(K:Kn O):yO O:=
 ZCj (lk H) P ts t len parts λT l e=>if(decide (l.length=len)&&TD.frees H.length all&&H.all (TEnt.free H.length))=true then K all (.rw H.length) (H++[.rowT T [] true e l]) [.arr] 2 else none
theorem ZCz{t:yc}{len:Nat}{parts:Array (Nat×yn)}(ho:o.op=.buildSlice t len parts)(h:ZG7 P ts t len parts.toList all H K=some out):
 ∃a d H' hs c,K a d H' hs c=some out/\Good P o ts all H a d H' hs c:=by
 unfold ZG7 at h;obtain⟨e,T,l,i,xs,h1,hu,hi,hl,hz,hs,hx⟩:=ZgL h;obtain⟨h2,h1⟩:=Za h1;simp only[yj,yP] at h2;obtain⟨⟨h2,g5⟩,g6⟩:=h2;refine⟨_,_,_,_,_,h1,Zel g5,rfl,or3 (⟨rfl,λyK=> ?_,λyK=> ?_,[],zP,λyK=> ?_⟩)⟩
 ·unfold evN;rw[ho];rfl
 ·unfold evR;rw[ho]
 ·unfold evE;rw[ho];dsimp only;rw[yaa,yx];dsimp only;rw[hu];dsimp only;rw[hi,hl];dsimp only;rw[yW (by simpa using hz),hx,ZjL g6,Zn7,ZG,hs,h2];rfl
def ZCA(P:yg)(ts:yL TD)(t:yc)(len:Nat)(parts:yL (Nat×yn))(id:Nat)(all:yL TD)(H:yL TEnt)(K:Kn O):yO O:=
 ZCj (lk H) P ts t len parts λT l e=>match H[id]? with
  |some (.rowT T' v _ e' _)=>if(decide (l.length=len)&&decide (e'=e)&&decide (T'.size=T.size))=true then K (TD.stales (lk H) id all) (.rw id) ((H.map (TEnt.stale (lk H) id)).set id (.rowT T (()::v) true e l)) [.fresh id] 2 else none
  |_=>none
theorem ZAd{t:yc}{len id:Nat}{parts:Array (Nat×yn)}(ho:o.op=.buildSlice t len parts)(h:ZCA P ts t len parts.toList id all H K=some out):
 ∃a d H' hs c,K a d H' hs c=some out/\Good P o ts all H a d H' hs c:=by
 unfold ZCA at h;obtain⟨e,T,l,i,xs,h1,hu,hi,hl,hz,hs,hx⟩:=ZgL h;split at h1
 case h_2=>cases h1
 rename_i T0 v st e' l0 hd;obtain⟨h2,h1⟩:=Za h1;simp only[yj,yP] at h2;obtain⟨⟨h2,rfl⟩,h3⟩:=h2;have hlt:id < H.length:=(yq.1 hd).1
 have hnew:((H.map (TEnt.stale (lk H) id)).set id (.rowT T (()::v) true e' l))[id]? =some (.rowT T (()::v) true e' l):=by
  rw[ycw (by rw[yy];exact hlt)]
 have hH:erH ((H.map (TEnt.stale (lk H) id)).set id (.rowT T (()::v) true e' l))=(erH H).set id (.row (v.length+1) T.size true e' (.p (.arr l.length T.size (l.map T.enc)))):=by
  unfold erH;rw[ybn,yav]
  have:(TEnt.rowT T (()::v) true e' l).er (lk ((H.map (TEnt.stale (lk H) id)).set id (.rowT T (()::v) true e' l)))=.row (v.length+1) T.size true e' (.p (.arr l.length T.size (l.map T.enc))):=by
   simp only[TEnt.er,yah]
  rw[this];congr 1;refine ycn λx hx=> ?_;exact Zla (λid t hn=>Zag (lk H) id t hn) x
 refine⟨_,_,_,_,_,h1,ers_stale (λid' t hn=>Zag (lk H) id' t hn) all,Zem all,or3 (⟨rfl,λyK=> ?_,λyK=> ?_,[],zP,λyK=> ?_⟩)⟩
 ·unfold evN;rw[ho];rfl
 ·unfold evR;rw[ho]
 ·unfold evE;rw[ho];dsimp only;rw[yaa,yx];dsimp only;rw[hu,Z6 hd];dsimp only[TEnt.er];rw[hi,hl];dsimp only;rw[yW (by rw[yj,yj,yT,yT];exact⟨⟨hz,rfl⟩,h3.trans hs.symm⟩),hx,hH,(Zbd hnew).1,hs, <-h2];simp only[yah]
def ZCB(P:yg)(t:yc)(n n':Int)(all:yL TD)(H:yL TEnt)(K:Kn O):yO O:=
 match P.underlying t with
 |some (.slice e)=>(P.info? e).bind λi=>(ZiY P tyD e).bind λT=>
  if(zOk i&&i.size !=0&&decide (i.size=T.size)&&TD.frees H.length all&&H.all (TEnt.free H.length))=true then if(decide (n=0)&&ZgO n' i.bytes)=true then K all (.rw H.length) (H++[.rowT T [] true e []]) [.arr] 2 else none else none
 |_=>none
theorem ZAe{t:yc}{l c:yn}{n n':Num}(ho:o.op=.makeSlice t l c)(hl:(arT P ts 0 l).bind TD.num=some n)(hc:(arT P ts 0 c).bind TD.num=some n')(hk:n.k=.i64)(hk':n'.k=.i64)
 (h:ZCB P t n.n n'.n all H K=some out):∃a d H' hs c,K a d H' hs c=some out/\Good P o ts all H a d H' hs c:=by
 obtain⟨ld,l1,l2⟩:=yf.1 hl;obtain⟨cd,c1,c2⟩:=yf.1 hc;have hv:=Zo (L:=lk H) l1;have hw:=Zo (L:=lk H) c1;rw[Ql l2,hk] at hv;rw[Ql c2,hk'] at hw;unfold ZCB at h;have nN:∀hs,evN P o (TD.ers (lk H) ts) hs=none:=λhs=>by unfold evN;rw[ho]
 have nR:∀hs,evR P o (TD.ers (lk H) ts) (erH H) hs=none:=λhs=>by unfold evR;rw[ho]
 split at h
 ·rename_i e hu;obtain⟨i,h1,h⟩:=yf.1 h;obtain⟨T,h2,h⟩:=yf.1 h;obtain⟨h3,h⟩:=Za h;obtain⟨h4,h⟩:=Za h;simp only[yj,yP] at h3;obtain⟨⟨⟨g0,h3⟩,g5⟩,g6⟩:=h3;simp only[ZgO,yj,yP] at h4;obtain⟨g1,g2⟩:=Zax h4.2.2;refine⟨_,_,_,_,_,h,Zel g5,rfl,or3 (⟨rfl,λyK=>nN _,λyK=>nR _,[n.n=0,0<=n'.n,n'.n.toNat*i.bytes<=Zm,n'.n.toNat<=maxLen],⟨h4.1,h4.2.1,g1,g2,ytt⟩,λyK=> ?_⟩)⟩;unfold evE;rw[ho];dsimp only;rw[hu,hv,hw];dsimp only;rw[h1,yaa,yx];dsimp only;rw[yW (by simpa using g0),ZjL g6,Zn7,ZG,h3];rfl
 ·cases h
def Zx0(P:yg)(t:yc)(n n':Int)(all:yL TD)(H:yL TEnt)(K:Kn O):yO O:=
 match P.underlying t with
 |some (.slice e)=>(P.info? e).bind λi=>(ZiY P tyD e).bind λT=>(ZsV P e).bind λz=>(TP.to ZmV z T).bind λy=>
  if(zOk i&&decide (i.size=1)&&z.pe.size==1&& !z.pe.isAgg&&decide (T.size=1)&&TD.frees H.length all&&H.all (TEnt.free H.length))=true then
   if(decide (n'=n)&&ZgO n i.bytes)=true then K all (.rw H.length) (H++[.rowT T [] true e (yv n.toNat y)]) [.frz] 2 else none else none
 |_=>none
theorem Zx1{t:yc}{l c:yn}{n n':Num}(ho:o.op=.makeSlice t l c)(hl:(arT P ts 0 l).bind TD.num=some n)(hc:(arT P ts 0 c).bind TD.num=some n')(hk:n.k=.i64)(hk':n'.k=.i64)
 (h:Zx0 P t n.n n'.n all H K=some out):∃a d H' hs c,K a d H' hs c=some out/\Good P o ts all H a d H' hs c:=by
 obtain⟨ld,l1,l2⟩:=yf.1 hl;obtain⟨cd,c1,c2⟩:=yf.1 hc;have hv:=Zo (L:=lk H) l1;have hw:=Zo (L:=lk H) c1;rw[Ql l2,hk] at hv;rw[Ql c2,hk'] at hw;unfold Zx0 at h;have nN:∀hs,evN P o (TD.ers (lk H) ts) hs=none:=λhs=>by unfold evN;rw[ho]
 have nR:∀hs,evR P o (TD.ers (lk H) ts) (erH H) hs=none:=λhs=>by unfold evR;rw[ho]
 split at h
 ·rename_i e hu;obtain⟨i,h1,h⟩:=yf.1 h;obtain⟨T,h2,h⟩:=yf.1 h;obtain⟨z,z1,h⟩:=yf.1 h;obtain⟨y,z2,h⟩:=yf.1 h;obtain⟨h3,h⟩:=Za h;obtain⟨h4,h⟩:=Za h;simp only[yj,yP,yT] at h3;obtain⟨⟨⟨g0,h3⟩,g5⟩,g6⟩:=h3;simp only[ZgO,yj,yP] at h4;obtain⟨g1,g2⟩:=Zax h4.2.2;refine⟨_,_,_,_,_,h,Zel g5,rfl,or3 (⟨rfl,λyK=>nN _,λyK=>nR _,[n'.n=n.n,0<=n.n,n.n.toNat*i.bytes<=Zm,n.n.toNat<=maxLen],⟨h4.1,h4.2.1,g1,g2,ytt⟩,λyK=> ?_⟩)⟩;unfold evE;rw[ho];dsimp only;rw[hu,hv,hw];dsimp only;rw[h1,yaa,yx];dsimp only;rw[ZjK z1];dsimp only;rw[yW (by simp only[yj,yP];exact g0),ZjL g6,Zn7,ZG,ZjI z T y z2];rw[yco];rw[List.map_replicate,h3,ycj]
 ·cases h
def Zx2(P:yg)(t:yc)(dst:Tmp)(all:yL TD)(H:yL TEnt)(K:Kn O):TD->yO O
 |.p (.sl (some false) T [])=>match P.underlying t with
  |some (.slice e)=>(P.info? e).bind λi=>if(zOk i&&i.size !=0&&decide (i.size=T.size)&&TD.frees H.length all&&H.all (TEnt.free H.length))=true then K all (.rw H.length) (H++[.rowT T [] true e []]) [.freshR dst] 2 else none
  |_=>none
 |_=>none
theorem Zx3{x:yn}{dst:Tmp}{xd:TD}(ho:o.op=.assign x)(hd:o.dst=some dst)(hx:arT P ts o.type x=some xd)(h:Zx2 P o.type dst all H K xd=some out):
 ∃a d H' hs c,K a d H' hs c=some out/\Good P o ts all H a d H' hs c:=by
 have hv:=Zo (L:=lk H) hx;unfold Zx2 at h;split at h
 ·rename_i T;split at h
  ·rename_i e hu;obtain⟨i,h1,h⟩:=yf.1 h;obtain⟨h2,h⟩:=Za h;simp only[yj,yP] at h2;obtain⟨⟨⟨g0,g3⟩,g5⟩,g6⟩:=h2;refine⟨_,_,_,_,_,h,Zel g5,rfl,or3 (⟨rfl,λyK=> ?_,λyK=> ?_,[],zP,λyK=> ?_⟩)⟩
   ·unfold evN;rw[ho];rfl
   ·unfold evR;rw[ho]
   ·unfold evE;rw[ho];dsimp only;rw[yaa,yx];dsimp only;rw[yW hd,hu,hv,show(TD.p (TP.sl (some false) T [])).er (lk H)=Dv.p (.sl (some false) T.size []) from rfl]
    dsimp only;rw[h1];dsimp only;rw[yW (by simpa using g0),ZjL g6,Zn7,ZG,g3];rfl
  ·cases h
 ·cases h
def Zs0(P:yg)(t:yc)(lo hi:yO Int)(all:yL TD)(H:yL TEnt)(K:Kn O):TD->yO O
 |.rw id=>match P.underlying t,H[id]?,lo,hi with
  |some (.slice e),some (.rowT T v true e' l),none,some h=>if(okB P e T.size&&decide (T.size≠0))=true then if(decide (0<=h)&&decide (h.toNat<=l.length))=true then
    K (TD.stales (lk H) id all) (.rw id) ((H.map (TEnt.stale (lk H) id)).set id (.rowT T v true e' (l.take h.toNat))) [.arr] 2 else none else none
  |_,_,_,_=>none
 |_=>none
theorem Zu4{t:yc}{x:yn}{lo hi:yO yn}{l h':yO Int}{xd:TD}(ho:o.op=.slice t x lo hi none)(hx:arT P ts t x=some xd)(hl:Ze9 P ts lo=some l)(hh:Ze9 P ts hi=some h')(h:Zs0 P t l h' all H K xd=some out):
 ∃a d H' hs c,K a d H' hs c=some out/\Good P o ts all H a d H' hs c:=by
 have hv:=Zo (L:=lk H) hx;have hl2:=Zay (L:=lk H) hl;have hh2:=Zay (L:=lk H) hh;unfold Zs0 at h;split at h
 ·rename_i id;split at h
  ·rename_i e T v e' xs h2 hu hd;obtain⟨h3,h⟩:=Za h;obtain⟨h4,h⟩:=Za h;simp only[yj,yP] at h3 h4;obtain⟨h3a,h3b⟩:=ZJv h3.1;have hlt:id < H.length:=(yq.1 hd).1
   have hnew:((H.map (TEnt.stale (lk H) id)).set id (.rowT T v true e' (xs.take h2.toNat)))[id]? =some (.rowT T v true e' (xs.take h2.toNat)):=by
    rw[ycw (by rw[yy];exact hlt)]
   have zW:(xs.take h2.toNat).length=h2.toNat:=by rw[List.length_take];omega
   have hH:erH ((H.map (TEnt.stale (lk H) id)).set id (.rowT T v true e' (xs.take h2.toNat)))=(erH H).set id (.row v.length T.size true e' (.p (.arr h2.toNat T.size ((xs.map T.enc).take h2.toNat)))):=by
    unfold erH;rw[ybn,yav]
    have:(TEnt.rowT T v true e' (xs.take h2.toNat)).er (lk ((H.map (TEnt.stale (lk H) id)).set id (.rowT T v true e' (xs.take h2.toNat))))=.row v.length T.size true e' (.p (.arr h2.toNat T.size ((xs.map T.enc).take h2.toNat))):=by
     simp only[TEnt.er,zW,ycc]
    rw[this];congr 1;refine ycn λx hx=> ?_;exact Zla (λid t hn=>Zag (lk H) id t hn) x
   refine⟨_,_,_,_,_,h,ers_stale (λid' t hn=>Zag (lk H) id' t hn) all,Zem all,or3 (⟨rfl,λyK=> ?_,λyK=> ?_,[0<=h2,h2.toNat<=xs.length],⟨h4.1,h4.2,ytt⟩,λyK=> ?_⟩)⟩
   ·unfold evN;rw[ho];dsimp only;rw[hu,hv,(Zbd hd).1,hl2,hh2];rfl
   ·unfold evR;rw[ho];dsimp only;rw[hu,hv,(Zbd hd).1,hl2,hh2];rfl
   ·unfold evE;rw[ho];dsimp only;rw[hu,hv,(Zbd hd).1,hl2,hh2];dsimp only;rw[yaa,yx];dsimp only;rw[Z6 hd,TEnt.er];dsimp only;rw[yW (by simp[h3a,h3b,h3.2]),hH,(Zbd hnew).1,zW]
  ·cases h
 ·cases h
def TEnt.rowQ:TEnt->yO (Nat×Nat×Nat)
 |.rowN t _ v _ _ pre post=>some (v.length,t.size,pre.length+post.length)
 |.rowM t _ v _ _ pre _ post=>some (v.length,t.size,pre.length+(post.length+1))
 |_=>none
theorem Zx4{L:Lk}{id:Nat}{v:yL Unit}{s N:Nat}(h:ZZ L id (.sl (.st [])) none=([v,yv s (),yv N ()]:yL (yL Unit))):
 (TD.rw id).er L=.rv id v.length s 0 N/\∀yQ,(TD.rp id yQ).er L=.rref id v.length (WH yQ) (yQ.map Stp.i):=by
 refine⟨?_,λyQ=> ?_⟩
 ·rw[TD.er];unfold Zbb;rw[h];show Dv.rv id v.length (yv s ()).length 0 (yv N ()).length=_;rw[ycj,ycj]
 ·rw[TD.er];unfold Zbb;rw[h];rfl
theorem ZJL{id:Nat}{x:TEnt}{q:Nat×Nat×Nat}(hd:H[id]? =some x)(h:x.rowQ=some q):(TD.rw id).er (lk H)=.rv id q.1 q.2.1 0 q.2.2/\∀yQ,(TD.rp id yQ).er (lk H)=.rref id q.1 (WH yQ) (yQ.map Stp.i):=by
 cases x <;> first|cases h|skip
 all_goals
  refine Zx4 ?_;unfold ZZ lk;dsimp only;rw[hd];rfl
end
end Go.Ev
end
section
namespace Go.Ev
abbrev TV:=Σ t:Ty,t.den
inductive Sh where
 |v (t:Ty)
 |elem (t:Ty)
 |nil (t:Ty)
 |sl (nn:Bool) (t:Ty)
 |own (j:Nat) (t:Ty)
 |ref (j:Nat) (yQ:List Stp)
 |mp (j:Nat)
 |rw(j:Nat)
 |rp (j s:Nat) (yQ:List Stp)
 |view (j:Nat) (yQ:List Stp) (s lo n:Nat)
 |fn (g:yw) (l:List Sh)
 |agg (l:List Sh)
 |arr (n s:Nat) (l:List Sh)
 |tup (l:List Sh)
 |iface (t:yc) (x:Sh)
 |ptr0|fn0|if0|map0
 |junk
instance:Inhabited Sh:=⟨.junk⟩
def Stp.beq:Stp->Stp->Bool
 |.fld i o,.fld j p=>decide (i=j)&&decide (o=p)
 |.ix i o,.ix j p=>decide (i=j)&&decide (o=p)
 |_,_=>false
def Zle:yL Stp->yL Stp->Bool
 |[],[]=>true
 |q::r,p::s=>q.beq p&&Zle r s
 |_,_=>false
theorem Zen:∀{l m:yL Stp},Zle l m=true->l=m
 |[],[],_=>rfl
 |[],_::_,h=>by cases h
 |_::_,[],h=>by cases h
 |q::r,p::s,h=>by
  simp only[Zle,yj] at h;rw[Zen h.2];congr 1;cases q <;> cases p <;> simp[Stp.beq] at h <;> simp[h.1]
def TD.toT(L:Lk)(t:Ty):TD->yO t.den
 |.p x=>TP.to ZjH x t
 |.own id _ u c=>match t with
  |.sl w=>Ty.castL u w (ZZ L id u c)
  |_=>none
 |_=>none
theorem ZLR{L:Lk}{t:Ty}{d:TD}{y:t.den}(h:d.toT L t=some y):Wk (d.er L) (.p (t.enc y)):=by
 cases d with
 |p x=>exact Wk.p (ZzP (show TP.to ZjH x t=some y from h))
 |own id nn u c=>
  cases t with
  |sl w=>
   obtain⟨e,h2⟩:=Zx (show Ty.castL u w (ZZ L id u c)=some y from h)
   subst e;subst h2
   exact Wk.own_sl (PlsWk.refl _)
  |_=>cases h
 |_=>cases h
def ZNh(t:Ty):TD->yO t.den
 |.elem x=>TP.to ZjH x t
 |_=>none
theorem Wk.elem{x y:Pl}(h:PlWk x y):Wk (.elem x) (.elem y):=⟨rfl,rfl,λσ vs r=>by
 simp only[yH] at r ⊢;obtain⟨b,o,us,e,r1,r2⟩:=r;exact⟨b,o,us,e,h.rep _ _ _ r1,r2⟩⟩
theorem WkL.fn{f:yw}{ds es:yL Dv}(h:WkL ds es):Wk (.fn f ds) (.fn f es):=⟨rfl,rfl,λσ vs r=>by
 simp only[yH] at r ⊢;obtain⟨fs,cs,e,e0,r⟩:=r;exact⟨fs,cs,e,e0,h.vs r⟩⟩
theorem WkL.sizes{ds es:yL Dv}(h:WkL ds es)(s:Nat):(∀x,x∈ds->x.size=s)->∀x,x∈es->x.size=s:=by
 induction h with
 |nil=>intro _ x hx;cases hx
 |cons h k ih=>
  intro hh x hx;rcases List.mem_cons.1 hx with rfl|hx
  ·rw[<-h.size];exact hh _ (List.mem_cons_self ..)
  ·exact ih (λy hy=>hh y (List.mem_cons_of_mem _ hy)) x hx
theorem WkL.arr{n s:Nat}{ds es:yL Dv}(h:WkL ds es):Wk (.arr n s ds) (.arr n s es):=⟨rfl,rfl,λσ vs r=>by
 simp only[yH] at r ⊢;obtain⟨r1,r2,r3⟩:=r;have:=(WkL.agg h).rep σ vs (by simp only[yH];exact r3);simp only[yH] at this;exact⟨by rw[<-h.len];exact r1,h.sizes s r2,this⟩⟩
theorem Wk.iface{t:yc}{x y:Dv}(h:Wk x y):Wk (.iface t x) (.iface t y):=⟨rfl,rfl,λσ vs r=>by
 simp only[yH] at r ⊢;obtain⟨v,e,r1,r2⟩:=r;refine⟨v,e,λha=> ?_,λha=>h.rep _ _ (r2 (by rw[h.agg];exact ha))⟩;obtain⟨cs,e1,e2⟩:=r1 (by rw[h.agg];exact ha);exact⟨cs,e1,h.rep _ _ e2⟩⟩
mutual
def Sh.mt(L:Lk):Sh->TD->yO (TD×yL TV)
 |.v t,d=>(d.toT L t).map λy=>(.p (.v t y),[⟨t,y⟩])
 |.elem t,d=>(ZNh t d).map λy=>(.elem (.v t y),[⟨t,y⟩])
 |.nil t,d=>match d with
  |.p x=>if x.nilT t=true then some (.p (.sl (some false) t []),[]) else none
  |_=>none
 |.sl nn t,d=>match d with
  |.p (.sl (some b) u xs)=>if b=nn then(Ty.castL u t xs).map λy=>(.p (.sl (some nn) t y),[⟨.sl t,y⟩]) else none
  |_=>none
 |.own j t,d=>match d with
  |.own id _ u none=>if id=j/\u=t then some (.own j none t none,[]) else none
  |_=>none
 |.ref j p,d=>match d with
  |.ref id q=>if id=j/\Zle p q=true then some (.ref j p,[]) else none
  |_=>none
 |.mp j,d=>match d with
  |.mp id=>if id=j then some (.mp j,[]) else none
  |_=>none
 |.rw j,d=>match d with
  |.rw id=>if id=j then some (.rw j,[]) else none
  |_=>none
 |.rp j s p,d=>match d with
  |.rp id (.ix i s'::q)=>if id=j/\s'=s/\Zle p q=true then some (.rp j (.ix i s::p),[⟨.int .i64,(i:Int)⟩]) else none
  |_=>none
 |.view j p s lo n,d=>match d with
  |.view id q s' lo' n'=>if id=j/\Zle p q=true/\s=s'/\lo=lo'/\n=n' then some (.view j p s lo n,[]) else none
  |_=>none
 |.fn g l,d=>match d with
  |.fn f ds=>if f=g then(Sh.mts L l ds).map λq=>(.fn g q.1,q.2) else none
  |_=>none
 |.agg l,d=>match d with
  |.agg ds=>(Sh.mts L l ds).map λq=>(.agg q.1,q.2)
  |_=>none
 |.arr n s l,d=>match d with
  |.arr m s' ds=>if m=n/\s'=s then(Sh.mts L l ds).map λq=>(.arr n s q.1,q.2) else none
  |_=>none
 |.tup l,d=>match d with
  |.tup ds=>(Sh.mts L l ds).map λq=>(.tup q.1,q.2)
  |_=>none
 |.iface t x,d=>match d with
  |.iface u y=>if u=t then(Sh.mt L x y).map λq=>(.iface t q.1,q.2) else none
  |_=>none
 |.ptr0,d=>match d with
  |.p .ptr0=>some (.p .ptr0,[])
  |_=>none
 |.fn0,d=>match d with
  |.p .fn0=>some (.p .fn0,[])
  |_=>none
 |.if0,d=>match d with
  |.p .if0=>some (.p .if0,[])
  |_=>none
 |.map0,d=>match d with
  |.p .map0=>some (.p .map0,[])
  |_=>none
 |.junk,d=>if(d.er L).size=1/\(d.er L).isAgg=false then some (.junk,[]) else none
def Sh.mts(L:Lk):yL Sh->yL TD->yO (yL TD×yL TV)
 |[],ds=>match ds with
  |[]=>some ([],[])
  |_=>none
 |s::r,ds=>match ds with
  |d::q=>match Sh.mt L s d,Sh.mts L r q with
   |some a,some b=>some (a.1::b.1,a.2++b.2)
   |_,_=>none
  |[]=>none
end
mutual
def Sh.fill:Sh->yL TV->yO (TD×yL TV)
 |.v t,vs=>match vs with
  |x::r=>(Ty.cast x.1 t x.2).map λy=>(.p (.v t y),r)
  |[]=>none
 |.elem t,vs=>match vs with
  |x::r=>(Ty.cast x.1 t x.2).map λy=>(.elem (.v t y),r)
  |[]=>none
 |.nil t,vs=>some (.p (.sl (some false) t []),vs)
 |.sl nn t,vs=>match vs with
  |x::r=>(Ty.cast x.1 (.sl t) x.2).map λ(y:yL t.den)=>(.p (.sl (some nn) t y),r)
  |[]=>none
 |.own j t,vs=>some (.own j none t none,vs)
 |.ref j p,vs=>some (.ref j p,vs)
 |.mp j,vs=>some (.mp j,vs)
 |.rw j,vs=>some (.rw j,vs)
 |.rp j s p,vs=>match vs with
  |x::r=>(Ty.cast x.1 (.int .i64) x.2).map λ(i:Int)=>(.rp j (.ix i.toNat s::p),r)
  |[]=>none
 |.view j p s lo n,vs=>some (.view j p s lo n,vs)
 |.fn g l,vs=>(Sh.fills l vs).map λq=>(.fn g q.1,q.2)
 |.agg l,vs=>(Sh.fills l vs).map λq=>(.agg q.1,q.2)
 |.arr n s l,vs=>(Sh.fills l vs).map λq=>(.arr n s q.1,q.2)
 |.tup l,vs=>(Sh.fills l vs).map λq=>(.tup q.1,q.2)
 |.iface t x,vs=>(Sh.fill x vs).map λq=>(.iface t q.1,q.2)
 |.ptr0,vs=>some (.p .ptr0,vs)
 |.fn0,vs=>some (.p .fn0,vs)
 |.if0,vs=>some (.p .if0,vs)
 |.map0,vs=>some (.p .map0,vs)
 |.junk,vs=>some (.junk,vs)
def Sh.fills:yL Sh->yL TV->yO (yL TD×yL TV)
 |[],vs=>some ([],vs)
 |s::r,vs=>(Sh.fill s vs).bind λa=>(Sh.fills r a.2).map λb=>(a.1::b.1,b.2)
end
theorem YV(t:Ty)(x:t.den):Ty.cast t t x=some x:=by
 unfold Ty.cast;split
 ·rfl
 ·rename_i h _;exact absurd rfl h
mutual
theorem Zlf{L:Lk}:∀(s:Sh)(d:TD)(q:TD×yL TV),s.mt L d=some q->∀yK,s.fill (q.2++yK)=some (q.1,yK)
 |.v t,d,q,h,yK=>by
  simp only[Sh.mt] at h;obtain⟨y,_,rfl⟩:=Zc h
  simp[Sh.fill,YV]
 |.elem t,d,q,h,yK=>by
  simp only[Sh.mt] at h;obtain⟨y,_,rfl⟩:=Zc h
  simp[Sh.fill,YV]
 |.nil t,d,q,h,yK=>by
  simp only[Sh.mt] at h;split at h
  ·split at h <;> cases h;rfl
  ·cases h
 |.sl nn t,d,q,h,yK=>by
  simp only[Sh.mt] at h;split at h
  ·split at h
   ·obtain⟨w,h1,rfl⟩:=Zc h;exact congrArg (Option.map λ(y:yL t.den)=>(TD.p (.sl (some nn) t y),yK)) (YV (.sl t) w)
   ·cases h
  ·cases h
 |.own j t,d,q,h,yK=>by
  simp only[Sh.mt] at h;split at h
  ·split at h <;> cases h;rfl
  ·cases h
 |.ref j p,d,q,h,yK=>by
  simp only[Sh.mt] at h;split at h
  ·split at h <;> cases h;rfl
  ·cases h
 |.mp j,d,q,h,yK=>by
  simp only[Sh.mt] at h;split at h
  ·split at h <;> cases h;rfl
  ·cases h
 |.rw j,d,q,h,yK=>by
  simp only[Sh.mt] at h;split at h
  ·split at h <;> cases h;rfl
  ·cases h
 |.rp j s p,d,q,h,yK=>by
  simp only[Sh.mt] at h;split at h
  ·rename_i id i s' q';split at h
   ·cases h;exact congrArg (Option.map λ(i:Int)=>(TD.rp j (.ix i.toNat s::p),yK)) (YV (.int .i64) (i:Int))
   ·cases h
  ·cases h
 |.view j p s lo n,d,q,h,yK=>by
  simp only[Sh.mt] at h;split at h
  ·split at h <;> cases h;rfl
  ·cases h
 |.fn g l,d,q,h,yK=>by
  simp only[Sh.mt] at h;split at h
  ·split at h
   ·obtain⟨w,h1,rfl⟩:=Zc h;simp only[Sh.fill,mts_fills l _ w h1 yK,yz]
   ·cases h
  ·cases h
 |.agg l,d,q,h,yK=>by
  simp only[Sh.mt] at h;split at h
  ·obtain⟨w,h1,rfl⟩:=Zc h;simp only[Sh.fill,mts_fills l _ w h1 yK,yz]
  ·cases h
 |.arr n s l,d,q,h,yK=>by
  simp only[Sh.mt] at h;split at h
  ·split at h
   ·obtain⟨w,h1,rfl⟩:=Zc h;simp only[Sh.fill,mts_fills l _ w h1 yK,yz]
   ·cases h
  ·cases h
 |.tup l,d,q,h,yK=>by
  simp only[Sh.mt] at h;split at h
  ·obtain⟨w,h1,rfl⟩:=Zc h;simp only[Sh.fill,mts_fills l _ w h1 yK,yz]
  ·cases h
 |.iface t x,d,q,h,yK=>by
  simp only[Sh.mt] at h;split at h
  ·split at h
   ·obtain⟨w,h1,rfl⟩:=Zc h;simp only[Sh.fill,Zlf x _ w h1 yK,yz]
   ·cases h
  ·cases h
 |.ptr0,d,q,h,yK=>by
  simp only[Sh.mt] at h
  split at h <;> cases h;rfl
 |.fn0,d,q,h,yK=>by
  simp only[Sh.mt] at h
  split at h <;> cases h;rfl
 |.if0,d,q,h,yK=>by
  simp only[Sh.mt] at h
  split at h <;> cases h;rfl
 |.map0,d,q,h,yK=>by
  simp only[Sh.mt] at h
  split at h <;> cases h;rfl
 |.junk,d,q,h,yK=>by
  simp only[Sh.mt] at h;split at h <;> cases h;rfl
theorem mts_fills{L:Lk}:∀(l:yL Sh)(ds:yL TD)(q:yL TD×yL TV),Sh.mts L l ds=some q->∀yK,Sh.fills l (q.2++yK)=some (q.1,yK)
 |[],ds,q,h,yK=>by
  simp only[Sh.mts] at h
  split at h <;> cases h;rfl
 |s::r,ds,q,h,yK=>by
  simp only[Sh.mts] at h;split at h
  ·split at h
   ·rename_i a b h1 h2;cases h;simp only[Sh.fills,yab,Zlf s _ a h1,ya,mts_fills r _ b h2,yz]
   ·cases h
  ·cases h
end
mutual
theorem Zs1{L M:Lk}(hL:∀id t,ZZ L id t none=ZZ M id t none):∀(s:Sh)(d:TD)(q:TD×yL TV),s.mt L d=some q->Wk (d.er L) (q.1.er M)
 |.v t,d,q,h=>by
  simp only[Sh.mt] at h;obtain⟨y,h1,rfl⟩:=Zc h
  exact ZLR h1
 |.elem t,d,q,h=>by
  simp only[Sh.mt] at h;obtain⟨y,h1,rfl⟩:=Zc h;cases d <;> first|cases h1|skip
  exact Wk.elem (ZzP h1)
 |.nil t,d,q,h=>by
  simp only[Sh.mt] at h;split at h
  ·split at h
   ·rename_i hn;cases h;refine Wk.of_eq ?_;rw[TD.er,ZDR hn];rfl
   ·cases h
  ·cases h
 |.sl nn t,d,q,h=>by
  simp only[Sh.mt] at h;split at h
  ·split at h
   ·rename_i e;subst e;obtain⟨w,h1,rfl⟩:=Zc h;obtain⟨e,h2⟩:=Zx h1;subst e;subst h2;exact Wk.refl _
   ·cases h
  ·cases h
 |.own j t,d,q,h=>by
  simp only[Sh.mt] at h;split at h
  ·split at h
   ·rename_i e;obtain⟨rfl,rfl⟩:=e;cases h;rw[TD.er,TD.er,hL];exact Wk.own rfl
   ·cases h
  ·cases h
 |.ref j p,d,q,h=>by
  simp only[Sh.mt] at h;split at h
  ·split at h
   ·rename_i e;obtain⟨rfl,e⟩:=e;cases h;rw[Zen e];exact Wk.refl _
   ·cases h
  ·cases h
 |.mp j,d,q,h=>by
  simp only[Sh.mt] at h;split at h
  ·split at h
   ·rename_i e;subst e;cases h;exact Wk.refl _
   ·cases h
  ·cases h
 |.rw j,d,q,h=>by
  simp only[Sh.mt] at h;split at h
  ·split at h
   ·rename_i e;subst e;cases h;refine Wk.of_eq ?_;rw[TD.er,TD.er];simp only[Zbb,hL]
   ·cases h
  ·cases h
 |.rp j s p,d,q,h=>by
  simp only[Sh.mt] at h;split at h
  ·split at h
   ·rename_i e;obtain⟨rfl,rfl,e⟩:=e;cases h;rw[Zen e];refine Wk.of_eq ?_;rw[TD.er,TD.er];simp only[Zbb,hL]
   ·cases h
  ·cases h
 |.view j p s lo n,d,q,h=>by
  simp only[Sh.mt] at h;split at h
  ·split at h
   ·rename_i e;obtain⟨rfl,e,rfl,rfl,rfl⟩:=e;cases h;rw[Zen e];exact Wk.refl _
   ·cases h
  ·cases h
 |.fn g l,d,q,h=>by
  simp only[Sh.mt] at h;split at h
  ·split at h
   ·rename_i e;subst e;obtain⟨w,h1,rfl⟩:=Zc h;exact WkL.fn (mts_wk hL l _ w h1)
   ·cases h
  ·cases h
 |.agg l,d,q,h=>by
  simp only[Sh.mt] at h;split at h
  ·obtain⟨w,h1,rfl⟩:=Zc h;exact WkL.agg (mts_wk hL l _ w h1)
  ·cases h
 |.arr n s l,d,q,h=>by
  simp only[Sh.mt] at h;split at h
  ·split at h
   ·rename_i e;obtain⟨rfl,rfl⟩:=e;obtain⟨w,h1,rfl⟩:=Zc h;exact WkL.arr (mts_wk hL l _ w h1)
   ·cases h
  ·cases h
 |.tup l,d,q,h=>by
  simp only[Sh.mt] at h;split at h
  ·obtain⟨w,h1,rfl⟩:=Zc h;exact WkL.tup (mts_wk hL l _ w h1)
  ·cases h
 |.iface t x,d,q,h=>by
  simp only[Sh.mt] at h;split at h
  ·split at h
   ·rename_i e;subst e;obtain⟨w,h1,rfl⟩:=Zc h;exact Wk.iface (Zs1 hL x _ w h1)
   ·cases h
  ·cases h
 |.ptr0,d,q,h=>by
  simp only[Sh.mt] at h
  split at h <;> cases h;exact Wk.refl _
 |.fn0,d,q,h=>by
  simp only[Sh.mt] at h
  split at h <;> cases h;exact Wk.refl _
 |.if0,d,q,h=>by
  simp only[Sh.mt] at h
  split at h <;> cases h;exact Wk.refl _
 |.map0,d,q,h=>by
  simp only[Sh.mt] at h
  split at h <;> cases h;exact Wk.refl _
 |.junk,d,q,h=>by
  simp only[Sh.mt] at h;split at h
  ·rename_i e;cases h;exact Wk.junk e.2 e.1
  ·cases h
theorem mts_wk{L M:Lk}(hL:∀id t,ZZ L id t none=ZZ M id t none):∀(l:yL Sh)(ds:yL TD)(q:yL TD×yL TV),Sh.mts L l ds=some q->WkL (TD.ers L ds) (TD.ers M q.1)
 |[],ds,q,h=>by
  simp only[Sh.mts] at h
  split at h <;> cases h;exact .nil
 |s::r,ds,q,h=>by
  simp only[Sh.mts] at h;split at h
  ·split at h
   ·rename_i a b h1 h2;cases h;exact .cons (Zs1 hL s _ a h1) (mts_wk hL r _ b h2)
   ·cases h
  ·cases h
end
inductive ESh where
 |var (s:Sh) (st:Bool)
 |log (t:Ty) (e:yc)
 |map (tid:yc) (k v:Ty)
 |row (t:Ty) (st:Bool) (e:yc)
 |rowN (t:Ty) (np:List Nat) (st:Bool) (e:yc)
 |rowM (t:Ty) (np:List Nat) (st:Bool) (e:yc) (s:Sh)
 |gone
def Zm3(k v:Ty):Ty:=.sl (.st [k,v])
def ZLS(L:Lk)(t:Ty)(d:TD):yO t.den:=(d.flat L).bind λx=>TP.to ZjH x t
theorem ZDU{L:Lk}{t:Ty}{d:TD}{y:t.den}(h:ZLS L t d=some y):Wk (d.er L) (.p (t.enc y)):=by
 obtain⟨x,h1,h2⟩:=yf.1 h;have hf:(d.er L).flat=some x.pe:=by rw[ZrZ,h1];rfl
 have hw:Wk (d.er L) (.p x.pe):=⟨(Zpl _ _ hf).symm,(Zzd hf).symm,λσ vs r=>by simp only[yH];exact Zk3 _ _ _ hf r⟩;have hz:=ZzP h2;exact⟨hw.size.trans hz.size,hw.agg.trans hz.agg,λσ vs r=>(Wk.p hz).rep σ vs (hw.rep σ vs r)⟩
def ESh.mt(L:Lk):ESh->TEnt->yO (TEnt×yL TV)
 |.var s st,.var d st'=>if st=st'\/st=false then(s.mt L d).map λq=>(.var q.1 st,q.2) else none
 |.log t e,.log u e' xs=>if e=e' then(Ty.castL u t xs).map λys=>(.log t e ys,[⟨.sl t,ys⟩]) else none
 |.map tid k v,.map tid' k' v' l=>if tid=tid' then(Ty.cast (Zm3 k' v') (Zm3 k v) l).map λ(m:yL (k.den×v.den))=>(.map tid k v m,[⟨Zm3 k v,m⟩]) else none
 |.row t st e,.rowT u v st' e' xs=>if(st=st'\/st=false)/\e=e' then(Ty.castL u t xs).map λys=>(.rowT t v st e ys,[⟨.sl (.st []),v⟩,⟨.sl t,ys⟩]) else none
 |.rowN t np st e,.rowN u np' v st' e' pre post=>if(st=st'\/st=false)/\e=e'/\np=np' then(Ty.castL u t pre).bind λys=>(Ty.castL u t post).map λzs=>
   (.rowN t np v st e ys zs,[⟨.sl (.st []),v⟩,⟨.sl t,ys⟩,⟨.sl t,zs⟩]) else none
 |.rowN t np st e,.rowM u np' v st' e' pre mid post=>if st=st'/\e=e'/\np=np' then(Ty.castL u t pre).bind λys=>(Ty.castL u t post).bind λzs=>(ZLS L t mid).map λy=>
   (.rowN t np v st e (ys++[y]) zs,[⟨.sl (.st []),v⟩,⟨.sl t,ys++[y]⟩,⟨.sl t,zs⟩]) else none
 |.rowM t np st e s,.rowM u np' v st' e' pre mid post=>if st=st'/\e=e'/\np=np' then(Ty.castL u t pre).bind λys=>(Ty.castL u t post).bind λzs=>(s.mt L mid).map λq=>
   (.rowM t np v st e ys q.1 zs,[⟨.sl (.st []),v⟩,⟨.sl t,ys⟩,⟨.sl t,zs⟩]++q.2) else none
 |.gone,.gone=>some (.gone,[])
 |_,_=>none
def ESh.fill:ESh->yL TV->yO (TEnt×yL TV)
 |.var s st,vs=>(s.fill vs).map λq=>(.var q.1 st,q.2)
 |.log t e,vs=>match vs with
  |x::r=>(Ty.cast x.1 (.sl t) x.2).map λ(y:yL t.den)=>(.log t e y,r)
  |[]=>none
 |.map tid k v,vs=>match vs with
  |x::r=>(Ty.cast x.1 (Zm3 k v) x.2).map λ(y:yL (k.den×v.den))=>(.map tid k v y,r)
  |[]=>none
 |.row t st e,vs=>match vs with
  |x::y::r=>(Ty.cast x.1 (.sl (.st [])) x.2).bind λ(v:yL Unit)=>(Ty.cast y.1 (.sl t) y.2).map λ(l:yL t.den)=>(.rowT t v st e l,r)
  |_=>none
 |.rowN t np st e,vs=>match vs with
  |x::y::z::r=>(Ty.cast x.1 (.sl (.st [])) x.2).bind λ(v:yL Unit)=>(Ty.cast y.1 (.sl t) y.2).bind λ(l:yL t.den)=>(Ty.cast z.1 (.sl t) z.2).bind λ(m:yL t.den)=>some (.rowN t np v st e l m,r)
  |_=>none
 |.rowM t np st e s,vs=>match vs with
  |x::y::z::r=>(Ty.cast x.1 (.sl (.st [])) x.2).bind λ(v:yL Unit)=>(Ty.cast y.1 (.sl t) y.2).bind λ(l:yL t.den)=>(Ty.cast z.1 (.sl t) z.2).bind λ(m:yL t.den)=>
   (s.fill r).map λq=>(.rowM t np v st e l q.1 m,q.2)
  |_=>none
 |.gone,vs=>some (.gone,vs)
def ESh.mts(L:Lk):yL ESh->yL TEnt->yO (yL TEnt×yL TV)
 |[],[]=>some ([],[])
 |s::r,d::q=>match ESh.mt L s d,ESh.mts L r q with
  |some a,some b=>some (a.1::b.1,a.2++b.2)
  |_,_=>none
 |_,_=>none
def ESh.fills:yL ESh->yL TV->yO (yL TEnt×yL TV)
 |[],vs=>some ([],vs)
 |s::r,vs=>(ESh.fill s vs).bind λa=>(ESh.fills r a.2).map λb=>(a.1::b.1,b.2)
theorem ZG8{O:Type}{t:Ty}(v:yL Unit)(a b:yL t.den)(k:yL Unit->yL t.den->yL t.den->yO O):
 ((Ty.cast (.sl (.st [])) (.sl (.st [])) v).bind λ(v:yL Unit)=>(Ty.cast (.sl t) (.sl t) a).bind λ(l:yL t.den)=>(Ty.cast (.sl t) (.sl t) b).bind λ(m:yL t.den)=>k v l m)=k v a b:=by
 have e1:=YV (.sl (.st [])) v;have e2:=YV (.sl t) a;have e3:=YV (.sl t) b;rw[e1,e2,e3];rfl
theorem ZG9{L:Lk}{s:ESh}{d:TEnt}{q:TEnt×yL TV}(h:s.mt L d=some q)(yK:yL TV):s.fill (q.2++yK)=some (q.1,yK):=by
 unfold ESh.mt at h;split at h
 ·split at h
  ·obtain⟨w,h1,rfl⟩:=Zc h;simp only[ESh.fill,Zlf _ _ w h1 yK,yz]
  ·cases h
 ·split at h
  ·obtain⟨w,h1,rfl⟩:=Zc h;rename_i t e _ _ _ _;exact congrArg (Option.map λ(y:yL t.den)=>(TEnt.log t e y,yK)) (YV (.sl t) w)
  ·cases h
 ·split at h
  ·obtain⟨w,h1,rfl⟩:=Zc h;rename_i tid k v _ _ _ _ _;exact congrArg (Option.map λ(y:yL (k.den×v.den))=>(TEnt.map tid k v y,yK)) (YV (Zm3 k v) w)
  ·cases h
 ·split at h
  ·obtain⟨w,h1,rfl⟩:=Zc h;rename_i t st e _ v _ _ _ _;have e1:=YV (.sl (.st [])) v;have e2:=YV (.sl t) w;show((Ty.cast (.sl (.st [])) (.sl (.st [])) v).bind λ(v:yL Unit)=>(Ty.cast (.sl t) (.sl t) w).map λ(l:yL t.den)=>(TEnt.rowT t v st e l,yK))=_;rw[e1,e2];rfl
  ·cases h
 ·rename_i t np st e u np' v st' e' pre post;split at h
  ·obtain⟨a,h1,h⟩:=yf.1 h;obtain⟨b,h2,rfl⟩:=Zc h;exact ZG8 v a b (λv l m=>some (TEnt.rowN t np v st e l m,yK))
  ·cases h
 ·rename_i t np st e u np' v st' e' pre mid post;split at h
  ·obtain⟨a,h1,h⟩:=yf.1 h;obtain⟨b,h2,h⟩:=yf.1 h;obtain⟨c,h3,rfl⟩:=Zc h;exact ZG8 v (a++[c]) b (λv l m=>some (TEnt.rowN t np v st e l m,yK))
  ·cases h
 ·rename_i t np st e s u np' v st' e' pre mid post;split at h
  ·obtain⟨a,h1,h⟩:=yf.1 h;obtain⟨b,h2,h⟩:=yf.1 h;obtain⟨c,h3,rfl⟩:=Zc h;have:=ZG8 v a b (λv l m=>(s.fill (c.2++yK)).map λq=>(TEnt.rowM t np v st e l q.1 m,q.2));refine this.trans ?_;rw[Zlf _ _ c h3 yK];rfl
  ·cases h
 ·cases h;rfl
 ·cases h
theorem Q2{L:Lk}:∀{l:yL ESh}{H:yL TEnt}{q:yL TEnt×yL TV},ESh.mts L l H=some q->∀yK,ESh.fills l (q.2++yK)=some (q.1,yK)
 |[],[],q,h,yK=>by cases h;rfl
 |[],_::_,q,h,yK=>by cases h
 |_::_,[],q,h,yK=>by cases h
 |s::r,d::H,q,h,yK=>by
  simp only[ESh.mts] at h;split at h
  ·rename_i a b h1 h2;cases h;simp only[ESh.fills,yab,ZG9 h1,ya,Q2 h2,yz]
  ·cases h
theorem ZLT{L:Lk}{s:ESh}{d:TEnt}{q:TEnt×yL TV}(h:s.mt L d=some q):lkE (some q.1)=lkE (some d):=by
 unfold ESh.mt at h;split at h
 ·split at h
  ·obtain⟨w,h1,rfl⟩:=Zc h;rfl
  ·cases h
 ·split at h
  ·obtain⟨w,h1,rfl⟩:=Zc h;obtain⟨e,h2⟩:=Zx h1;subst e;subst h2;rfl
  ·cases h
 ·split at h
  ·obtain⟨w,h1,rfl⟩:=Zc h;rfl
  ·cases h
 ·split at h
  ·obtain⟨w,h1,rfl⟩:=Zc h;obtain⟨e,h2⟩:=Zx h1;subst e;subst h2;rfl
  ·cases h
 ·split at h
  ·obtain⟨a,h1,h⟩:=yf.1 h;obtain⟨b,h2,rfl⟩:=Zc h;obtain⟨e,h3⟩:=Zx h1;subst e;obtain⟨_,h4⟩:=Zx h2;subst h3;subst h4;rfl
  ·cases h
 ·split at h
  ·obtain⟨a,h1,h⟩:=yf.1 h;obtain⟨b,h2,h⟩:=yf.1 h;obtain⟨c,h3,rfl⟩:=Zc h;obtain⟨e,h4⟩:=Zx h1;subst e;obtain⟨_,h5⟩:=Zx h2;subst h4;subst h5;simp only[lkE,yo,yah,yco];rw[Nat.add_assoc,Nat.add_comm (0+1)]
  ·cases h
 ·split at h
  ·obtain⟨a,h1,h⟩:=yf.1 h;obtain⟨b,h2,h⟩:=yf.1 h;obtain⟨c,h3,rfl⟩:=Zc h;obtain⟨e,h4⟩:=Zx h1;subst e;obtain⟨_,h5⟩:=Zx h2;subst h4;subst h5;rfl
  ·cases h
 ·cases h;rfl
 ·cases h
theorem ZgP{L:Lk}:∀{l:yL ESh}{H:yL TEnt}{q:yL TEnt×yL TV},ESh.mts L l H=some q->q.1.length=H.length/\lk q.1=lk H
 |[],[],q,h=>by cases h;exact⟨rfl,rfl⟩
 |[],_::_,q,h=>by cases h
 |_::_,[],q,h=>by cases h
 |s::r,d::H,q,h=>by
  simp only[ESh.mts] at h;split at h
  ·rename_i a b h1 h2;cases h;obtain⟨e1,e2⟩:=ZgP h2;refine⟨by simp[e1],funext λi=> ?_⟩
   cases i with
   |zero=>exact ZLT h1
   |succ i=>exact congrFun e2 i
  ·cases h
theorem ZDV:∀(l:yL Dv){m m':yL Dv},WkL m m'->WkL (l++m) (l++m')
 |[],_,_,h=>h
 |x::l,_,_,h=>.cons (Wk.refl x) (ZDV l h)
theorem ZDW{l m:yL Dv}{d d':Dv}(h:Wk d d'):WkL (l++d::m) (l++d'::m):=ZDV l (.cons h (WkL.refl m))
theorem ZHa{n s:Nat}(xs:yL Pl):Wk (.arr n s (xs.map .p)) (.p (.arr n s xs)):=⟨rfl,rfl,λσ vs r=>by
 simp only[yH,repC] at r ⊢;obtain⟨h1,h2,h3⟩:=r;exact⟨by simpa using h1,λx hx=>h2 (.p x) (List.mem_map_of_mem hx),Zhz.1 h3⟩⟩
theorem ZLU{n s:Nat}{d:Dv}{x:Pl}(l m:yL Pl)(h:Wk d (.p x)):Wk (.arr n s (l.map .p++d::m.map .p)) (.p (.arr n s (l++x::m))):=by
 have h1:Wk (.arr n s (l.map .p++d::m.map .p)) (.arr n s (l.map .p++.p x::m.map .p)):=WkL.arr (ZDW h);have h2:=ZHa (n:=n) (s:=s) (l++x::m);rw[yam,yad] at h2;exact⟨rfl,rfl,λσ vs r=>h2.rep σ vs (h1.rep σ vs r)⟩
theorem ZDX{L M:Lk}{t:Ty}{np:yL Nat}{v:yL Unit}{st:Bool}{e:yc}{a b:yL t.den}{mid:TD}{c:t.den}(hw:Wk (mid.er L) (.p (t.enc c))):
 WkE ((TEnt.rowM t np v st e a mid b).er L) ((TEnt.rowN t np v st e (a++[c]) b).er M):=by
 have h:=ZLU (a.map t.enc) (b.map λx=>(Zwd np (.v t x)).pe) (n:=a.length+(b.length+1)) (s:=t.size) hw;rw[yav,yav] at h;have e1:(a++[c]).length+b.length=a.length+(b.length+1):=by rw[yo,yah,yco];omega
 have e2:(a++[c]).map t.enc++(b.map λx=>(Zwd np (.v t x)).pe)=a.map t.enc++t.enc c::b.map λx=>(Zwd np (.v t x)).pe:=by rw[yam,yab];rfl
 rw[TEnt.er,TEnt.er,e1,e2];exact .row ⟨h,rfl⟩
theorem ZLV{L M:Lk}(hL:∀id t,ZZ L id t none=ZZ M id t none){s:ESh}{d:TEnt}{q:TEnt×yL TV}(h:s.mt L d=some q):WkE (d.er L) (q.1.er M):=by
 unfold ESh.mt at h;split at h
 ·split at h
  ·rename_i e;obtain⟨w,h1,rfl⟩:=Zc h;rcases e with e|e
   ·subst e;exact .var (Zs1 hL _ _ w h1)
   ·subst e;exact .varz (Zs1 hL _ _ w h1)
  ·cases h
 ·split at h
  ·rename_i e;subst e;obtain⟨w,h1,rfl⟩:=Zc h;obtain⟨e,h2⟩:=Zx h1;subst e;subst h2;exact .refl _
  ·cases h
 ·split at h
  ·rename_i e;subst e;obtain⟨w,h1,rfl⟩:=Zc h;obtain⟨e,h2⟩:=Zae h1;unfold Zm3 at e;simp only[Ty.sl.injEq,Ty.st.injEq,List.cons.injEq,and_true] at e;obtain⟨e1,e2⟩:=e;subst e1;subst e2;subst h2;exact .refl _
  ·cases h
 ·split at h
  ·rename_i e;obtain⟨e0,e1⟩:=e;subst e1;obtain⟨w,h1,rfl⟩:=Zc h;obtain⟨e,h2⟩:=Zx h1;subst e;subst h2;rcases e0 with e0|e0
   ·subst e0;exact .refl _
   ·subst e0;exact .lock
  ·cases h
 ·split at h
  ·rename_i e;obtain⟨e0,e1,e2⟩:=e;subst e1;subst e2;obtain⟨a,h1,h⟩:=yf.1 h;obtain⟨b,h2,rfl⟩:=Zc h;obtain⟨e,h3⟩:=Zx h1;subst e;obtain⟨_,h4⟩:=Zx h2;subst h3;subst h4;rcases e0 with e0|e0
   ·subst e0;exact .refl _
   ·subst e0;exact .lock
  ·cases h
 ·rename_i _ _ _ _ _ _ _ _ _ pre mid post;split at h
  ·rename_i e;obtain⟨e0,e1,e2⟩:=e;subst e0;subst e1;subst e2;obtain⟨a,h1,h⟩:=yf.1 h;obtain⟨b,h2,h⟩:=yf.1 h;obtain⟨c,h3,rfl⟩:=Zc h;obtain⟨e,h4⟩:=Zx h1;subst e;obtain⟨_,h5⟩:=Zx h2;subst h4;subst h5;exact ZDX (ZDU h3)
  ·cases h
 ·split at h
  ·rename_i e;obtain⟨e0,e1,e2⟩:=e;subst e0;subst e1;subst e2;obtain⟨a,h1,h⟩:=yf.1 h;obtain⟨b,h2,h⟩:=yf.1 h;obtain⟨c,h3,rfl⟩:=Zc h;obtain⟨e,h4⟩:=Zx h1;subst e;obtain⟨_,h5⟩:=Zx h2;subst h4;subst h5;rw[TEnt.er,TEnt.er];exact .row ⟨WkL.arr (ZDW (Zs1 hL _ _ c h3)),rfl⟩
  ·cases h
 ·cases h;exact .refl _
 ·cases h
theorem Zlg{L M:Lk}(hL:∀id t,ZZ L id t none=ZZ M id t none):∀{l:yL ESh}{H:yL TEnt}{q:yL TEnt×yL TV},ESh.mts L l H=some q->WkH (H.map (TEnt.er L)) (q.1.map (TEnt.er M))
 |[],[],q,h=>by cases h;exact .nil
 |[],_::_,q,h=>by cases h
 |_::_,[],q,h=>by cases h
 |s::r,d::H,q,h=>by
  simp only[ESh.mts] at h;split at h
  ·rename_i a b h1 h2;cases h;exact .cons (ZLV hL h1) (Zlg hL h2)
  ·cases h
def ofD:(ts:yL Ty)->Ty.dens ts->yL TV
 |[],_=>[]
 |[t],x=>[⟨t,x⟩]
 |t::u::r,x=>⟨t,x.1⟩::ofD (u::r) x.2
def toD:(ts:yL Ty)->yL TV->yO (Ty.dens ts)
 |[],[]=>some ()
 |[t],[x]=>Ty.cast x.1 t x.2
 |t::u::r,x::l=>ZlR (Ty.cast x.1 t x.2) (toD (u::r) l)
 |_,_=>none
theorem ZbZ:∀(ts:yL Ty)(l:yL TV)(x:Ty.dens ts),toD ts l=some x->ofD ts x=l
 |[],[],x,h=>rfl
 |[],_::_,x,h=>by cases h
 |[t],[],x,h=>by cases h
 |[t],[y],x,h=>by
  obtain⟨e,h2⟩:=Zae (show Ty.cast y.1 t y.2=some x from h)
  obtain⟨u,y⟩:=y;dsimp only at e h2;subst e;subst h2
  rfl
 |[t],_::_::_,x,h=>by cases h
 |t::u::r,[],x,h=>by cases h
 |t::u::r,y::l,x,h=>by
  obtain⟨h1,h2⟩:=Q0 (α:=t.den) (β:=Ty.dens (u::r)) (show ZlR (Ty.cast y.1 t y.2) (toD (u::r) l)=some x from h)
  obtain⟨e,h3⟩:=Zae h1;obtain⟨u',y⟩:=y;dsimp only at e h3;subst e;have:=ZbZ (u::r) l x.2 h2;show(⟨u',x.1⟩:TV)::ofD (u::r) x.2=_;rw[this,h3]
abbrev Slots:=yL (Nat×Sh)
def shs(sl:Slots)(n:Nat):yL Sh:=(yr n).map λi=>(sl.lookup i).getD .junk
def Qv(n:Nat)(sl:Slots)(es:yL ESh)(vs:yL TV):yO (yL TD×yL TEnt):=
 (Sh.fills (shs sl n) vs).bind λq=>(ESh.fills es q.2).bind λw=>if w.2.isEmpty then some (q.1,w.1) else none
theorem Zlh:∀{l:yL Sh}{vs:yL TV}{q:yL TD×yL TV},Sh.fills l vs=some q->q.1.length=l.length
 |[],vs,q,h=>by simp only[Sh.fills] at h;cases h;rfl
 |s::r,vs,q,h=>by
  simp only[Sh.fills] at h;obtain⟨a,h1,h⟩:=yf.1 h;obtain⟨b,h2,rfl⟩:=Zc h;simp[Zlh h2]
theorem Zli{n:Nat}{sl:Slots}{es:yL ESh}{vs:yL TV}{q:yL TD×yL TEnt}(h:Qv n sl es vs=some q):q.1.length=n:=by
 unfold Qv at h;obtain⟨a,h1,h⟩:=yf.1 h;obtain⟨b,h2,h⟩:=yf.1 h;split at h
 ·cases h;rw[Zlh h1];simp[shs]
 ·cases h
structure XSh where
 ex:Ex
 sl:Slots
 es:List ESh
 ty:List Ty
def XSh.sum:yL XSh->Type
 |[]=>Empty
 |[e]=>Ty.dens e.ty
 |e::f::r=>Ty.dens e.ty⊕XSh.sum (f::r)
abbrev Kc(O:Type):=Ex->yL TD->yL TEnt->yO O
def xT{O:Type}(n:Nat):(l:yL XSh)->XSh.sum l->Kc O->yO O
 |[],_,_=>none
 |[e],o,K=>(Qv n e.sl e.es (ofD e.ty o)).bind λs=>K e.ex s.1 s.2
 |e::f::r,o,K=>match (o:Ty.dens e.ty⊕XSh.sum (f::r)) with
  |.inl o=>(Qv n e.sl e.es (ofD e.ty o)).bind λs=>K e.ex s.1 s.2
  |.inr o=>xT n (f::r) o K
def ZAf:(l:yL XSh)->XSh.sum l->XSh->yL TV->Prop
 |[],_,_,_=>False
 |[e],o,x,vs=>x=e/\vs=ofD e.ty o
 |e::f::r,o,x,vs=>match (o:Ty.dens e.ty⊕XSh.sum (f::r)) with
  |.inl o=>x=e/\vs=ofD e.ty o
  |.inr o=>ZAf (f::r) o x vs
theorem Zr0{O:Type}{n:Nat}{K:Kc O}{out:O}:∀{l:yL XSh}{o:XSh.sum l},xT n l o K=some out->∃e vs s,ZAf l o e vs/\Qv n e.sl e.es vs=some s/\K e.ex s.1 s.2=some out
 |[],_,h=>by cases h
 |[e],o,h=>by
  obtain⟨s,h1,h2⟩:=yf.1 (show(Qv n e.sl e.es (ofD e.ty o)).bind (λs=>K e.ex s.1 s.2)=some out from h)
  exact⟨e,_,s,⟨rfl,rfl⟩,h1,h2⟩
 |e::f::r,.inl o,h=>by
  obtain⟨s,h1,h2⟩:=yf.1 (show(Qv n e.sl e.es (ofD e.ty o)).bind (λs=>K e.ex s.1 s.2)=some out from h)
  exact⟨e,_,s,⟨rfl,rfl⟩,h1,h2⟩
 |e::f::r,.inr o,h=>by
  obtain⟨e',vs,s,h1,h2,h3⟩:=Zr0 (l:=f::r) (o:=o) h;exact⟨e',vs,s,h1,h2,h3⟩
mutual
def TD.rn(f:Nat->yO Nat):TD->yO TD
 |.p x=>some (.p x)
 |.elem x=>some (.elem x)
 |.ref id yQ=>(f id).map λi=>.ref i yQ
 |.own id nn t c=>(f id).map λi=>.own i nn t c
 |.view id yQ s lo n=>(f id).map λi=>.view i yQ s lo n
 |.agg xs=>(TD.rns f xs).map .agg
 |.arr n s xs=>(TD.rns f xs).map (.arr n s)
 |.fn g cap=>(TD.rns f cap).map (.fn g)
 |.iface t x=>(TD.rn f x).map (.iface t)
 |.tup xs=>(TD.rns f xs).map .tup
 |.mp id=>(f id).map .mp
 |.rv id v s lo n=>(f id).map λi=>.rv i v s lo n
 |.rref id v yQ=>(f id).map λi=>.rref i v yQ
 |.rw id=>(f id).map .rw
 |.rp id yQ=>(f id).map λi=>.rp i yQ
 |.junk=>some .junk
def TD.rns(f:Nat->yO Nat):yL TD->yO (yL TD)
 |[]=>some []
 |x::r=>match TD.rn f x,TD.rns f r with
  |some y,some ys=>some (y::ys)
  |_,_=>none
end
def TEnt.rn(f:Nat->yO Nat):TEnt->yO TEnt
 |.var d st=>(d.rn f).map λd'=>.var d' st
 |.row v s st e d=>(d.rn f).map λd'=>.row v s st e d'
 |.rowM t np v st e pre d post=>(d.rn f).map λd'=>.rowM t np v st e pre d' post
 |e=>some e
def TEnt.rns(f:Nat->yO Nat):yL TEnt->yO (yL TEnt)
 |[]=>some []
 |x::r=>match TEnt.rn f x,TEnt.rns f r with
  |some y,some ys=>some (y::ys)
  |_,_=>none
def Rc(f:Nat->yO Nat)(L M:Lk):Prop:=∀id j t,f id=some j->ZZ L id t none=ZZ M j t none
theorem ZJM{f:Nat->yO Nat}{L M:Lk}(h:Rc f L M){id j:Nat}(e:f id=some j)(t:Ty)(c:yO (yL t.den)):ZZ L id t c=ZZ M j t c:=by
 cases c with
 |none=>exact h id j t e
 |some _=>rfl
mutual
theorem Zeo{f:Nat->yO Nat}{L M:Lk}(h:Rc f L M):∀(d d':TD),d.rn f=some d'->Dv.rn f (d.er L)=some (d'.er M)
 |.p x,d',e=>by cases e;rfl
 |.elem x,d',e=>by cases e;rfl
 |.ref id yQ,d',e=>by
  obtain⟨i,h1,rfl⟩:=Zc e
  simp only[TD.er,Dv.rn,h1,yz]
 |.own id nn t c,d',e=>by
  obtain⟨i,h1,rfl⟩:=Zc e
  simp only[TD.er,Dv.rn,h1,yz,ZJM h h1]
 |.view id yQ s lo n,d',e=>by
  obtain⟨i,h1,rfl⟩:=Zc e
  simp only[TD.er,Dv.rn,h1,yz]
 |.agg xs,d',e=>by
  obtain⟨i,h1,rfl⟩:=Zc e
  simp only[TD.er,Dv.rn,rns_er h xs i h1,yz]
 |.arr n s xs,d',e=>by
  obtain⟨i,h1,rfl⟩:=Zc e
  simp only[TD.er,Dv.rn,rns_er h xs i h1,yz]
 |.fn g xs,d',e=>by
  obtain⟨i,h1,rfl⟩:=Zc e
  simp only[TD.er,Dv.rn,rns_er h xs i h1,yz]
 |.iface t x,d',e=>by
  obtain⟨i,h1,rfl⟩:=Zc e
  simp only[TD.er,Dv.rn,Zeo h x i h1,yz]
 |.tup xs,d',e=>by
  obtain⟨i,h1,rfl⟩:=Zc e
  simp only[TD.er,Dv.rn,rns_er h xs i h1,yz]
 |.mp id,d',e=>by
  obtain⟨i,h1,rfl⟩:=Zc e
  simp only[TD.er,Dv.rn,h1,yz]
 |.rv id v s lo n,d',e=>by
  obtain⟨i,h1,rfl⟩:=Zc e
  simp only[TD.er,Dv.rn,h1,yz]
 |.rref id v yQ,d',e=>by
  obtain⟨i,h1,rfl⟩:=Zc e
  simp only[TD.er,Dv.rn,h1,yz]
 |.rw id,d',e=>by
  obtain⟨i,h1,rfl⟩:=Zc e
  simp only[TD.er,Dv.rn,h1,yz,Zbb,h _ _ _ h1]
 |.rp id yQ,d',e=>by
  obtain⟨i,h1,rfl⟩:=Zc e
  simp only[TD.er,Dv.rn,h1,yz,Zbb,h _ _ _ h1]
 |.junk,d',e=>by cases e;rfl
theorem rns_er{f:Nat->yO Nat}{L M:Lk}(h:Rc f L M):∀(ds es:yL TD),TD.rns f ds=some es->Dv.rns f (TD.ers L ds)=some (TD.ers M es)
 |[],es,e=>by cases e;rfl
 |x::r,es,e=>by
  simp only[TD.rns] at e;split at e
  ·rename_i y ys h1 h2;cases e;simp only[TD.ers,Dv.rns,Zeo h x y h1,rns_er h r ys h2]
  ·cases e
end
theorem ZCC{α:Type}(f:Nat->yO Nat)(g:α->Pl):∀(l:yL α)(m:yL Dv),Dv.rns f ((l.map λx=>.p (g x))++m)=(Dv.rns f m).map λq=>(l.map λx=>.p (g x))++q
 |[],m=>by cases h:Dv.rns f m <;> simp[h]
 |x::l,m=>by
  rw[yad,yaa,Dv.rns,Dv.rn,ZCC f g l m];cases Dv.rns f m <;> rfl
theorem ZJN{α β:Type}{f:Nat->yO Nat}{g:α->Pl}{g':β->Pl}{l:yL α}{d d':Dv}{m:yL β}(h:Dv.rn f d=some d'):
 Dv.rns f ((l.map λx=>.p (g x))++d::m.map λx=>.p (g' x))=some ((l.map λx=>.p (g x))++d'::m.map λx=>.p (g' x)):=by
 have e:=ZCC f g' m [];rw[yar] at e;rw[ZCC,Dv.rns,h,e];simp[Dv.rns]
theorem ZHb{f:Nat->yO Nat}{L M:Lk}(h:Rc f L M){e e':TEnt}(k:e.rn f=some e'):Ent.rn f (e.er L)=some (e'.er M):=by
 cases e with
 |var d st=>
  obtain⟨i,h1,rfl⟩:=Zc k
  simp only[TEnt.er,Ent.rn,Zeo h d i h1,yz]
 |row v s st e d=>
  obtain⟨i,h1,rfl⟩:=Zc k
  simp only[TEnt.er,Ent.rn,Zeo h d i h1,yz]
 |rowM t np v st e pre d post=>
  obtain⟨i,h1,rfl⟩:=Zc k
  simp only[TEnt.er,Ent.rn,Dv.rn,ZJN (Zeo h d i h1),yz]
 |_=>cases k;rfl
theorem ZDY{f:Nat->yO Nat}{L M:Lk}(h:Rc f L M):∀(ds es:yL TEnt),TEnt.rns f ds=some es->Ent.rns f (ds.map (TEnt.er L))=some (es.map (TEnt.er M))
 |[],es,e=>by cases e;rfl
 |x::r,es,e=>by
  simp only[TEnt.rns] at e;split at e
  ·rename_i y ys h1 h2;cases e;simp only[yad,Ent.rns,ZHb h h1,ZDY h r ys h2]
  ·cases e
theorem ZHc{f:Nat->yO Nat}{e e':TEnt}(k:e.rn f=some e'):lkE (some e')=lkE (some e):=by
 cases e with
 |var d st=>obtain⟨i,h1,rfl⟩:=Zc k;rfl
 |row v s st e d=>obtain⟨i,h1,rfl⟩:=Zc k;rfl
 |rowM t np v st e pre d post=>obtain⟨i,h1,rfl⟩:=Zc k;rfl
 |_=>cases k;rfl
theorem ZAg{f:Nat->yO Nat}:∀{ds es:yL TEnt},TEnt.rns f ds=some es->es.length=ds.length/\∀(j:Nat),lkE (es[j]?)=lkE (ds[j]?)
 |[],es,e=>by cases e;exact⟨rfl,λ_=>rfl⟩
 |x::r,es,e=>by
  simp only[TEnt.rns] at e;split at e
  ·rename_i y ys h1 h2;cases e;obtain⟨g1,g2⟩:=ZAg h2;refine⟨by simp[g1],λj=> ?_⟩
   cases j with
   |zero=>exact ZHc h1
   |succ j=>exact g2 j
  ·cases e
def XY(H:yL TEnt)(all:yL Nat):yL Nat->yO (yL TEnt)
 |[]=>some []
 |id::r=>match (H[id]?).bind (TEnt.rn (toIds all)),XY H all r with
  |some e,some es=>some (e::es)
  |_,_=>none
theorem Zdz{H:yL TEnt}{all:yL Nat}:∀{ids:yL Nat}{Hin:yL TEnt},XY H all ids=some Hin->Hin.length=ids.length/\∀(j id:Nat),ids[j]? =some id->id < H.length/\lkE (Hin[j]?)=lkE (H[id]?)
 |[],Hin,h=>by cases h;exact⟨rfl,λj id e=>by simp at e⟩
 |i::r,Hin,h=>by
  simp only[XY] at h;split at h
  ·rename_i e es h1 h2;cases h;obtain⟨g1,g2⟩:=Zdz h2;obtain⟨e0,h3,h4⟩:=yf.1 h1;refine⟨by simp[g1],λj id hj=> ?_⟩
   cases j with
   |zero=>
    cases hj
    exact⟨(yq.1 h3).1,by rw[h3];exact ZHc h4⟩
   |succ j=>exact g2 j id hj
  ·cases h
theorem XO{H:yL TEnt}{all:yL Nat}{M:Lk}(h:Rc (toIds all) (lk H) M):∀{ids:yL Nat}{Hin:yL TEnt},XY H all ids=some Hin->subEnts (erH H) all ids=some (Hin.map (TEnt.er M))
 |[],Hin,e=>by cases e;rfl
 |i::r,Hin,e=>by
  simp only[XY] at e;split at e
  ·rename_i e0 es h1 h2;cases e;obtain⟨e1,h3,h4⟩:=yf.1 h1;simp only[subEnts,Z6 h3,ya,ZHb h h4,XO h h2,yad]
  ·cases e
mutual
def TD.lay(L:Lk)(S:yL Nat):TD->TD
 |.own id nn t c=>if S.contains id then .own id nn t (some (ZZ L id t c)) else .own id nn t c
 |.agg xs=>.agg (TD.lays L S xs)
 |.arr m s xs=>.arr m s (TD.lays L S xs)
 |.fn f xs=>.fn f (TD.lays L S xs)
 |.iface t x=>.iface t (TD.lay L S x)
 |.tup xs=>.tup (TD.lays L S xs)
 |.p x=>.p x
 |.elem x=>.elem x
 |.ref id yQ=>.ref id yQ
 |.view id yQ s lo n=>.view id yQ s lo n
 |.mp id=>.mp id
 |.rv id v s lo n=>.rv id v s lo n
 |.rref id v yQ=>.rref id v yQ
 |.rw id=>if S.contains id then .rv id (Zbb L id 0) (Zbb L id 1) 0 (Zbb L id 2) else .rw id
 |.rp id yQ=>if S.contains id then .rref id (Zbb L id 0) yQ else .rp id yQ
 |.junk=>.junk
def TD.lays(L:Lk)(S:yL Nat):yL TD->yL TD
 |[]=>[]
 |x::r=>TD.lay L S x::TD.lays L S r
end
mutual
def TD.under(n:Nat):TD->Bool
 |.own id _ _ c=>c.isSome || decide (id < n)
 |.rw id=>decide (id < n)
 |.rp id _=>decide (id < n)
 |.agg xs=>TD.unders n xs
 |.arr _ _ xs=>TD.unders n xs
 |.fn _ xs=>TD.unders n xs
 |.iface _ x=>TD.under n x
 |.tup xs=>TD.unders n xs
 |_=>true
def TD.unders(n:Nat):yL TD->Bool
 |[]=>true
 |x::r=>TD.under n x&&TD.unders n r
end
def TEnt.lay(L:Lk)(S:yL Nat):TEnt->TEnt
 |.var d st=>.var (d.lay L S) st
 |.row v s st e d=>.row v s st e (d.lay L S)
 |.rowM t np v st e pre d post=>.rowM t np v st e pre (d.lay L S) post
 |e=>e
def TEnt.under(n:Nat):TEnt->Bool
 |.var d _=>d.under n
 |.row _ _ _ _ d=>d.under n
 |.rowM _ _ _ _ _ _ d _=>d.under n
 |_=>true
def Lo(S:yL Nat)(n:Nat)(L M:Lk):Prop:=∀id t,S.contains id=false->id < n->ZZ L id t none=ZZ M id t none
mutual
theorem Zs2{L M:Lk}{S:yL Nat}{n:Nat}(h:Lo S n L M):∀(d:TD),d.under n=true->(d.lay L S).er M=d.er L
 |.p _,_=>rfl
 |.elem _,_=>rfl
 |.ref _ _,_=>rfl
 |.own id nn t c,hf=>by
  rw[TD.lay];split
  ·rfl
  ·rename_i hn
   cases c with
   |none=>
    have:id < n:=by simpa[TD.under] using hf
    rw[TD.er,TD.er,h id t (by simpa using hn) this]
   |some _=>rfl
 |.view _ _ _ _ _,_=>rfl
 |.agg xs,hf=>by rw[TD.lay,TD.er,TD.er,ers_lay h xs hf]
 |.arr _ _ xs,hf=>by rw[TD.lay,TD.er,TD.er,ers_lay h xs hf]
 |.fn _ xs,hf=>by rw[TD.lay,TD.er,TD.er,ers_lay h xs hf]
 |.iface _ x,hf=>by rw[TD.lay,TD.er,TD.er,Zs2 h x hf]
 |.tup xs,hf=>by rw[TD.lay,TD.er,TD.er,ers_lay h xs hf]
 |.mp _,_=>rfl
 |.rv _ _ _ _ _,_=>rfl
 |.rref _ _ _,_=>rfl
 |.rw id,hf=>by
  rw[TD.lay];split
  ·rfl
  ·rename_i hn;have:id < n:=by simpa[TD.under] using hf
   simp only[TD.er,Zbb,h id _ (by simpa using hn) this]
 |.rp id _,hf=>by
  rw[TD.lay];split
  ·rfl
  ·rename_i hn;have:id < n:=by simpa[TD.under] using hf
   simp only[TD.er,Zbb,h id _ (by simpa using hn) this]
 |.junk,_=>rfl
theorem ers_lay{L M:Lk}{S:yL Nat}{n:Nat}(h:Lo S n L M):∀(ds:yL TD),TD.unders n ds=true->TD.ers M (TD.lays L S ds)=TD.ers L ds
 |[],_=>rfl
 |x::r,hf=>by
  simp only[TD.unders,yj] at hf;rw[TD.lays,TD.ers,TD.ers,Zs2 h x hf.1,ers_lay h r hf.2]
end
theorem ZAh{L:Lk}{S:yL Nat}:∀(l:yL TD),(TD.lays L S l).length=l.length
 |[]=>rfl
 |_::r=>by rw[TD.lays,yah,yah,ZAh r]
theorem ZJO{L M:Lk}{S:yL Nat}{n:Nat}(h:Lo S n L M){e:TEnt}(hf:e.under n=true):(e.lay L S).er M=e.er L:=by
 cases e with
 |var d st=>rw[TEnt.lay,TEnt.er,TEnt.er,Zs2 h d hf]
 |row v s st e d=>rw[TEnt.lay,TEnt.er,TEnt.er,Zs2 h d hf]
 |rowM t np v st e pre d post=>rw[TEnt.lay,TEnt.er,TEnt.er,Zs2 h d hf]
 |_=>rfl
theorem ZJP{L:Lk}{S:yL Nat}(e:yO TEnt):lkE (e.map (TEnt.lay L S))=lkE e:=by
 cases e with
 |none=>rfl
 |some e=>cases e <;> rfl
theorem ZqH{α β:Type}(f:α->β):∀(ids:yL Nat)(A B:yL α),(putBack A ids B).map f=putBack (A.map f) ids (B.map f)
 |[],A,B=>by simp[putBack]
 |id::r,A,[]=>by simp[putBack]
 |id::r,A,b::B=>by simp only[putBack,yad];rw[ZqH f r,ybn]
def TD.argI(L:Lk)(ids:yL Nat):TD->TD
 |.own id nn t c=>if ids.contains id then .own id nn t c else .p (.sl nn t (ZZ L id t c))
 |.agg ds=>if TD.ownss ids ds then .agg ds else TD.melt L ds
 |d=>d
theorem Zx5{L:Lk}{ids:yL Nat}(d:TD):(d.argI L ids).er L=Dv.argI ids (d.er L):=by
 cases d with
 |own id nn t c=>
  rw[TD.argI,TD.er,Dv.argI]
  split <;> rfl
 |p _=>rfl
 |elem _=>rfl
 |ref _ _=>rfl
 |view _ _ _ _ _=>rfl
 |agg ds=>
  rw[TD.argI,TD.er,Dv.argI,ownss_er];split
  ·rw[TD.er]
  ·exact ZDK _
 |arr _ _ _=>rfl
 |fn _ _=>rfl
 |iface _ _=>rfl
 |tup _=>rfl
 |mp _=>rfl
 |rv _ _ _ _ _=>rfl
 |rref _ _ _=>rfl
 |rw _=>rfl
 |rp _ _=>rfl
 |junk=>rfl
def Zs3(P:yg)(ts:yL TD):yL yn->yL yc->yO (yL TD)
 |[],_=>some []
 |_,[]=>some []
 |x::r,t::q=>match arT P ts t x,Zs3 P ts r q with
  |some a,some b=>some (a::b)
  |_,_=>none
theorem Zn8{P:yg}{ts:yL TD}{L:Lk}(ids:yL Nat):∀{l:yL yn}{ty:yL yc}{ds:yL TD},Zs3 P ts l ty=some ds->
 ((l.zip ty).map λq=>(Zq P (TD.ers L ts) q.2 q.1).argI ids)=TD.ers L (ds.map (TD.argI L ids))
 |[],ty,ds,h=>by cases h;rfl
 |x::r,[],ds,h=>by cases h;rfl
 |x::r,t::q,ds,h=>by
  simp only[Zs3] at h;split at h
  ·rename_i a b h1 h2;cases h;simp only[List.zip_cons_cons,yad,TD.ers,Zo (L:=L) h1,Zx5,Zn8 ids h2]
  ·cases h
theorem ZDZ{L:Lk}(ids:yL Nat)(ds:yL TD):(TD.ers L ds).map (Dv.argI ids)=TD.ers L (ds.map (TD.argI L ids)):=by
 rw[ZE,ZE,yav,yav];exact ycn λx _=>(Zx5 x).symm
structure Fs(P:yg)where
 g:yw
 ps:List Sh
 es:List ESh
 ins:List Ty
 xs:List XSh
 M:Ty.dens ins->Option (XSh.sum xs)
def Fs.Ok{P:yg}(s:Fs P):Prop:=
 ∀x o,s.M x=some o->∃args R H,Sh.fills s.ps (ofD s.ins x)=some (args,R)/\ESh.fills s.es R=some (H,[])/\
  ∀e vs s',ZAf s.xs o e vs->Qv 1 e.sl e.es vs=some s'->∃r,s'.1=[r]/\Con P s.g (TD.ers (lk H) args) (erH H) (r.er (lk s'.2)) (erH s'.2)
def AllOk{P:yg}:yL (Fs P)->Prop
 |[]=>True
 |s::r=>s.Ok/\AllOk r
mutual
def Sh.ids:Sh->TD->yL (Nat×Nat)
 |.own j _,d=>match d with
  |.own id _ _ none=>[(j,id)]
  |_=>[]
 |.ref j _,d=>match d with
  |.ref id _=>[(j,id)]
  |_=>[]
 |.mp j,d=>match d with
  |.mp id=>[(j,id)]
  |_=>[]
 |.rw j,d=>match d with
  |.rw id=>[(j,id)]
  |_=>[]
 |.rp j _ _,d=>match d with
  |.rp id _=>[(j,id)]
  |_=>[]
 |.view j _ _ _ _,d=>match d with
  |.view id _ _ _ _=>[(j,id)]
  |_=>[]
 |.fn _ l,d=>match d with
  |.fn _ ds=>Sh.idsL l ds
  |_=>[]
 |.agg l,d=>match d with
  |.agg ds=>Sh.idsL l ds
  |_=>[]
 |.arr _ _ l,d=>match d with
  |.arr _ _ ds=>Sh.idsL l ds
  |_=>[]
 |.tup l,d=>match d with
  |.tup ds=>Sh.idsL l ds
  |_=>[]
 |.iface _ x,d=>match d with
  |.iface _ y=>Sh.ids x y
  |_=>[]
 |_,_=>[]
def Sh.idsL:yL Sh->yL TD->yL (Nat×Nat)
 |[],_=>[]
 |s::r,ds=>match ds with
  |d::q=>Sh.ids s d++Sh.idsL r q
  |[]=>[]
end
def ZLW(H:yL TEnt):yL ESh->Nat->yL (Nat×Nat)->yL (Nat×Nat)
 |[],_,l=>l
 |e::r,j,l=>ZLW H r (j+1) (match e,(l.lookup j).bind λid=>ZqE H id with
  |.var s _,some d=>l++Sh.ids s d
  |_,_=>l)
def ZHd(H:yL TEnt):yO Nat:=(yr H.length).reverse.find? λi=>match H[i]? with
 |some .gone=>true
 |_=>false
def ZK1(H:yL TEnt)(ps:yL Sh)(es:yL ESh)(ds:yL TD):yO (yL Nat):=
 match ps,es with
 |[],[.gone]=>(ZHd H).map λi=>[i]
 |_,_=>
  let l:=ZLW H es 0 (Sh.idsL ps ds)
  (yr es.length).mapM λj=>l.lookup j
def Zx6{P:yg}(s:Fs P)(H:yL TEnt)(args:yL TD)(ids:yL Nat):yO (Ty.dens s.ins):=
 if once ids then(TD.rns (toIds ids) (args.map (TD.argI (lk H) ids))).bind λa2=>(XY H ids ids).bind λHin=>
  (Sh.mts (lk Hin) s.ps a2).bind λq=>(ESh.mts (lk Hin) s.es Hin).bind λw=>toD s.ins (q.2++w.2)
 else none
theorem QF{H Hin:yL TEnt}{ids:yL Nat}(h:XY H ids ids=some Hin):Rc (toIds ids) (lk H) (lk Hin):=by
 intro id j t e;obtain⟨g1,g2⟩:=Zdz h;have hj:=idxOf?_some e;have:=(g2 j id hj).2;unfold ZZ lk;dsimp only;rw[this]
theorem ZJQ{P:yg}{s:Fs P}{H:yL TEnt}{args:yL TD}{ids:yL Nat}{x:Ty.dens s.ins}(h:Zx6 s H args ids=some x):
 once ids=true/\∃Hin a2 a3 H3 R,XY H ids ids=some Hin/\subEnts (erH H) ids ids=some (erH Hin)/\Dv.rns (toIds ids) (TD.ers (lk H) (args.map (TD.argI (lk H) ids)))=some (TD.ers (lk Hin) a2)/\
  Sh.fills s.ps (ofD s.ins x)=some (a3,R)/\ESh.fills s.es R=some (H3,[])/\WkL (TD.ers (lk Hin) a2) (TD.ers (lk H3) a3)/\WkH (erH Hin) (erH H3):=by
 unfold Zx6 at h;split at h
 ·rename_i ho;obtain⟨a2,h1,h⟩:=yf.1 h;obtain⟨Hin,h2,h⟩:=yf.1 h;obtain⟨q,h3,h⟩:=yf.1 h;obtain⟨w,h4,h⟩:=yf.1 h;obtain⟨g1,g2⟩:=ZgP h4;have e:=ZbZ _ _ _ h;have hc:∀id t,ZZ (lk Hin) id t none=ZZ (lk w.1) id t none:=λid t=>by rw[g2]
  refine⟨ho,Hin,a2,q.1,w.1,w.2,h2,XO (QF h2) h2,rns_er (QF h2) _ _ h1, ?_, ?_,mts_wk hc _ _ _ h3,Zlg hc h4⟩
  ·rw[e];exact mts_fills _ _ _ h3 _
  ·have:=Q2 h4 []
   rwa [yar] at this
 ·cases h
section
variable{P:yg}{o:Oper}{ts all:yL TD}{H:yL TEnt}{O:Type}{K:Kn O}{out:O}
def ZJR(all:yL TD)(H:yL TEnt)(K:Kn O)(ids:yL Nat)(r:TD)(Hn:yL TEnt):yO O:=
 if(ids.isEmpty&&Hn.isEmpty)=true then(r.rn λ_=>none).bind λr'=>K all r' H [.call (r.er (lk [])) [] []] 0 else
 (r.rn (fromIds ids H.length)).bind λr'=>(TEnt.rns (fromIds ids H.length) Hn).bind λHb=>
   if(decide (ids.length<=Hn.length)&&TD.unders H.length all&&H.all (TEnt.under H.length))=true then
    K (TD.lays (lk H) ids all) r' (putBack (H.map (TEnt.lay (lk H) ids)) ids Hb) [.call (r.er (lk Hn)) (erH Hn) ids] 2
   else none
def Zs4(s:Fs P)(all:yL TD)(H:yL TEnt)(K:Kn O)(args:yL TD)(ids:yL Nat)(x:Ty.dens s.ins):yO O:=
 (s.M x).bind λy=>xT 1 s.xs y λ_ rs Hn=>match rs with
   |[r]=>ZJR all H K ids r Hn
   |_=>none
def ZAi(g:yw)(all:yL TD)(H:yL TEnt)(K:Kn O)(args:yL TD)(yS:yO O):yL (Fs P)->yO O
 |[]=>yS
 |s::yK=>if s.g=g then match (ZK1 H s.ps s.es args).bind λids=>(Zx6 s H args ids).map λx=>(ids,x) with
   |some q=>Zs4 s all H K args q.1 q.2
   |none=>ZAi g all H K args yS yK
  else ZAi g all H K args yS yK
mutual
def Sh.exD:Sh->TD->Bool
 |.v t,d=>match d with
  |.p (.v u _)=>match Ty.dec u t with
   |isTrue _=>true
   |isFalse _=>false
  |_=>false
 |.own _ _,d=>match d with
  |.own _ none _ none=>true
  |_=>false
 |.ref _ _,d=>match d with
  |.ref _ _=>true
  |_=>false
 |.mp _,d=>match d with
  |.mp _=>true
  |_=>false
 |.rw _,d=>match d with
  |.rw _=>true
  |_=>false
 |.agg l,d=>match d with
  |.agg ds=>Sh.exDs l ds
  |_=>false
 |.arr _ _ l,d=>match d with
  |.arr _ _ ds=>Sh.exDs l ds
  |_=>false
 |.ptr0,_=>true
 |.fn0,_=>true
 |.if0,_=>true
 |.map0,_=>true
 |_,_=>false
def Sh.exDs:yL Sh->yL TD->Bool
 |[],[]=>true
 |s::r,d::q=>Sh.exD s d&&Sh.exDs r q
 |_,_=>false
end
theorem ZN4{L:Lk}{t:Ty}{d:TD}{q:TD×yL TV}(h:Sh.exD (.v t) d=true)(k:Sh.mt L (.v t) d=some q):q.1=d:=by
 unfold Sh.exD at h;split at h
 ·rename_i u y;split at h
  ·rename_i e _;subst e;unfold Sh.mt TD.toT TP.to at k;dsimp only at k;rw[YV,yz] at k;cases k;rfl
  ·cases h
 ·cases h
theorem ZLX{L:Lk}{j:Nat}{t:Ty}{d:TD}{q:TD×yL TV}(h:Sh.exD (.own j t) d=true)(k:Sh.mt L (.own j t) d=some q):q.1=d:=by
 unfold Sh.exD at h;split at h
 ·unfold Sh.mt at k;dsimp only at k;split at k
  ·rename_i e;obtain⟨rfl,rfl⟩:=e;cases k;rfl
  ·cases k
 ·cases h
theorem ZLY{L:Lk}{j:Nat}{p:yL Stp}{d:TD}{q:TD×yL TV}(h:Sh.exD (.ref j p) d=true)(k:Sh.mt L (.ref j p) d=some q):q.1=d:=by
 unfold Sh.exD at h;split at h
 ·unfold Sh.mt at k;dsimp only at k;split at k
  ·rename_i e;obtain⟨rfl,e2⟩:=e;have:=Zen e2;subst this;cases k;rfl
  ·cases k
 ·cases h
theorem ZNi{L:Lk}{j:Nat}{d:TD}{q:TD×yL TV}(h:Sh.exD (.mp j) d=true)(k:Sh.mt L (.mp j) d=some q):q.1=d:=by
 unfold Sh.exD at h;split at h
 ·unfold Sh.mt at k;dsimp only at k;split at k
  ·rename_i e;subst e;cases k;rfl
  ·cases k
 ·cases h
theorem ZNj{L:Lk}{j:Nat}{d:TD}{q:TD×yL TV}(h:Sh.exD (.rw j) d=true)(k:Sh.mt L (.rw j) d=some q):q.1=d:=by
 unfold Sh.exD at h;split at h
 ·unfold Sh.mt at k;dsimp only at k;split at k
  ·rename_i e;subst e;cases k;rfl
  ·cases k
 ·cases h
mutual
theorem ZK2{L:Lk}:∀(s:Sh)(d:TD)(q:TD×yL TV),Sh.exD s d=true->Sh.mt L s d=some q->q.1=d
 |.v t,d,q,h,k=>ZN4 h k
 |.own j t,d,q,h,k=>ZLX h k
 |.ref j p,d,q,h,k=>ZLY h k
 |.mp j,d,q,h,k=>ZNi h k
 |.rw j,d,q,h,k=>ZNj h k
 |.agg l,.agg ds,q,h,k=>by
  have k:(Sh.mts L l ds).map (λq=>(TD.agg q.1,q.2))=some q:=by unfold Sh.mt at k;exact k
  have h:Sh.exDs l ds=true:=by unfold Sh.exD at h;exact h
  obtain⟨w,k1,k2⟩:=Zc k;rw[<-k2]
  exact congrArg TD.agg (exs_mts l ds w h k1)
 |.arr n s l,.arr m s2 ds,q,h,k=>by
  have k:(if m=n/\s2=s then(Sh.mts L l ds).map (λq=>(TD.arr n s q.1,q.2)) else none)=some q:=by unfold Sh.mt at k;exact k
  have h:Sh.exDs l ds=true:=by unfold Sh.exD at h;exact h
  split at k
  ·rename_i e;obtain⟨w,k1,k2⟩:=Zc k;rw[<-k2,e.1,e.2];exact congrArg (TD.arr n s) (exs_mts l ds w h k1)
  ·cases k
 |.ptr0,d,q,h,k=>by
  unfold Sh.mt at k
  split at k <;> first|(cases k;rfl)|cases k
 |.fn0,d,q,h,k=>by
  unfold Sh.mt at k
  split at k <;> first|(cases k;rfl)|cases k
 |.if0,d,q,h,k=>by
  unfold Sh.mt at k
  split at k <;> first|(cases k;rfl)|cases k
 |.map0,d,q,h,k=>by
  unfold Sh.mt at k;split at k <;> first|(cases k;rfl)|cases k
theorem exs_mts{L:Lk}:∀(l:yL Sh)(ds:yL TD)(q:yL TD×yL TV),Sh.exDs l ds=true->Sh.mts L l ds=some q->q.1=ds
 |[],[],q,_,k=>by
  simp only[Sh.mts] at k;cases k
  rfl
 |[],_::_,_,h,_=>by cases h
 |_::_,[],_,h,_=>by cases h
 |s::r,d::ds,q,h,k=>by
  simp only[Sh.exDs,yj] at h;simp only[Sh.mts] at k;split at k
  ·rename_i a b k1 k2;cases k;rw[ZK2 s d a h.1 k1,exs_mts r ds b h.2 k2]
  ·cases k
end
def ESh.exE:ESh->TEnt->Bool
 |.var s st,.var d st'=>(st==st')&&s.exD d
 |.log t _,.log u _ _=>match Ty.dec u t with
  |isTrue _=>true
  |isFalse _=>false
 |.gone,.gone=>true
 |_,_=>false
theorem ZLZ{L:Lk}{s:ESh}{d:TEnt}{q:TEnt×yL TV}(h:s.exE d=true)(k:s.mt L d=some q):q.1=d:=by
 unfold ESh.exE at h;split at h
 ·simp only[yj,yT] at h;obtain⟨rfl,h⟩:=h;simp only[ESh.mt] at k;split at k
  ·obtain⟨w,k1,rfl⟩:=Zc k;show TEnt.var w.1 _=_;rw[ZK2 _ _ w h k1]
  ·cases k
 ·split at h
  ·rename_i e _;subst e;simp only[ESh.mt] at k;split at k
   ·rename_i e;subst e;obtain⟨w,k1,rfl⟩:=Zc k;obtain⟨e1,e2⟩:=Zx k1;cases e1;subst e2;rfl
   ·cases k
  ·cases h
 ·simp only[ESh.mt] at k;cases k;rfl
 ·cases h
def ESh.exs:yL ESh->yL TEnt->Bool
 |[],[]=>true
 |s::r,d::q=>s.exE d&&ESh.exs r q
 |_,_=>false
theorem ZAj{L:Lk}:∀{l:yL ESh}{ds:yL TEnt}{q:yL TEnt×yL TV},ESh.exs l ds=true->ESh.mts L l ds=some q->q.1=ds
 |[],[],q,_,k=>by
  simp only[ESh.mts] at k;cases k
  rfl
 |[],_::_,_,h,_=>by cases h
 |_::_,[],_,h,_=>by cases h
 |s::r,d::ds,q,h,k=>by
  simp only[ESh.exs,yj] at h;simp only[ESh.mts] at k;split at k
  ·rename_i a b k1 k2;cases k;rw[ZLZ h.1 k1,ZAj h.2 k2]
  ·cases k
structure Rs(P:yg)where
 g:yw
 ps:List Sh
 es:List ESh
 ins:List Ty
 r:Sh
 t:List Ty
 M:Ty.dens ins->Option (Ty.dens t)
def Rs.Ok{P:yg}(s:Rs P):Prop:=
 ∀x o,s.M x=some o->∃args R H,Sh.fills s.ps (ofD s.ins x)=some (args,R)/\ESh.fills s.es R=some (H,[])/\
  ∀q,Sh.fill s.r (ofD s.t o)=some q->Con P s.g (TD.ers (lk H) args) (erH H) (q.1.er (lk H)) (erH H)
def AllRo{P:yg}:yL (Rs P)->Prop
 |[]=>True
 |s::r=>s.Ok/\AllRo r
mutual
theorem Zr1{f g:Nat->yO Nat}(hfg:∀i j,f i=some j->g j=some i):∀(d d':Dv),d.rn f=some d'->d'.rn g=some d
 |.p x,d',h=>by cases h;rfl
 |.elem x,d',h=>by cases h;rfl
 |.ref id o p,d',h=>by
  simp only[Dv.rn,yp] at h;obtain⟨i,h1,rfl⟩:=h
  simp only[Dv.rn,hfg _ _ h1,yz]
 |.own id nn s xs,d',h=>by
  simp only[Dv.rn,yp] at h;obtain⟨i,h1,rfl⟩:=h
  simp only[Dv.rn,hfg _ _ h1,yz]
 |.view id o p s lo n,d',h=>by
  simp only[Dv.rn,yp] at h;obtain⟨i,h1,rfl⟩:=h
  simp only[Dv.rn,hfg _ _ h1,yz]
 |.agg xs,d',h=>by
  simp only[Dv.rn,yp] at h;obtain⟨i,h1,rfl⟩:=h
  simp only[Dv.rn,rns_back hfg _ _ h1,yz]
 |.arr n s xs,d',h=>by
  simp only[Dv.rn,yp] at h;obtain⟨i,h1,rfl⟩:=h
  simp only[Dv.rn,rns_back hfg _ _ h1,yz]
 |.fn k xs,d',h=>by
  simp only[Dv.rn,yp] at h;obtain⟨i,h1,rfl⟩:=h
  simp only[Dv.rn,rns_back hfg _ _ h1,yz]
 |.iface t x,d',h=>by
  simp only[Dv.rn,yp] at h;obtain⟨i,h1,rfl⟩:=h
  simp only[Dv.rn,Zr1 hfg _ _ h1,yz]
 |.tup xs,d',h=>by
  simp only[Dv.rn,yp] at h;obtain⟨i,h1,rfl⟩:=h
  simp only[Dv.rn,rns_back hfg _ _ h1,yz]
 |.mp id,d',h=>by
  simp only[Dv.rn,yp] at h;obtain⟨i,h1,rfl⟩:=h
  simp only[Dv.rn,hfg _ _ h1,yz]
 |.rv id v s lo n,d',h=>by
  simp only[Dv.rn,yp] at h;obtain⟨i,h1,rfl⟩:=h
  simp only[Dv.rn,hfg _ _ h1,yz]
 |.rref id v o p,d',h=>by
  simp only[Dv.rn,yp] at h;obtain⟨i,h1,rfl⟩:=h
  simp only[Dv.rn,hfg _ _ h1,yz]
 |.junk,d',h=>by cases h;rfl
theorem rns_back{f g:Nat->yO Nat}(hfg:∀i j,f i=some j->g j=some i):∀(d d':yL Dv),Dv.rns f d=some d'->Dv.rns g d'=some d
 |[],d',h=>by cases h;rfl
 |x::r,d',h=>by
  simp only[Dv.rns] at h;split at h
  ·rename_i y ys h1 h2;cases h;simp only[Dv.rns,Zr1 hfg x y h1,rns_back hfg r ys h2]
  ·cases h
end
theorem ZHe{f g:Nat->yO Nat}(hfg:∀i j,f i=some j->g j=some i){e e':Ent}(h:e.rn f=some e'):e'.rn g=some e:=by
 cases e with
 |var d st=>
  simp only[Ent.rn,yp] at h;obtain⟨y,h1,rfl⟩:=h
  simp only[Ent.rn,Zr1 hfg _ _ h1,yz]
 |row v s st t d=>
  simp only[Ent.rn,yp] at h;obtain⟨y,h1,rfl⟩:=h
  simp only[Ent.rn,Zr1 hfg _ _ h1,yz]
 |log _ _ _=>cases h;rfl
 |map _ _=>cases h;rfl
 |gone=>cases h;rfl
theorem ZHf{H:yL Ent}{ids:yL Nat}{Hin:yL Ent}(ho:once ids=true)(h:subEnts H ids ids=some Hin):∃Hb,Ent.rns (fromIds ids H.length) Hin=some Hb/\putBack H ids Hb=H:=by
 have hfg:∀i j,toIds ids i=some j->fromIds ids H.length j=some i:=by
  intro i j e;have hj:=idxOf?_some e;unfold fromIds;rw[yW (yq.1 hj).1,hj]
 have key:∀(l:yL Nat)(A:yL Ent),subEnts H ids l=some A->∃B,Ent.rns (fromIds ids H.length) A=some B/\B.length=l.length/\∀(j id:Nat),l[j]? =some id->B[j]? =H[id]? /\id < H.length:=by
  intro l
  induction l with
  |nil=>
   intro A hA;simp only[subEnts,Option.some.injEq] at hA;subst hA
   exact⟨[],rfl,rfl,λj id hj=>by simp at hj⟩
  |cons x r ih=>
   intro A hA;simp only[subEnts] at hA;split at hA
   ·rename_i e es h1 h2;cases hA;obtain⟨B,b1,b2,b3⟩:=ih es h2;obtain⟨e0,g1,g2⟩:=yf.1 h1;refine⟨e0::B, ?_,by simp[b2],λj id hj=> ?_⟩
    ·simp only[Ent.rns,ZHe hfg g2,b1]
    ·cases j with
     |zero=>
      simp only[ybd,Option.some.injEq] at hj;subst hj
      exact⟨by rw[ybd,g1],(yq.1 g1).1⟩
     |succ j=>exact b3 j id (by simpa using hj)
   ·cases hA
 obtain⟨Hb,b1,b2,b3⟩:=key ids Hin h
 have hlt:∀i,i∈ids->i < H.length:=λi hi=>by
  obtain⟨j,hj⟩:=List.getElem?_of_mem hi;exact(b3 j i hj).2
 refine⟨Hb,b1, ?_⟩;have hle:ids.length<=Hb.length:=by omega
 apply List.ext_getElem?;intro i;have zW:(putBack H ids Hb).length=H.length:=by rw[Zar _ _ _ hle];omega
 by_cases hi:i < H.length
 ·by_cases hm:i∈ids
  ·obtain⟨j,hj⟩:=List.getElem?_of_mem hm;rw[Zed H ids Hb j i ho hle hlt hj,(b3 j i hj).1]
  ·exact VG H ids Hb i hle hi hm
 ·rw[yan (by omega),yan (by omega)]
structure Sp(P:yg)where
 l:List (Fs P):=[]
 hd:(O:Type)->yw->List TD->List TEnt->(TD->List TEnt->Option O)->Option O:=λ_ _ _ _ _=>none
 mt:List (yc×String×yw):=[]
 ro:List (Rs P):=[]
def HdOk(P:yg)(hd:(O:Type)->yw->yL TD->yL TEnt->(TD->yL TEnt->yO O)->yO O):Prop:=
 ∀(O:Type)(g:yw)(args:yL TD)(H:yL TEnt)(K:TD->yL TEnt->yO O)(out:O),hd O g args H K=some out->
  ∃r H',K r H'=some out/\Con P g (TD.ers (lk H) args) (erH H) (r.er (lk H')) (erH H')
def MtOk(P:yg):yL (yc×String×yw)->Prop
 |[]=>True
 |q::r=>ZEP P q.1 q.2.1 q.2.2/\MtOk P r
def ZHg:yL (yc×String×yw)->yc->String->yO yw
 |[],_,_=>none
 |q::r,t,n=>if q.1=t then if q.2.1=n then some q.2.2 else ZHg r t n else ZHg r t n
theorem Zx7:∀{l:yL (yc×String×yw)}{t:yc}{n:String}{g:yw},MtOk P l->ZHg l t n=some g->ZEP P t n g
 |[],_,_,_,_,h=>by cases h
 |q::r,t,n,g,hk,h=>by
  unfold ZHg at h;split at h
  ·rename_i e1;split at h
   ·rename_i e2;cases h;rw[<-e1, <-e2];exact hk.1
   ·exact Zx7 hk.2 h
  ·exact Zx7 hk.2 h
structure SpOk(s:Sp P):Prop where
 l:AllOk s.l
 hd:HdOk P s.hd
 mt:MtOk P s.mt
 ro:AllRo s.ro
theorem ZJS:HdOk P (λ_ _ _ _ _=>none):=λ_ _ _ _ _ _ h=>by cases h
theorem okS{l:yL (Fs P)}(h:AllOk l):SpOk ({ l:=l}:Sp P):=⟨h,ZJS,zP,ytt⟩
mutual
def TD.look:TD->yL Nat
 |.ref id _=>[id]
 |.own id _ _ _=>[id]
 |.view id _ _ _ _=>[id]
 |.mp id=>[id]
 |.rv id _ _ _ _=>[id]
 |.rref id _ _=>[id]
 |.rw id=>[id]
 |.rp id _=>[id]
 |.agg xs=>TD.looks xs
 |.arr _ _ xs=>TD.looks xs
 |.fn _ xs=>TD.looks xs
 |.iface _ x=>TD.look x
 |.tup xs=>TD.looks xs
 |_=>[]
def TD.looks:yL TD->yL Nat
 |[]=>[]
 |x::r=>TD.look x++TD.looks r
end
def TEnt.look:TEnt->yL Nat
 |.var d _=>d.look
 |.row _ _ _ _ d=>d.look
 |.rowM _ _ _ _ _ _ d _=>d.look
 |_=>[]
def ZqI(h:yL TEnt):Nat->yL Nat->yL Nat->yL Nat
 |0,_,got=>got
 |_+1,[],got=>got
 |k+1,id::r,got=>if got.contains id then ZqI h k r got else ZqI h k (((h[id]?).map TEnt.look).getD []++r) (id::got)
def inT(sp:Sp P)(g:yw)(all:yL TD)(H:yL TEnt)(K:Kn O)(args:yL TD):yO O:=
 let ids:=ZqI H 100000 (TD.looks args) []
 if once ids then(TD.rns (toIds ids) (args.map (TD.argI (lk H) ids))).bind λa2=>(XY H ids ids).bind λHin=>
  sp.hd O g a2 Hin λr Hn=>ZJR all H K ids r Hn
 else none
def ZD0(g:yw)(all:yL TD)(H:yL TEnt)(K:Kn O)(args:yL TD)(yS:yO O):yL (Rs P)->yO O
 |[]=>yS
 |s::yK=>if s.g=g then(ZK1 H s.ps s.es args).bind λids=>(XY H ids ids).bind λHin=>if(once ids&& !ids.isEmpty&&ESh.exs s.es Hin)=true then
   (TD.rns (toIds ids) (args.map (TD.argI (lk H) ids))).bind λa2=>(Sh.mts (lk Hin) s.ps a2).bind λq=>(ESh.mts (lk Hin) s.es Hin).bind λw=>(toD s.ins (q.2++w.2)).bind λx=>
     (s.M x).bind λy=>(Sh.fill s.r (ofD s.t y)).bind λq=>(q.1.rn λ_=>none).bind λr'=>K all r' H [.call (q.1.er (lk Hin)) (erH Hin) ids] 3
   else none
  else ZD0 g all H K args yS yK
def ZHh(sp:Sp P)(g:yw)(all:yL TD)(H:yL TEnt)(K:Kn O)(args:yL TD):yO O:=ZD0 g all H K args (ZAi g all H K args (inT sp g all H K args) sp.l) sp.ro
structure CallOk(P:yg)(g:yw)(all args:List TD)(H:List TEnt)(a':List TD)(d:TD)(H':List TEnt)(hs:List Hint)(cls:Nat):Prop where
 same:TD.ers (lk H') a'=TD.ers (lk H) all
 len:a'.length=all.length
 op:∃(ids:List Nat)(Hin Hn Hb:List Ent)(az:List Dv)(r:Dv),once ids=true/\ids.length<=Hn.length/\subEnts (erH H) ids ids=some Hin/\
  Dv.rns (toIds ids) (TD.ers (lk H) (args.map (TD.argI (lk H) ids)))=some az/\Con P g az Hin r Hn/\r.rn (fromIds ids H.length)=some (d.er (lk H'))/\Ent.rns (fromIds ids H.length) Hn=some Hb/\
  erH H'=putBack (erH H) ids Hb/\hs=[.call r Hn ids]/\(cls=2/\¬(ids=[]/\Hn=[])\/(cls=3/\erH H'=erH H/\¬(ids=[]/\Hn=[]))\/cls=0/\ids=[]/\Hn=[]/\H'=H/\a'=all/\r=d.er (lk H')/\r.rn (λ_=>none)=some r)
theorem Zwj{g:yw}{args:yL TD}{ids:yL Nat}{Hin:yL TEnt}{az:yL Dv}{r4:TD}{Hn:yL TEnt}(honce:once ids=true)(p1:XY H ids ids=some Hin)(p2:subEnts (erH H) ids ids=some (erH Hin))
 (p3:Dv.rns (toIds ids) (TD.ers (lk H) (args.map (TD.argI (lk H) ids)))=some az) (hcon':Con P g az (erH Hin) (r4.er (lk Hn)) (erH Hn)) (h9:ZJR all H K ids r4 Hn=some out):
 ∃a d H' hs c,K a d H' hs c=some out/\CallOk P g all args H a d H' hs c:=by
 unfold ZJR at h9;split at h9
 ·rename_i hem;rw[yj] at hem;have i1:ids=[]:=by simpa using hem.1
  have i2:Hn=[]:=by simpa using hem.2
  subst i1;subst i2;obtain⟨r',hr',h9⟩:=yf.1 h9;have f1:=Zeo (L:=lk []) (M:=lk H) (λid j t e=>by cases e) _ _ hr';have f2:=QZ (f:=λ_=>none) _ _ f1;have f3:r4.er (lk [])=r'.er (lk H):=Option.some.inj (f2.symm.trans f1);have hin0:Hin=[]:=by cases p1;rfl
  subst hin0;refine⟨_,_,_,_,_,h9,rfl,rfl,[],[],[],[],az,r4.er (lk []),rfl,ym _,rfl,p3,hcon', ?_,rfl, ?_,rfl,.inr (.inr ⟨rfl,rfl,rfl,rfl,rfl,f3,f2⟩)⟩
  ·rw[<-f3];exact QZ _ _ f1
  ·rw[Zqw]
 rename_i hne;obtain⟨r',hr',h9⟩:=yf.1 h9;obtain⟨Hb,hHb,h9⟩:=yf.1 h9;obtain⟨hk,h9⟩:=Za h9;simp only[yj,yP] at hk;obtain⟨⟨k1,k2⟩,k3⟩:=hk;obtain⟨b1,b2⟩:=ZAg hHb;obtain⟨s1,s2⟩:=Zdz p1
 have hlt:∀i,i∈ids->i < H.length:=λi hi=>by
  obtain⟨j,hj⟩:=List.getElem?_of_mem hi;exact(s2 j i hj).1
 have hlo:Lo ids H.length (lk H) (lk (putBack (H.map (TEnt.lay (lk H) ids)) ids Hb)):=by
  intro id t hn hl;unfold ZZ lk;dsimp only
  rw[VG _ _ _ id (by rw[b1];exact k1) (by rw[yy];exact hl) (λhm=>by
   rw[List.contains_eq_any_beq] at hn;simp at hn;exact hn id hm rfl),yai,ZJP]
 have hrc:Rc (fromIds ids H.length) (lk Hn) (lk (putBack (H.map (TEnt.lay (lk H) ids)) ids Hb)):=by
  intro j i t e
  have key:lk (putBack (H.map (TEnt.lay (lk H) ids)) ids Hb) i=lk Hn j:=by
   show lkE ((putBack (H.map (TEnt.lay (lk H) ids)) ids Hb)[i]?)=lkE (Hn[j]?);rw[<-b2 j];unfold fromIds at e;split at e
   ·rw[Zed _ _ _ j i honce (by rw[b1];exact k1) (λi hi=>by rw[yy];exact hlt i hi) e]
   ·rename_i hj;cases e;have:=Zfo (H.map (TEnt.lay (lk H) ids)) ids Hb j (by rw[b1];exact k1) (by omega);rw[yy] at this;rw[this]
  unfold ZZ;rw[key]
 have e2:(putBack (H.map (TEnt.lay (lk H) ids)) ids Hb).map (TEnt.er (lk (putBack (H.map (TEnt.lay (lk H) ids)) ids Hb)))=putBack (erH H) ids (Hb.map (TEnt.er (lk (putBack (H.map (TEnt.lay (lk H) ids)) ids Hb)))):=by
  rw[ZqH,yav];congr 1;refine ycn λe he=> ?_;exact ZJO hlo (yba.1 k3 e he)
 have f1:=Zeo hrc _ _ hr';have f2:=ZDY hrc _ _ hHb;refine⟨_,_,_,_,_,h9,ers_lay hlo all k2,ZAh all,ids,erH Hin,erH Hn,_,az,r4.er (lk Hn),honce,by rw[ZG];exact k1,p2,p3,hcon',f1,f2,e2,rfl,.inl ⟨rfl,λhh=>hne ?_⟩⟩;have i2:Hn=[]:=by have:=hh.2;unfold erH at this;simpa using this
 rw[i2,hh.1];rfl
theorem Zu5{args:yL TD}{s:Fs P}{ids:yL Nat}{x:Ty.dens s.ins}(ok:s.Ok)(hp:Zx6 s H args ids=some x)(h:Zs4 s all H K args ids x=some out):
 ∃a d H' hs c,K a d H' hs c=some out/\CallOk P s.g all args H a d H' hs c:=by
 unfold Zs4 at h;obtain⟨y,hM,h0⟩:=yf.1 h;obtain⟨e,vs,s',hsel,hfs,h9⟩:=Zr0 h0;clear h0 h;obtain⟨honce,Hin,a2,a3,H3,R,p1,p2,p3,p4,p5,p6,p7⟩:=ZJQ hp;obtain⟨args,R1,H4,q1,q2,hcon⟩:=ok x y hM;obtain⟨r4,hr4,hcon⟩:=hcon e vs s' hsel hfs;rw[hr4] at h9;dsimp only at h9;rw[p4] at q1;cases q1;rw[p5] at q2;cases q2;generalize s'.2=Hn at h9 hcon;exact Zwj honce p1 p2 p3 (ZDB hcon p6 p7) h9
theorem Zm4{g:yw}{args:yL TD}{yS:yO O}(ho:yS=some out->∃a d H' hs c,K a d H' hs c=some out/\CallOk P g all args H a d H' hs c):∀{l:yL (Fs P)},AllOk l->ZAi g all H K args yS l=some out->
 ∃a d H' hs c,K a d H' hs c=some out/\CallOk P g all args H a d H' hs c
 |[],_,h=>ho h
 |s::r,ok,h=>by
  unfold ZAi at h;split at h
  ·rename_i hg;split at h
   ·rename_i q hq;obtain⟨ids,h1,hq⟩:=yf.1 hq;obtain⟨x,h2,rfl⟩:=Zc hq;exact hg ▸ Zu5 ok.1 h2 h
   ·exact Zm4 ho ok.2 h
  ·exact Zm4 ho ok.2 h
theorem ZHi{sp:Sp P}{g:yw}{args:yL TD}(ok:SpOk sp)(h:inT sp g all H K args=some out):∃a d H' hs c,K a d H' hs c=some out/\CallOk P g all args H a d H' hs c:=by
 unfold inT at h;dsimp only at h;generalize ZqI H 100000 (TD.looks args) []=ids at h;obtain⟨ho,h⟩:=Za h;obtain⟨a2,h1,h⟩:=yf.1 h;obtain⟨Hin,h2,h⟩:=yf.1 h;obtain⟨r,Hn,h3,h4⟩:=ok.hd _ _ _ _ _ _ h;exact Zwj ho h2 (XO (QF h2) h2) (rns_er (QF h2) _ _ h1) h4 h3
theorem Zs5{g:yw}{args:yL TD}{yS:yO O}(ho:yS=some out->∃a d H' hs c,K a d H' hs c=some out/\CallOk P g all args H a d H' hs c):∀{l:yL (Rs P)},AllRo l->ZD0 g all H K args yS l=some out->
 ∃a d H' hs c,K a d H' hs c=some out/\CallOk P g all args H a d H' hs c
 |[],_,h=>ho h
 |s::r,ok,h=>by
  unfold ZD0 at h;split at h
  ·rename_i hg;obtain⟨ids,_,h⟩:=yf.1 h;obtain⟨Hin,h2,h⟩:=yf.1 h;obtain⟨hk,h⟩:=Za h;simp only[yj,Bool.not_eq_true',List.isEmpty_eq_false_iff] at hk;obtain⟨⟨k1,k2⟩,k3⟩:=hk;obtain⟨a2,h3,h⟩:=yf.1 h;obtain⟨q,h4,h⟩:=yf.1 h;obtain⟨⟨w1,w2⟩,h5,h⟩:=yf.1 h;obtain⟨x,h6,h⟩:=yf.1 h;obtain⟨y,h7,h⟩:=yf.1 h;obtain⟨z,h8,h⟩:=yf.1 h;obtain⟨r',h9,h⟩:=yf.1 h;have hw:w1=Hin:=ZAj k3 h5;subst hw;obtain⟨az,R,H3,q1,q2,hcon⟩:=ok.1 x y h7;have e:=ZbZ _ _ _ h6;rw[e,mts_fills _ _ _ h4 _] at q1;cases q1;have q3:=Q2 h5 [];rw[yar] at q3;rw[q3] at q2;cases q2;have hcon:=hcon z h8;have p2:=XO (QF h2) h2;have p3:=rns_er (QF h2) _ _ h3;have hcon:=ZDB hcon (mts_wk (λ_ _=>rfl) _ _ _ h4) (WkH.refl _);have f1:=Zeo (f:=λ_=>none) (L:=lk w1) (M:=lk H) (λid j t e=>by cases e) _ _ h9;have f2:=QZ (f:=λ_=>none) _ _ f1;have f3:z.1.er (lk w1)=r'.er (lk H):=Option.some.inj (f2.symm.trans f1);obtain⟨Hb,b1,b2⟩:=ZHf k1 p2;have zW:=(Zdz h2).1;refine⟨_,_,_,_,_,h,rfl,rfl,ids,erH w1,erH w1,Hb,TD.ers (lk w1) a2,z.1.er (lk w1),k1,by rw[ZG];omega,p2,p3,hg ▸ hcon, ?_,by rw[<-ZG H];exact b1,b2.symm,rfl,.inr (.inl ⟨rfl,rfl,λhh=>k2 hh.1⟩)⟩;rw[<-f3];exact QZ _ _ f1
  ·exact Zs5 ho ok.2 h
theorem ZAk{sp:Sp P}{g:yw}{args:yL TD}(ok:SpOk sp)(h:ZHh sp g all H K args=some out):∃a d H' hs c,K a d H' hs c=some out/\CallOk P g all args H a d H' hs c:=
 Zs5 (λh=>Zm4 (λh=>ZHi ok h) ok.l h) ok.ro h
theorem ZFo{c:Call}{f:yn}{g:yw}{cap az:yL TD}{a:yL TD}{d:TD}{H':yL TEnt}{hs:yL Hint}{cls:Nat}(ho:o.op=.call c)(hc:c.callee=.value f)(hf:arT P ts 0 f=some (.fn g cap))
 (hb:(ZbB P (Zhv g)&&c.args.size==c.argTypes.size)=true) (ha:Zs3 P ts c.args.toList c.argTypes.toList=some az) (h:CallOk P (Zhv g) all (if g < big then az++cap else cap++az) H a d H' hs cls):Good P o ts all H a d H' hs cls:=by
 have hfv:=Zo (L:=lk H) hf;obtain⟨ids,Hin,Hn,Hb,az',r,honce,hle,p2,p3,hcon,f1,f2,e2,rfl,hcl⟩:=h.op
 have ea:Y8 P ids (TD.ers (lk H) ts) c g (TD.ers (lk H) cap)=TD.ers (lk H) ((if g < big then az++cap else cap++az).map (TD.argI (lk H) ids)):=by
  unfold Y8;split
  ·rw[Zn8 ids ha,ZDZ,yam,ZE,ZE,ZE,yam]
  ·rw[Zn8 ids ha,ZDZ,yam,ZE,ZE,ZE,yam]
 have ge:¬(ids=[]/\Hn=[])->GoodE P o ts H d H' [.call r Hn ids]:=λhne=>by
  refine⟨λyK=> ?_,λyK=> ?_,[Con P (Zhv g) az' Hin r Hn],⟨hcon,ytt⟩,λyK=> ?_⟩
  ·unfold evN;rw[ho];dsimp only;rw[hc];dsimp only;rw[hfv];dsimp only[TD.er];rw[yaa,yx];split
   ·rename_i e1 e2;exfalso;simp only[List.cons.injEq,Hint.call.injEq] at e2;exact hne ⟨e2.1.2.2,e2.1.2.1⟩
   ·rename_i e2;cases e2
   ·rfl
  ·unfold evR;rw[ho];dsimp only;rw[hc]
  ·unfold evE;rw[ho];dsimp only;rw[hc];dsimp only;rw[hfv];dsimp only[TD.er];rw[yaa,yx];dsimp only;rw[yW (by simp only[yj,yP] at hb ⊢;exact⟨⟨hb,honce⟩,hle⟩)];rw[ea,p3,p2,ZG,f1,f2];dsimp only;rw[e2]
 rcases hcl with⟨rfl,hne⟩|⟨rfl,hsm,hne⟩|⟨rfl,rfl,rfl,rfl,rfl,rfl,hrn⟩
 ·exact⟨h.same,h.len,or3 ⟨rfl,ge hne⟩⟩
 ·exact⟨h.same,h.len,.inr (.inr (.inr ⟨rfl,hsm,ge hne⟩))⟩
 ·refine⟨h.same,h.len,.inl ⟨rfl,rfl,[Con P (Zhv g) az' [] (d.er (lk H')) []],⟨?_,ytt⟩,λyK=> ?_⟩⟩
  ·cases p2;exact hcon
  ·unfold evN;rw[ho];dsimp only;rw[hc];dsimp only;rw[hfv];dsimp only[TD.er];rw[yaa,yx];dsimp only;rw[yW hb,ea, <-ZmL,p3,ZmL,hrn]
theorem ZFp{c:Call}{recv:yn}{name:String}{t:yc}{x:TD}{g:yw}{az:yL TD}{a:yL TD}{d:TD}{H':yL TEnt}{hs:yL Hint}{cls:Nat}(ho:o.op=.call c)(hc:c.callee=.invoke recv name)(hf:arT P ts 0 recv=some (.iface t x))
 (hm:ZEP P t name g) (hb:(ZbB P g&&c.args.size==c.argTypes.size)=true) (ha:Zs3 P ts c.args.toList c.argTypes.toList=some az) (h:CallOk P g all (x::az) H a d H' hs cls):Good P o ts all H a d H' (.meth g::hs) 2:=by
 have hfv:=Zo (L:=lk H) hf;obtain⟨ids,Hin,Hn,Hb,az',r,honce,hle,p2,p3,hcon,f1,f2,e2,rfl,hcl⟩:=h.op
 have ea:(x.er (lk H)).argI ids::Y8 P ids (TD.ers (lk H) ts) c 0 []=TD.ers (lk H) ((x::az).map (TD.argI (lk H) ids)):=by
  unfold Y8;rw[yW (by decide),Zn8 ids ha,ycf,yar,yad,TD.ers,Zx5]
 refine⟨h.same,h.len,or3 (⟨rfl,λyK=> ?_,λyK=> ?_,[ZEP P t name g,Con P g az' Hin r Hn],⟨hm,hcon,ytt⟩,λyK=> ?_⟩)⟩
 ·unfold evN;rw[ho];dsimp only;rw[hc]
 ·unfold evR;rw[ho];dsimp only;rw[hc]
 ·unfold evE;rw[ho];dsimp only;rw[hc];dsimp only;rw[hfv];dsimp only[TD.er];rw[yaa,yaa,yx];dsimp only;rw[yW (by simp only[yj,yP] at hb ⊢;exact⟨⟨hb,honce⟩,hle⟩)];rw[ea,p3,p2,ZG,f1,f2];dsimp only;rw[e2]
end
end Go.Ev
end
section
namespace Go.Ev
section
variable{P:yg}{o:Oper}{ts all:yL TD}{H:yL TEnt}{O:Type}{K:Kn O}{out:O}
def TD.isView:TD->Bool
 |.view _ _ _ _ _=>true
 |_=>false
def TD.isNilSl:TD->Bool
 |.p (.sl (some false) _ [])=>true
 |_=>false
def TD.isRef:TD->Bool
 |.ref _ _=>true
 |_=>false
def TD.isRref:TD->Bool
 |.rref _ _ _=>true
 |_=>false
def TD.isRv:TD->Bool
 |.rv _ _ _ _ _=>true
 |_=>false
def ZJT(a:TD)(lo hi:yO Int):Bool:=
 match a with
 |.rv _ _ _ _ n=> !Zeh n lo hi
 |_=>false
def TD.isOwn:TD->Bool
 |.own _ _ _ _=>true
 |_=>false
def TD.isMp:TD->Bool
 |.mp _=>true
 |_=>false
def Zm5(l:yL Tmp):yO Tmp->Bool
 |some t=>l.contains t
 |none=>false
def Ziv(P:yg)(o:Oper)(ts all:yL TD)(H:yL TEnt)(K:Kn O):yO O:=opN (lk H) P o ts λd hs=>K all d H hs 0
theorem XZ(h:Ziv P o ts all H K=some out):∃a d H' hs c,K a d H' hs c=some out/\Good P o ts all H a d H' hs c:=by
 obtain⟨d,hs,h1,h2⟩:=ZGW h;exact⟨_,_,_,_,_,h1,rfl,rfl,.inl ⟨rfl,rfl,h2⟩⟩
def ZD1(P:yg)(hi:HI)(o:Oper)(x:yn)(asg:Bool)(ts all:yL TD)(H:yL TEnt)(K:Kn O):yO O:=
 match o.dst,arT P ts o.type x with
 |some t,some d=>if hi.still.contains t&&(d.isView || d.isRv) then ZxT t all H K d else if hi.still.contains t&&d.isRw then ZxY t all H K d else if asg&&(hi.rowt.contains t&&d.isNilSl) then Zx2 P o.type t all H K d else if asg&&(hi.own.contains t&&d.isNilSl) then ZCp P o.type t all H K d else Ziv P o ts all H K
 |_,_=>Ziv P o ts all H K
def TD.numI(d:TD):yO Num:=
 match d.num with
 |some a=>if a.k=.i64 then some a else none
 |none=>none
def opT(P:yg)(hi:HI)(specs:Sp P)(o:Oper)(ts all:yL TD)(H:yL TEnt)(K:Kn O):yO O:=
 match o.op with
 |.move x=>ZD1 P hi o x false ts all H K
 |.assign x=>ZD1 P hi o x true ts all H K
 |.slice t x lo h none=>if Zm5 hi.frz o.dst then(arT P ts t x).bind λa=>(Ze9 P ts lo).bind λl=>(Ze9 P ts h).bind λr=>ZLQ P t l r all H K a
  else(arT P ts t x).bind λa=>(Ze9 P ts lo).bind λl=>(Ze9 P ts h).bind λr=>if(Zm5 hi.rowt o.dst&&a.isRw)=true then Zs0 P t l r all H K a else if ZJT a l r=true then ZCn P t l r all H K a else Ziv P o ts all H K
 |.load t x=>(arT P ts 0 x).bind λd=>if d.isRef || d.isRref then ZGZ P t all H K d else if d.isRp then ZCy P t all H K d else Ziv P o ts all H K
 |.lookup t x ix ok=>(arT P ts t x).bind λd=>ZxE P t all H ok K (λkt=>arT P ts kt ix) d
 |.makeMap t none=>ZsW P t all H K
 |.makeSlice t l c=>((arT P ts 0 l).bind TD.numI).bind λn=>((arT P ts 0 c).bind TD.numI).bind λn'=>if Zm5 hi.mkn o.dst then Zx0 P t n.n n'.n all H K else if Zm5 hi.rowt o.dst then ZCB P t n.n n'.n all H K else Zm0 P t (Zm5 hi.own o.dst) (Zm5 hi.row o.dst) n.n n'.n all H K
 |.mapUpdate t x k v=>(arT P ts t x).bind λd=>Zlb P t all H K (λkt=>arT P ts kt k) (λet=>arT P ts et v) d
 |.insert t x k v=>(arT P ts t x).bind λd=>Zlb P t all H K (λkt=>arT P ts kt k) (λet=>arT P ts et v) d
 |.alloc t=>ZCq P hi o.dst t all H K
 |.box t x=>(arT P ts t x).bind (ZLP hi o.dst all H K)
 |.store t x y=>(arT P ts 0 x).bind λa=>(arT P ts t y).bind λv=>if a.isRp then ZxW P t all H K v a else ZCr P (ZNf hi x) t all H K v a
 |.buildSlice t len parts=>if Zm5 hi.rowt o.dst then(match (o.dst.bind λd=>hi.rew.lookup d).bind λs=>all[s]? with
  |some (.rw id)=>ZCA P ts t len parts.toList id all H K
  |_=>ZG7 P ts t len parts.toList all H K) else if Zm5 hi.row o.dst then(if ZNg P ts t (lk H) parts.toList=true then ZxN P ts t len parts.toList all H K else ZsY P ts t len parts.toList all H K) else if Zm5 hi.own o.dst then ZxP P ts t len parts.toList all H K else Ziv P o ts all H K
 |.indexAddr t x ix=>(arT P ts t x).bind λa=>if a.isRw then(arT P ts 0 ix).bind λb=>b.inner.bind λip=>(Zxs ip).bind λq=>ZxU P t q.2 all H K a else Ziv P o ts all H K
 |.call c=>match c.callee with
  |.builtin .len=>match c.args.toList,c.argTypes.toList with
   |[x],[t]=>(arT P ts t x).bind λd=>if d.isMp then ZxG P t all H K d else if d.isRw then ZG6 P t all H K d else Ziv P o ts all H K
   |_,_=>none
  |.builtin .max=>Ziv P o ts all H K
  |.builtin .append=>match c.args.toList,c.argTypes.toList with
   |[x,y],[t,u]=>(arT P ts t x).bind λa=>(arT P ts u y).bind λb=>if a.isRw || (a.isNilSl&&Zm5 hi.rowt o.dst) then ZsZ P true t u all H K b a else if a.isOwn || a.isRv || (a.isNilSl&&(Zm5 hi.own o.dst || Zm5 hi.row o.dst)) then ZxR P (Zm5 hi.own o.dst) (Zm5 hi.row o.dst) t u all H K b (if hi.eqs=true then ZCt H a else a) else Ziv P o ts all H K
   |_,_=>none
  |.builtin .copy=>match c.args.toList,c.argTypes.toList with
   |[x,y],[t,u]=>(arT P ts t x).bind λa=>(arT P ts u y).bind λb=>ZG5 P t u all H K b a
   |_,_=>none
  |.builtin .clear=>match c.args.toList,c.argTypes.toList with
   |[x],[t]=>(arT P ts t x).bind λa=>ZCu P t all H K a
   |_,_=>none
  |.builtin .delete=>match c.args.toList,c.argTypes.toList with
   |[x,y],[t,u]=>(arT P ts t x).bind λa=>ZxK P t all H K (arT P ts u y) a
   |_,_=>none
  |.value f=>match arT P ts 0 f with
   |some (.fn g cap)=>if(ZbB P (Zhv g)&&c.args.size==c.argTypes.size)=true then(Zs3 P ts c.args.toList c.argTypes.toList).bind λaz=>ZHh specs (Zhv g) all H K (if g < big then az++cap else cap++az) else Ziv P o ts all H K
   |_=>none
  |.invoke recv name=>match arT P ts 0 recv with
   |some (.iface t x)=>(ZHg specs.mt t name).bind λg=>if(ZbB P g&&c.args.size==c.argTypes.size)=true then(Zs3 P ts c.args.toList c.argTypes.toList).bind λaz=>ZHh specs g all H (λa d H' hs _=>K a d H' (.meth g::hs) 2) (x::az) else none
   |_=>none
  |_=>none
 |_=>Ziv P o ts all H K
theorem Wh{d:TD}{n:Num}(h:d.numI=some n):d.num=some n/\n.k=.i64:=by
 unfold TD.numI at h;split at h
 ·rename_i a hn;split at h
  ·rename_i e;cases h;exact⟨hn,e⟩
  ·cases h
 ·cases h
theorem Zs6{hi:HI}{x:yn}{asg:Bool}(ho:if asg=true then o.op=.assign x else o.op=.move x)(h:ZD1 P hi o x asg ts all H K=some out):∃a d H' hs c,K a d H' hs c=some out/\Good P o ts all H a d H' hs c:=by
 unfold ZD1 at h;split at h
 ·rename_i t d hd hx;split at h
  ·refine ZAa (x:=x) ?_ hd hx h;cases asg
   ·exact .inr ho
   ·exact .inl ho
  split at h
  ·refine ZxZ (x:=x) ?_ hd hx h;cases asg
   ·exact .inr ho
   ·exact .inl ho
  split at h
  ·rename_i ha;rw[yj] at ha;rw[yW ha.1] at ho;exact Zx3 ho hd hx h
  ·split at h
   ·rename_i ha;rw[yj] at ha;rw[yW ha.1] at ho;exact Zz3 ho hd hx h
   ·exact XZ h
 ·exact XZ h
theorem Zs7{hi:HI}{specs:Sp P}(ok:SpOk specs)(h:opT P hi specs o ts all H K=some out):∃a d H' hs c,K a d H' hs c=some out/\Good P o ts all H a d H' hs c:=by
 unfold opT at h;split at h
 ·rename_i x ho;exact Zs6 (asg:=false) ho h
 ·rename_i x ho;exact Zs6 (asg:=true) ho h
 ·rename_i t x lo hi' ho;split at h
  ·obtain⟨a,h1,h⟩:=yf.1 h;obtain⟨l,h2,h⟩:=yf.1 h;obtain⟨r,h3,h⟩:=yf.1 h;exact ZFn ho h1 h2 h3 h
  ·obtain⟨a,h1,h⟩:=yf.1 h;obtain⟨l,h2,h⟩:=yf.1 h;obtain⟨r,h3,h⟩:=yf.1 h;split at h
   ·exact Zu4 ho h1 h2 h3 h
   split at h
   ·exact Zz1 ho h1 h2 h3 h
   ·exact XZ h
 ·rename_i t x ho;obtain⟨d,h1,h⟩:=yf.1 h;split at h
  ·exact ZCm ho h1 h
  split at h
  ·exact ZAb ho h1 h
  ·exact XZ h
 ·rename_i t x ix okk ho;obtain⟨d,h1,h⟩:=yf.1 h;exact ZxF ho h1 h
 ·rename_i t ho;exact Zu1 ho h
 ·rename_i t l c ho;obtain⟨n,h1,h⟩:=yf.1 h;obtain⟨n',h2,h⟩:=yf.1 h;obtain⟨d1,g1,g2⟩:=yf.1 h1;obtain⟨d2,g3,g4⟩:=yf.1 h2;split at h
  ·exact Zx1 ho (by rw[g1];exact(Wh g2).1) (by rw[g3];exact(Wh g4).1) (Wh g2).2 (Wh g4).2 h
  split at h
  ·exact ZAe ho (by rw[g1];exact(Wh g2).1) (by rw[g3];exact(Wh g4).1) (Wh g2).2 (Wh g4).2 h
  exact Zrk ho (by rw[g1];exact(Wh g2).1) (by rw[g3];exact(Wh g4).1) (Wh g2).2 (Wh g4).2 h
 ·rename_i t x k v ho;obtain⟨d,h1,h⟩:=yf.1 h;exact ZxI ho h1 h
 ·rename_i t x k v ho;obtain⟨d,h1,h⟩:=yf.1 h;exact ZxJ ho h1 h
 ·rename_i t ho;exact Zz5 ho h
 ·rename_i t x ho;obtain⟨d,h1,h⟩:=yf.1 h;exact ZFl ho h1 h
 ·rename_i t x y ho;obtain⟨a,h1,h⟩:=yf.1 h;obtain⟨v,h2,h⟩:=yf.1 h;split at h
  ·exact ZxX ho h1 h2 h
  ·exact Zz6 ho h1 h2 h
 ·rename_i t len parts ho;split at h
  ·split at h
   ·exact ZAd ho h
   ·exact ZCz ho h
  split at h
  ·split at h
   ·exact ZxO ho h
   ·exact Zu2 ho h
  split at h
  ·exact ZxQ ho h
  ·exact XZ h
 ·rename_i t x ix ho;obtain⟨a,h1,h⟩:=yf.1 h;split at h
  ·obtain⟨b,h2,h⟩:=yf.1 h;obtain⟨ip,h3,h⟩:=yf.1 h;obtain⟨q,h4,h⟩:=yf.1 h;rw[Y9 h3] at h2;exact ZxV ho h1 h2 h4 h
  ·exact XZ h
 ·rename_i c ho;split at h
  ·rename_i hc;split at h
   ·rename_i x t ha ht;obtain⟨d,h1,h⟩:=yf.1 h;split at h
    ·exact ZxH ho hc ha ht h1 h
    split at h
    ·exact ZCx ho hc ha ht h1 h
    ·exact XZ h
   ·cases h
  ·exact XZ h
  ·rename_i hc;split at h
   ·rename_i x y t u ha ht;obtain⟨a,h1,h⟩:=yf.1 h;obtain⟨b,h2,h⟩:=yf.1 h;split at h
    ·exact Zu3 ho hc ha ht (Zo h1) h2 h
    split at h
    ·refine ZxS ho hc ha ht ?_ h2 h;split
     ·rw[ZFm];exact Zo h1
     ·exact Zo h1
    ·exact XZ h
   ·cases h
  ·rename_i hc;split at h
   ·rename_i x y t u ha ht;obtain⟨a,h1,h⟩:=yf.1 h;obtain⟨b,h2,h⟩:=yf.1 h;exact ZCv ho hc ha ht h1 h2 h
   ·cases h
  ·rename_i hc;split at h
   ·rename_i x t ha ht;obtain⟨a,h1,h⟩:=yf.1 h;exact Zz8 ho hc ha ht h1 h
   ·cases h
  ·rename_i hc;split at h
   ·rename_i x y t u ha ht;obtain⟨a,h1,h⟩:=yf.1 h;exact ZxL ho hc ha ht h1 h
   ·cases h
  ·rename_i f hc;split at h
   ·rename_i g cap hf;split at h
    ·rename_i hb;obtain⟨az,h1,h⟩:=yf.1 h;obtain⟨a,d,H',hs,cc,k1,k2⟩:=ZAk ok h;exact⟨a,d,H',hs,cc,k1,ZFo ho hc hf hb h1 k2⟩
    ·exact XZ h
   ·cases h
  ·rename_i recv name hc;split at h
   ·rename_i t x hf;obtain⟨g,hg,h⟩:=yf.1 h;obtain⟨hb,h⟩:=Za h;obtain⟨az,h1,h⟩:=yf.1 h;obtain⟨a,d,H',hs,cc,k1,k2⟩:=ZAk ok h;exact⟨a,d,H',_,_,k1,ZFp ho hc hf (Zx7 ok.mt hg) hb h1 k2⟩
   ·cases h
  ·cases h
 ·exact XZ h
def ZCD(ops:Array Oper)(j:Nat):yO Tmp:=(ops[j]?).bind (·.dst)
def Zu6(b:Bool):TD:=.p (.v .bool b)
def ZHj:TD->Bool
 |.tup []=>true
 |_=>false
def gT(P:yg)(hi:HI)(specs:Sp P)(ops:Array Oper)(o:Oper)(ts all:yL TD)(H:yL TEnt)(K:Kn O):yO O:=
 match o.guard with
 |none=>opT P hi specs o ts all H K
 |some (j,want)=>(ZCD ops j).bind λt=>match (ts.getD t .junk).boolT with
  |some b=>
   if b=true then
    if true=want then opT P hi specs o (ts.set t (Zu6 true)) (all.set t (Zu6 true)) H λa d H' hs c=>K a d H' (.b true::hs) c
    else K (all.set t (Zu6 true)) (.tup []) H [.b true] 0
   else
    if false=want then opT P hi specs o (ts.set t (Zu6 false)) (all.set t (Zu6 false)) H λa d H' hs c=>K a d H' (.b false::hs) c
    else K (all.set t (Zu6 false)) (.tup []) H [.b false] 0
  |none=>if ZHj (ts.getD t .junk) then K all (.tup []) H [.raw] 0 else none
structure GoodG(P:yg)(ops:Array Oper)(o:Oper)(ts all:List TD)(H:List TEnt)(all':List TD)(d:TD)(H':List TEnt)(hs:List Hint)(cls:Nat):Prop where
 same:TD.ers (lk H') all'=TD.ers (lk H) all
 len:all'.length=all.length
 op:∃C,AllP C/\∀yK,evG P ops o (TD.ers (lk H) ts) (erH H) (hs++yK)=some (C,d.er (lk H'),erH H',yK)
 sam:cls=3->erH H'=erH H
 cls:∀yK,clsOf P o (TD.ers (lk H) ts) (erH H) (hs++yK)<=cls
theorem Zx8{d:TD}{a:yL TD}{H':yL TEnt}{hs:yL Hint}{c:Nat}(h:Good P o ts all H a d H' hs c):∃C,AllP C/\(∀yK,Ze8 P o (TD.ers (lk H) ts) (erH H) (hs++yK)=some (C,d.er (lk H'),erH H',yK))/\
 ∀yK,(if(evN P o (TD.ers (lk H) ts) (hs++yK)).isSome then 0 else if(evR P o (TD.ers (lk H) ts) (erH H) (hs++yK)).isSome then 1 else 2)<=c:=by
 rcases h.op with⟨rfl,rfl,C,h1,h2⟩|⟨rfl,rfl,h0,C,h1,h2⟩|⟨rfl,h0,h00,C,h1,h2⟩|⟨rfl,_,h0,h00,C,h1,h2⟩
 ·exact⟨C,h1,λyK=>by unfold Ze8;rw[h2 yK],λyK=>by rw[h2 yK];simp⟩
 ·exact⟨C,h1,λyK=>by unfold Ze8;rw[h0 yK];dsimp only;rw[h2 yK],λyK=>by rw[h0 yK,h2 yK];simp⟩
 ·exact⟨C,h1,λyK=>by unfold Ze8;rw[h0 yK];dsimp only;rw[h00 yK];exact h2 yK,λyK=>by rw[h0 yK,h00 yK];simp⟩
 ·exact⟨C,h1,λyK=>by unfold Ze8;rw[h0 yK];dsimp only;rw[h00 yK];exact h2 yK,λyK=>by rw[h0 yK,h00 yK];simp⟩
theorem Zs8{d:TD}{a:yL TD}{H':yL TEnt}{hs:yL Hint}{c:Nat}(h:Good P o ts all H a d H' hs c)(hc:c=3):erH H'=erH H:=by
 subst hc;rcases h.op with⟨e,_⟩|⟨e,_⟩|⟨e,_⟩|⟨_,e,_⟩
 ·cases e
 ·cases e
 ·cases e
 ·exact e
theorem ZAl{l:yL TD}{t:Nat}{b:Bool}(h:(l.getD t .junk).boolT=some b):l.getD t .junk=Zu6 b:=by
 unfold TD.boolT at h;split at h
 ·rename_i x hx;unfold TP.boolB at h;split at h
  ·cases h;exact hx
  ·cases h
 ·cases h
theorem set_same{l:yL TD}{t:Nat}{d:TD}(h:l.getD t .junk=d):(l.set t d)=l:=by
 apply List.ext_getElem?;intro i;rw[List.getElem?_set];split
 ·rename_i e;subst e;split
  ·rename_i hl;rw[<-h,ycx,yac hl];rfl
  ·rename_i hl;rw[yan (by omega)]
 ·rfl
theorem ZD2{hi:HI}{specs:Sp P}{ops:Array Oper}(ok:SpOk specs)(hg:∀j want t,o.guard=some (j,want)->ZCD ops j=some t->ts.getD t .junk=all.getD t .junk)(h:gT P hi specs ops o ts all H K=some out):
 ∃a d H' hs c,K a d H' hs c=some out/\GoodG P ops o ts all H a d H' hs c:=by
 unfold gT at h;split at h
 ·rename_i hgd;obtain⟨a,d,H',hs,c,h1,h2⟩:=Zs7 ok h;obtain⟨C,g1,g2,g3⟩:=Zx8 h2;refine⟨a,d,H',hs,c,h1,h2.same,h2.len,⟨C++[],Zj.2 ⟨g1,ytt⟩,λyK=> ?_⟩,Zs8 h2,λyK=> ?_⟩
  ·unfold evG;rw[hgd];dsimp only;rw[g2 yK];rfl
  ·unfold clsOf;rw[hgd];exact g3 yK
 ·rename_i j want hgd;obtain⟨t,ht,h9⟩:=yf.1 h;clear h;have eall:=hg j want t hgd ht
  have eslot:((ops[j]?).bind (·.dst)).map (λt=>(TD.ers (lk H) ts).getD t .junk)=some ((ts.getD t .junk).er (lk H)):=by
   rw[show(ops[j]?).bind (·.dst)=some t from ht,yz,ZnU]
  split at h9
  ·rename_i b hb;have e1:=ZAl hb;have e2:all.getD t .junk=Zu6 b:=by rw[<-eall];exact e1
   have e3:(ts.getD t .junk).er (lk H)=.p (.bool b):=ZgM hb;split at h9
   ·rename_i hbt;subst hbt;rw[set_same e1,set_same e2] at h9;split at h9
    ·rename_i hw;subst hw;obtain⟨a,d,H',hs,c,h1,h2⟩:=Zs7 ok h9;obtain⟨C,g1,g2,g3⟩:=Zx8 h2;refine⟨a,d,H',_,c,h1,h2.same,h2.len,⟨(true=true)::C++[],Zj.2 ⟨⟨rfl,g1⟩,ytt⟩,λyK=> ?_⟩,Zs8 h2,λyK=> ?_⟩
     ·unfold evG;rw[hgd];dsimp only;rw[eslot,e3];simp only[yaa,if_true,g2 yK];rfl
     ·unfold clsOf;rw[hgd];simp only[yaa,if_true];exact g3 yK
    ·rename_i hw;refine⟨_,_,_,_,_,h9,rfl,rfl,⟨[true=true],⟨rfl,ytt⟩,λyK=> ?_⟩,λ_=>rfl,λyK=> ?_⟩
     ·unfold evG;rw[hgd];dsimp only;rw[eslot,e3];simp only[yaa,yx,yX hw];rfl
     ·unfold clsOf;rw[hgd];simp only[yaa,yX hw];exact ym _
   ·rename_i hbt;have hbt:b=false:=by simpa using hbt
    subst hbt;rw[set_same e1,set_same e2] at h9;split at h9
    ·rename_i hw;subst hw;obtain⟨a,d,H',hs,c,h1,h2⟩:=Zs7 ok h9;obtain⟨C,g1,g2,g3⟩:=Zx8 h2;refine⟨a,d,H',_,c,h1,h2.same,h2.len,⟨(false=false)::C++[],Zj.2 ⟨⟨rfl,g1⟩,ytt⟩,λyK=> ?_⟩,Zs8 h2,λyK=> ?_⟩
     ·unfold evG;rw[hgd];dsimp only;rw[eslot,e3];simp only[yaa,if_true,g2 yK];rfl
     ·unfold clsOf;rw[hgd];simp only[yaa,if_true];exact g3 yK
    ·rename_i hw;refine⟨_,_,_,_,_,h9,rfl,rfl,⟨[false=false],⟨rfl,ytt⟩,λyK=> ?_⟩,λ_=>rfl,λyK=> ?_⟩
     ·unfold evG;rw[hgd];dsimp only;rw[eslot,e3];simp only[yaa,yx,yX hw];rfl
     ·unfold clsOf;rw[hgd];simp only[yaa,yX hw];exact ym _
  ·obtain⟨h1,h9⟩:=Za h9
   have e3:(ts.getD t .junk).er (lk H)=.tup []:=by
    unfold ZHj at h1;split at h1
    ·rename_i hx;rw[hx];rfl
    ·cases h1
   refine⟨_,_,_,_,_,h9,rfl,rfl,⟨[],zP,λyK=> ?_⟩,λ_=>rfl,λyK=> ?_⟩
   ·unfold evG;rw[hgd];dsimp only;rw[eslot,e3];rfl
   ·unfold clsOf;rw[hgd];exact ym _
def Zwk(ts:yL TD)(dst:yO Tmp)(d:TD):yL TD:=
 match dst with
 |some i=>ts.set i d
 |none=>ts
theorem ZAm{L:Lk}(dst:yO Tmp)(d:TD):TD.ers L (Zwk ts dst d)=ZiX (TD.ers L ts) dst (d.er L):=by
 cases dst with
 |none=>rfl
 |some i=>simp only[Zwk,ZiX,ZE,ybn]
theorem Zwl(dst:yO Tmp)(d:TD):(Zwk ts dst d).length=ts.length:=by
 cases dst <;> simp[Zwk]
def ZHk(P:yg)(hi:HI)(specs:Sp P)(ops:Array Oper):yL Oper->yL TD->yL TEnt->(yL TD->yL TEnt->yL Hint->yO O)->yO O
 |[],all,H,K=>K all H []
 |o::r,all,H,K=>gT P hi specs ops o all all H λa d H' hs _=>ZHk P hi specs ops r (Zwk a o.dst d) H' λa' h' hs'=>K a' h' (hs++hs')
theorem Zwm{hi:HI}{specs:Sp P}{ops:Array Oper}(ok:SpOk specs):∀(l:yL Oper)(all:yL TD)(H:yL TEnt)(K:yL TD->yL TEnt->yL Hint->yO O),ZHk P hi specs ops l all H K=some out->
 ∃a h hs C,K a h hs=some out/\a.length=all.length/\AllP C/\∀yK,Zsa P ops l (TD.ers (lk H) all) (erH H) (hs++yK)=some (C,TD.ers (lk h) a,erH h,yK)
 |[],all,H,K,h=>⟨all,H,[],[],h,rfl,zP,λ_=>rfl⟩
 |o::r,all,H,K,h=>by
  unfold ZHk at h;obtain⟨a,d,H',hs,c,h1,h2⟩:=ZD2 ok (λ_ _ _ _ _=>rfl) h;obtain⟨a',h',hs',C',k1,k0,k2,k3⟩:=Zwm ok r _ _ _ h1;obtain⟨C,g1,g2⟩:=h2.op;refine⟨a',h',_,C++C',k1,by rw[k0,Zwl,h2.len],Zj.2 ⟨g1,k2⟩,λyK=> ?_⟩;unfold Zsa;rw[yab,g2 (hs'++yK)];dsimp only;rw[<-h2.same, <-ZAm,k3 yK]
end
end Go.Ev
end
section
namespace Go.Ev
section
variable{P:yg}{o:Oper}{ts all:yL TD}{H:yL TEnt}{O:Type}{out:O}
def Ziw(keep:yL Nat):Nat->yL TD->yL TD
 |_,[]=>[]
 |i,d::r=>(if keep.contains i then d else .junk)::Ziw keep (i+1) r
theorem Zn9{L:Lk}(keep:yL Nat):∀(l:yL TD)(k:Nat),TD.ers L (Ziw keep k l)=ZJ keep k (TD.ers L l)
 |[],_=>rfl
 |d::r,k=>by
  rw[Ziw,TD.ers,TD.ers,ZJ,Zn9 keep r];split <;> rfl
theorem Zwn(keep:yL Nat):∀(l:yL TD)(k t:Nat),keep.contains (k+t)=true->(Ziw keep k l).getD t .junk=l.getD t .junk
 |[],_,_,_=>rfl
 |d::r,k,0,h=>by
  have h':keep.contains k=true:=h
  simp only[Ziw,h',if_true,List.getD_cons_zero]
 |d::r,k,t+1,h=>by
  simp only[Ziw,List.getD_cons_succ];exact Zwn keep r (k+1) t (by rw[show k+1+t=k+(t+1) by omega];exact h)
mutual
def Pl.sameB:Pl->Pl->Bool
 |.int k n,.int l m=>decide (k=l)&&decide (n=m)
 |.bool a,.bool b=>a==b
 |.str a,.str b=>decide (a=b)
 |.ptr0,.ptr0=>true
 |.fn0,.fn0=>true
 |.if0,.if0=>true
 |.map0,.map0=>true
 |.fnv f,.fnv g=>Nat.beq f g
 |.agg xs,.agg ys=>Pl.samesB xs ys
 |.arr n s xs,.arr m u ys=>Nat.beq n m&&Nat.beq s u&&Pl.samesB xs ys
 |.sl a s xs,.sl b u ys=>a==b&&Nat.beq s u&&Pl.samesB xs ys
 |.iface t x,.iface u y=>Nat.beq t u&&Pl.sameB x y
 |_,_=>false
def Pl.samesB:yL Pl->yL Pl->Bool
 |[],[]=>true
 |x::r,y::q=>Pl.sameB x y&&Pl.samesB r q
 |_,_=>false
end
mutual
theorem Pl.sameB_eq:∀(a b:Pl),Pl.sameB a b=true->a=b
 |.int k n,b,h=>by cases b <;> simp_all[Pl.sameB]
 |.bool k,b,h=>by cases b <;> simp_all[Pl.sameB]
 |.str k,b,h=>by cases b <;> simp_all[Pl.sameB]
 |.ptr0,b,h=>by cases b <;> simp_all[Pl.sameB]
 |.fn0,b,h=>by cases b <;> simp_all[Pl.sameB]
 |.if0,b,h=>by cases b <;> simp_all[Pl.sameB]
 |.map0,b,h=>by cases b <;> simp_all[Pl.sameB]
 |.fnv f,b,h=>by cases b <;> simp_all[Pl.sameB]
 |.agg xs,b,h=>by cases b <;> simp_all[Pl.sameB];exact Pl.samesB_eq _ _ h
 |.arr n s xs,b,h=>by cases b <;> simp_all[Pl.sameB];exact Pl.samesB_eq _ _ h.2
 |.sl n s xs,b,h=>by cases b <;> simp_all[Pl.sameB];exact Pl.samesB_eq _ _ h.2
 |.iface t x,b,h=>by cases b <;> simp_all[Pl.sameB];exact Pl.sameB_eq _ _ h.2
theorem Pl.samesB_eq:∀(a b:yL Pl),Pl.samesB a b=true->a=b
 |[],[],_=>rfl
 |[],_::_,h=>by cases h
 |_::_,[],h=>by cases h
 |x::r,y::q,h=>by
  simp only[Pl.samesB,yj] at h;rw[Pl.sameB_eq x y h.1,Pl.samesB_eq r q h.2]
end
def Zwo:yL Nat->yL Nat->Bool
 |[],[]=>true
 |x::r,y::q=>Nat.beq x y&&Zwo r q
 |_,_=>false
theorem Zoa:∀(a b:yL Nat),Zwo a b=true->a=b
 |[],[],_=>rfl
 |[],_::_,h=>by cases h
 |_::_,[],h=>by cases h
 |x::r,y::q,h=>by
  simp only[Zwo,yj] at h;rw[Nat.eq_of_beq_eq_true h.1,Zoa r q h.2]
mutual
def Dv.sameB:Dv->Dv->Bool
 |.p x,.p y=>Pl.sameB x y
 |.elem x,.elem y=>Pl.sameB x y
 |.ref i o l,.ref j q m=>Nat.beq i j&&Nat.beq o q&&Zwo l m
 |.own i a s xs,.own j b u ys=>Nat.beq i j&&a==b&&Nat.beq s u&&Pl.samesB xs ys
 |.view i o l a b c,.view i' o' l' a' b' c'=>Nat.beq i i'&&Nat.beq o o'&&Zwo l l'&&Nat.beq a a'&&Nat.beq b b'&&Nat.beq c c'
 |.agg xs,.agg ys=>Dv.samesB xs ys
 |.arr n s xs,.arr m u ys=>Nat.beq n m&&Nat.beq s u&&Dv.samesB xs ys
 |.fn f xs,.fn g ys=>Nat.beq f g&&Dv.samesB xs ys
 |.iface t x,.iface u y=>Nat.beq t u&&Dv.sameB x y
 |.tup xs,.tup ys=>Dv.samesB xs ys
 |.mp i,.mp j=>Nat.beq i j
 |.rv a b c d e,.rv a' b' c' d' e'=>Nat.beq a a'&&Nat.beq b b'&&Nat.beq c c'&&Nat.beq d d'&&Nat.beq e e'
 |.rref a b c l,.rref a' b' c' l'=>Nat.beq a a'&&Nat.beq b b'&&Nat.beq c c'&&Zwo l l'
 |.junk,.junk=>true
 |_,_=>false
def Dv.samesB:yL Dv->yL Dv->Bool
 |[],[]=>true
 |x::r,y::q=>Dv.sameB x y&&Dv.samesB r q
 |_,_=>false
end
theorem Zfa{a b:Nat}(h:Nat.beq a b=true):a=b:=Nat.eq_of_beq_eq_true h
mutual
theorem Dv.sameB_eq:∀(a b:Dv),Dv.sameB a b=true->a=b
 |.p x,b,h=>by
  cases b <;> simp only[Dv.sameB,yby] at h
  rw[Pl.sameB_eq _ _ h]
 |.elem x,b,h=>by
  cases b <;> simp only[Dv.sameB,yby] at h
  rw[Pl.sameB_eq _ _ h]
 |.ref i o l,b,h=>by
  cases b <;> simp only[Dv.sameB,yby,yj] at h
  rw[Zfa h.1.1,Zfa h.1.2,Zoa _ _ h.2]
 |.own i a s xs,b,h=>by
  cases b <;> simp only[Dv.sameB,yby,yj,yT] at h
  rw[Zfa h.1.1.1,h.1.1.2,Zfa h.1.2,Pl.samesB_eq _ _ h.2]
 |.view i o l a k c,b,h=>by
  cases b <;> simp only[Dv.sameB,yby,yj] at h
  rw[Zfa h.1.1.1.1.1,Zfa h.1.1.1.1.2,Zoa _ _ h.1.1.1.2,Zfa h.1.1.2,Zfa h.1.2,Zfa h.2]
 |.agg xs,b,h=>by
  cases b <;> simp only[Dv.sameB,yby] at h
  rw[Dv.samesB_eq _ _ h]
 |.arr n s xs,b,h=>by
  cases b <;> simp only[Dv.sameB,yby,yj] at h
  rw[Zfa h.1.1,Zfa h.1.2,Dv.samesB_eq _ _ h.2]
 |.fn f xs,b,h=>by
  cases b <;> simp only[Dv.sameB,yby,yj] at h
  rw[Zfa h.1,Dv.samesB_eq _ _ h.2]
 |.iface t x,b,h=>by
  cases b <;> simp only[Dv.sameB,yby,yj] at h
  rw[Zfa h.1,Dv.sameB_eq _ _ h.2]
 |.tup xs,b,h=>by
  cases b <;> simp only[Dv.sameB,yby] at h
  rw[Dv.samesB_eq _ _ h]
 |.mp i,b,h=>by
  cases b <;> simp only[Dv.sameB,yby] at h
  rw[Zfa h]
 |.rv a k c d e,b,h=>by
  cases b <;> simp only[Dv.sameB,yby,yj] at h
  rw[Zfa h.1.1.1.1,Zfa h.1.1.1.2,Zfa h.1.1.2,Zfa h.1.2,Zfa h.2]
 |.rref a k c l,b,h=>by
  cases b <;> simp only[Dv.sameB,yby,yj] at h
  rw[Zfa h.1.1.1,Zfa h.1.1.2,Zfa h.1.2,Zoa _ _ h.2]
 |.junk,b,h=>by
  cases b <;> simp only[Dv.sameB,yby] at h;rfl
theorem Dv.samesB_eq:∀(a b:yL Dv),Dv.samesB a b=true->a=b
 |[],[],_=>rfl
 |[],_::_,h=>by cases h
 |_::_,[],h=>by cases h
 |x::r,y::q,h=>by
  simp only[Dv.samesB,yj] at h;rw[Dv.sameB_eq x y h.1,Dv.samesB_eq r q h.2]
end
def Ent.sameB:yO Ent->yO Ent->Bool
 |some (.var d _),some (.var e _)=>Dv.sameB d e
 |_,_=>false
theorem Ent.sameB_rd{a b:yO Ent}(h:Ent.sameB a b=true):rdE a=rdE b:=by
 unfold Ent.sameB at h;split at h
 ·rw[Dv.sameB_eq _ _ h];rfl
 ·cases h
structure TR where
 cls:Nat
 rd:Option Nat
 tc:Option (List Nat)
 n:Nat
 push:Bool
 loc:Bool
 m:Nat
 sm:Nat->Bool
def ZD3(P:yg)(hi:HI)(specs:Sp P)(ops:Array Oper):yL Oper->yL TD->yL TEnt->(yL TD->yL TEnt->yL TR->yL Hint->yO O)->yO O
 |[],all,H,K=>K all H [] []
 |o::r,all,H,K=>gT P hi specs ops o (Ziw (looks ops o) 0 all) all H λa d H' hs c=>ZD3 P hi specs ops r (Zwk a o.dst d) H' λa' h' rs hs'=>
   K a' h' (⟨c,ZGb P o (TD.ers (lk H) (Ziw (looks ops o) 0 all)),Zw9 P o (TD.ers (lk H) (Ziw (looks ops o) 0 all)) hs,H.length,Zhx o,ZnA o hs,H'.length,λid=>(c==3) || Ent.sameB ((erH H')[id]?) ((erH H)[id]?)⟩::rs) (hs++hs')
def RecOk(R:Rec)(r:TR):Prop:=R.cls<=r.cls/\R.rd=r.rd/\(∀l,r.tc=some l->R.tc=some l)/\R.H.length=r.n/\R.push=r.push/\(r.loc=true->R.loc=true)/\R.H'.length=r.m/\∀id,r.sm id=true->rdE (R.H'[id]?)=rdE (R.H[id]?)
inductive RecsOk:List Rec->List TR->Prop where
 |nil:RecsOk [] []
 |cons {R:Rec} {r:TR} {Rs:List Rec} {rs:List TR} (h:RecOk R r) (k:RecsOk Rs rs):RecsOk (R::Rs) (r::rs)
theorem ZCE{ts:yL Dv}{hs yK:yL Hint}{l:yL Nat}(h:Zdo P o ts hs=some l):Zdo P o ts (hs++yK)=some l:=by
 unfold Zdo at h ⊢;split at h <;> first|exact h|skip
 ·cases hs with
  |nil=>cases h
  |cons x r=>rw[yaa];cases x <;> exact h
 split at h <;> first|exact h|skip
 all_goals
  split at h
  ·exact h
  ·cases h
theorem ZJU{ts:yL Dv}{hs yK:yL Hint}{l:yL Nat}(h:Zw9 P o ts hs=some l):Zw9 P o ts (hs++yK)=some l:=by
 unfold Zw9 at h ⊢;split at h
 ·rename_i hg;rw[yW hg];exact ZCE h
 ·cases h
theorem ZHl{hs yK:yL Hint}(h:ZnA o hs=true):ZnA o (hs++yK)=true:=by
 unfold ZnA at h ⊢;rw[yj] at h ⊢;refine⟨h.1, ?_⟩;have h:=h.2;split at h
 ·split at h
  ·split at h
   ·exact h
   ·cases h
  ·split at h
   ·exact h
   ·cases h
  ·cases h
 ·cases h
theorem Zs9{hi:HI}{specs:Sp P}{ops:Array Oper}(ok:SpOk specs):∀(l:yL Oper)(all:yL TD)(H:yL TEnt)(K:yL TD->yL TEnt->yL TR->yL Hint->yO O),ZD3 P hi specs ops l all H K=some out->
 ∃a h rs hs C,K a h rs hs=some out/\a.length=all.length/\AllP C/\∀yK,∃RS,evD P ops l (TD.ers (lk H) all) (erH H) (hs++yK)=some (C,RS,TD.ers (lk h) a,erH h,yK)/\RecsOk RS rs
 |[],all,H,K,h=>⟨all,H,[],[],[],h,rfl,zP,λ_=>⟨[],rfl,.nil⟩⟩
 |o::r,all,H,K,h=>by
  unfold ZD3 at h
  have hgd:∀j want t,o.guard=some (j,want)->ZCD ops j=some t->(Ziw (looks ops o) 0 all).getD t .junk=all.getD t .junk:=by
   intro j want t hg hs;refine Zwn _ _ _ _ ?_;rw[Nat.zero_add];unfold looks;rw[hg];dsimp only;rw[show(ops[j]?).bind (·.dst)=some t from hs]
   simp
  obtain⟨a,d,H',hs,c,h1,h2⟩:=ZD2 ok hgd h;obtain⟨a',h',rs,hs',C',k1,k0,k2,k3⟩:=Zs9 ok r _ _ _ h1;obtain⟨C,g1,g2⟩:=h2.op;refine⟨a',h',_,_,C++C',k1,by rw[k0,Zwl,h2.len],Zj.2 ⟨g1,k2⟩,λyK=> ?_⟩;obtain⟨RS,e1,e2⟩:=k3 yK;unfold evD;rw[<-Zn9,yab,g2 (hs'++yK)];dsimp only;rw[<-h2.same, <-ZAm,e1]
  refine⟨_,rfl,.cons ⟨h2.cls _,rfl,λl hl=> ?_,ZG _,rfl,λhl=>ZHl hl,ZG _,λid hs=>by
   have hs:(c==3 || Ent.sameB ((erH H')[id]?) ((erH H)[id]?))=true:=hs;rw[ycg] at hs;rcases hs with h5|h5
   ·rw[h2.sam (by simpa using h5)]
   ·exact Ent.sameB_rd h5⟩ e2⟩
  exact ZJU hl
def ZD4(ops:Array Oper)(cls:yL Nat)(free comm:Nat->Nat->Bool):Bool:=
 let l:=ops.toList;let A:=ZGc l;let n:=l.length
 (cls.length==n)&&ZdT l 0&&
 ((yr n).all λi=>match l[i]? with|some o=>A.getD i 0==Zhy A i o|none=>true)&&
 ((yr n).all λi=>(yr n).all λj=>i==j || XM l i==none || !(XM l i==XM l j))&&
 ((yr n).all λi=>match l[i]? with
   |some o=>let k:=looks ops o
    (yr n).all λj=>match XM l j with
      |some t=>i==j || !(k.contains t) || (if j < i then(A.getD i 0).testBit j else(A.getD j 0).testBit i)
      |none=>true
   |none=>true)&&
 ((yr n).all λi=>cls.getD i 0==0 || (yr n).all λj=>i==j || decide (cls.getD j 0 < 2) || (if j < i then(A.getD i 0).testBit j else(A.getD j 0).testBit i) || (decide (cls.getD i 0<=1)&&free i j) || comm i j)
def ZHm(rs:yL TR)(i j:Nat):Bool:=
 match rs[i]?,rs[j]? with
 |some r,some q=>match r.rd with
  |some id=>decide (id < q.n)&&decide (id < r.n)&&((match q.tc with|some l=> !l.contains id|none=>false) || q.sm id)
  |none=>false
 |_,_=>false
def cT(rs:yL TR)(c:Nat)(r:TR):Bool:=r.loc || (r.push&&r.m==r.n+1&&(rs.take c).all λq=>decide (q.n<=r.n))
def cI(rs:yL TR):Nat:=match rs.findIdx? (λr=>r.loc&&r.cls==2) with
 |some c=>c
 |none=>(rs.findIdx? (λr=>r.push)).getD 0
def ZD5(rs:yL TR)(i j:Nat):Bool:=
 let c:=cI rs
 ((rs[c]?).map (cT rs c)).getD false&&((i==c&&decide (c < j)&&((rs[j]?).map (·.push)).getD false) || (j==c&&decide (c < i)&&((rs[i]?).map (·.push)).getD false))
theorem Zta{RS:yL Rec}{rs:yL TR}(h:RecsOk RS rs):RS.length=rs.length:=by
 induction h with
 |nil=>rfl
 |cons _ _ ih=>simp[ih]
theorem ZjM{RS:yL Rec}{rs:yL TR}(h:RecsOk RS rs):∀{i:Nat}{r:TR},rs[i]? =some r->∃R,RS[i]? =some R/\RecOk R r:=by
 induction h with
 |nil=>intro i r h;simp at h
 |cons h k ih=>
  intro i r hi
  cases i with
  |zero=>cases hi;exact⟨_,rfl,h⟩
  |succ i=>exact ih hi
theorem ZFq{RS:yL Rec}{rs:yL TR}(h:RecsOk RS rs):∀{i:Nat}{R:Rec},RS[i]? =some R->∃r,rs[i]? =some r/\RecOk R r:=by
 induction h with
 |nil=>intro i r h;simp at h
 |cons h k ih=>
  intro i r hi
  cases i with
  |zero=>cases hi;exact⟨_,rfl,h⟩
  |succ i=>exact ih hi
theorem ZAn{RS:yL Rec}{rs:yL TR}(h:RecsOk RS rs)(i:Nat):(RS.map (·.cls)).getD i 0<=(rs.map (·.cls)).getD i 0:=by
 simp only[ycx,yai]
 cases hi:rs[i]? with
 |none=>
  have:RS[i]? =none:=by rw[List.getElem?_eq_none_iff] at hi ⊢;rw[Zta h];exact hi
  rw[this]
  exact ym _
 |some r=>
  obtain⟨R,e,k⟩:=ZjM h hi;rw[e];exact k.1
theorem ZJV{ops:Array Oper}{RS:yL Rec}{rs:yL TR}(h:RecsOk RS rs)(k:ZD4 ops (rs.map (·.cls)) (ZHm rs) (ZD5 rs)=true)(hn:rs.length=ops.size):Zxa ops RS=true:=by
 unfold ZD4 at k;unfold Zxa;simp only[yj] at k ⊢;obtain⟨⟨⟨⟨⟨k1,k2⟩,k3⟩,k4⟩,k5⟩,k6⟩:=k;refine⟨⟨⟨⟨⟨?_,k2⟩,k3⟩,k4⟩,k5⟩, ?_⟩
 ·simpa[Zta h] using k1
 ·have hcm:∃c,c∈yr (ops.toList.length+1)/\∀i j,ZD5 rs i j=true->Zf1 RS c i j=true:=by
   have hget:∀(k:Nat),((rs[k]?).map (·.push)).getD false=true->((RS[k]?).map (·.push)).getD false=true:=by
    intro k hk
    cases hr:rs[k]? with
    |none=>rw[hr] at hk;cases hk
    |some r=>
     obtain⟨R,e1,e2⟩:=ZjM h hr;rw[hr] at hk;rw[e1];show R.push=true;rw[e2.2.2.2.2.1];exact hk
   refine⟨if cI rs < rs.length then cI rs else 0, ?_,λi j hij=> ?_⟩
   ·rw[List.mem_range];split
    ·rename_i hlt;rw[hn] at hlt;have:ops.toList.length=ops.size:=by simp
     omega
    ·omega
   ·unfold ZD5 at hij;dsimp only at hij;generalize cI rs=c at hij ⊢;rw[yj] at hij;obtain⟨h1,h2⟩:=hij
    cases hr:rs[c]? with
    |none=>rw[hr] at h1;cases h1
    |some r=>
     have hlt:=(yq.1 hr).1;rw[yW hlt];obtain⟨R,e1,e2⟩:=ZjM h hr;rw[hr] at h1;unfold Zf1;rw[yj];refine⟨?_, ?_⟩
     ·rw[e1];show cOk RS c R=true;have h1:cT rs c r=true:=h1;unfold cT at h1;unfold cOk;rw[ycg] at h1 ⊢;rcases h1 with h1|h1
      ·exact .inl (e2.2.2.2.2.2.1 h1)
      ·simp only[yj,yT,yba,yP] at h1 ⊢;obtain⟨⟨b1,b2⟩,b3⟩:=h1;refine .inr ⟨⟨by rw[e2.2.2.2.2.1];exact b1,by rw[e2.2.2.2.2.2.2.1,e2.2.2.2.1];exact b2⟩,λq hq=> ?_⟩;obtain⟨k,hk⟩:=List.mem_iff_getElem?.1 hq;rw[List.getElem?_take] at hk;split at hk
       ·rename_i hkc;obtain⟨q2,f1,f2⟩:=ZFq h hk;rw[f2.2.2.2.1,e2.2.2.2.1];refine b3 q2 (List.mem_iff_getElem?.2 ⟨k, ?_⟩);rw[List.getElem?_take,yW hkc];exact f1
       ·cases hk
     ·simp only[ycg,yj] at h2 ⊢;rcases h2 with⟨⟨a1,a2⟩,a3⟩|⟨⟨a1,a2⟩,a3⟩
      ·exact .inl ⟨⟨a1,a2⟩,hget _ a3⟩
      ·exact .inr ⟨⟨a1,a2⟩,hget _ a3⟩
  obtain⟨c,hc1,hc2⟩:=hcm;rw[List.any_eq_true];refine⟨c,hc1, ?_⟩;rw[yba] at k6 ⊢;intro i hi;have:=k6 i hi;have hc:=ZAn h i;simp only[ycg] at this ⊢;rcases this with h0|h1
  ·left;have h0:(rs.map (·.cls)).getD i 0=0:=by simpa using h0
   have:(RS.map (·.cls)).getD i 0=0:=by omega
   simpa using this
  ·by_cases hz:(RS.map (·.cls)).getD i 0=0
   ·left;simpa using hz
   ·right;rw[yba] at h1 ⊢;intro j hj;have h2:=h1 j hj;have hd:=ZAn h j;simp only[ycg,yj,yP] at h2 ⊢;rcases h2 with(((h2|h2)|h2)|h2)|h2
    ·exact .inl (.inl (.inl (.inl h2)))
    ·refine .inl (.inl (.inl (.inr ?_)));have:(RS.map (·.cls)).getD j 0≠2:=by omega
     simpa using this
    ·exact .inl (.inl (.inr h2))
    ·refine .inl (.inr ⟨?_, ?_⟩)
     ·have:(RS.map (·.cls)).getD i 0=1:=by omega
      simpa using this
     ·have hf:=h2.2;unfold ZHm at hf;unfold Zjw;split at hf
      ·rename_i r q hr hq;obtain⟨R,e1,e2⟩:=ZjM h hr;obtain⟨Q,e3,e4⟩:=ZjM h hq;rw[e1,e3];dsimp only;split at hf
       ·rename_i id hrd;rw[e2.2.1,hrd];dsimp only;rw[e4.2.2.2.1,e2.2.2.2.1];rw[yj] at hf ⊢;refine⟨hf.1, ?_⟩;rw[ycg] at hf ⊢;rcases hf.2 with h5|h5
        ·left;split at h5
         ·rename_i l htc;rw[e4.2.2.1 l htc];exact h5
         ·cases h5
        ·right;exact@decide_eq_true _ (Classical.propDecidable _) (e4.2.2.2.2.2.2.2 id h5)
       ·cases hf
      ·cases hf
    ·exact .inr (hc2 i j h2)
theorem ZCF{A B:yL Ent}(hl:A.length=B.length)(h:∀(i:Nat)(a b:Ent),A[i]? =some a->B[i]? =some b->WkE a b):WkH A B:=by
 induction A generalizing B with
 |nil=>cases B with
  |nil=>exact .nil
  |cons _ _=>simp at hl
 |cons a A ih=>cases B with
  |nil=>simp at hl
  |cons b B=>exact .cons (h 0 a b rfl rfl) (ih (by simpa using hl) λi a b h1 h2=>h (i+1) a b h1 h2)
def ZHn:TEnt->TEnt
 |.var d _=>.var d false
 |e=>e
def ZpB(ids:yL Nat)(H:yL TEnt):yL TEnt:=(yr H.length).zipWith (λi e=>if ids.contains i then ZHn e else e) H
theorem ZJW(e:TEnt):lkE (some (ZHn e))=lkE (some e):=by cases e <;> rfl
theorem Ztb(ids:yL Nat)(H:yL TEnt)(i:Nat):(ZpB ids H)[i]? =(H[i]?).map λe=>if ids.contains i then ZHn e else e:=by
 unfold ZpB;rw[List.getElem?_zipWith];rcases Nat.lt_or_ge i H.length with h|h
 ·rw[List.getElem?_range h,yac h];rfl
 ·rw[yan (by simpa using h),yan h];rfl
theorem Zwp(ids:yL Nat)(H:yL TEnt):lk (ZpB ids H)=lk H:=by
 funext i;unfold lk;rw[Ztb]
 cases H[i]? with
 |none=>rfl
 |some e=>
  show lkE (some (if ids.contains i=true then ZHn e else e))=_
  split
  ·exact ZJW e
  ·rfl
theorem ZFr(ids:yL Nat)(H:yL TEnt):WkH (erH H) (erH (ZpB ids H)):=by
 refine ZCF (by rw[ZG,ZG];unfold ZpB;simp) λi a b h1 h2=> ?_;unfold erH at h1 h2;rw[yai] at h1 h2;rw[Zwp,Ztb] at h2
 cases he:H[i]? with
 |none=>rw[he] at h1;cases h1
 |some e=>
  rw[he] at h1 h2;cases h1;cases h2;show WkE (e.er (lk H)) (TEnt.er (lk H) (if ids.contains i=true then ZHn e else e))
  split
  ·cases e <;> first|exact .refl _|exact .frz
  ·exact .refl _
theorem ZHo{c:Code}{ts ts1:yL Dv}{H0 H1 H2:yL Ent}{ex:Ex}(h:WkH H0 H1)(r:XR P c ts H1 ex ts1 H2):XR P c ts H0 ex ts1 H2:=by
 intro σ a ok hH yM;obtain⟨to,ok2⟩:=ZlP ok (H':=H1) (by rw[hH];exact h);refine wp_mono (r { σ with H:=H1} a ok2 rfl (yM.to to.leaf)) ?_;rintro e a' w' ⟨rfl,σ2,q1,q2,q3,q4,q5⟩;exact⟨rfl,σ2,q1,q2,to.trans q3,q4,q5⟩
def ZHp(ops:yL Oper)(all:yL TD):Nat->Tmp->yO Nat
 |0,_=>none
 |n+1,x=>match ops.find? λo=>o.dst==some x with
  |some o=>match o.op with
   |.fieldAddr _ (.tmp y) _=>ZHp ops all n y
   |_=>none
  |none=>match all.getD x .junk with
   |.ref id _=>some id
   |_=>none
def ZNk(hi:HI)(ops:yL Oper)(all:yL TD)(o:Oper):yO Nat:=
 match o.op with
 |.slice _ (.tmp x) _ _ none=>if Zm5 hi.frz o.dst then ZHp ops all 4 x else none
 |_=>none
def Ztc(hi:HI)(ops:Array Oper)(all:yL TD)(H:yL TEnt):yL TEnt:=
 match hi.frz with
 |[]=>H
 |_=>match ops.toList.filterMap (ZNk hi ops.toList all) with
  |[]=>H
  |ids=>ZpB ids H
theorem ZFs(hi:HI)(ops:Array Oper)(all:yL TD)(H:yL TEnt):WkH (erH H) (erH (Ztc hi ops all H))/\lk (Ztc hi ops all H)=lk H:=by
 unfold Ztc;split
 ·exact⟨WkH.refl _,rfl⟩
 ·split
  ·exact⟨WkH.refl _,rfl⟩
  ·exact⟨ZFr _ _,Zwp _ _⟩
def ZL0(P:yg)(hi:HI)(specs:Sp P)(ops:Array Oper)(all:yL TD)(H:yL TEnt)(K:yL TD->yL TEnt->yO O):yO O:=
 if P.follows .mixedOrders then ZD3 P hi specs ops ops.toList all (Ztc hi ops all H) λa h rs _=>if ZD4 ops (rs.map (·.cls)) (ZHm rs) (ZD5 rs)=true then K a h else none else none
theorem ZFt{hi:HI}{specs:Sp P}{ops:Array Oper}{K:yL TD->yL TEnt->yO O}(ok:SpOk specs)(h:ZL0 P hi specs ops all H K=some out):∃a h,K a h=some out/\a.length=all.length/\∀id,XR P (.region id ops true) (TD.ers (lk H) all) (erH H) .normal (TD.ers (lk h) a) (erH h):=by
 unfold ZL0 at h;split at h
 ·rename_i hf;obtain⟨w1,w2⟩:=ZFs hi ops all H;generalize Ztc hi ops all H=H0 at h w1 w2;obtain⟨a,h',rs,hs,C,k1,k0,k2,k3⟩:=Zs9 ok _ _ _ _ h;obtain⟨k4,k5⟩:=Za k1;refine⟨a,h',k5,k0,λid=> ?_⟩;obtain⟨RS,e1,e2⟩:=k3 [];rw[<-w2];refine ZHo w1 (ZmS (hs:=hs) (hs':=[]) (C:=C) ?_ k2);simp only[ev,if_true];unfold Zxb;rw[yW hf];rw[yar] at e1;rw[e1];dsimp only;rw[yW (ZJV e2 k4 (by have:=Zta e2;unfold ZD4 at k4;simp only[yj] at k4;simpa using k4.1.1.1.1.1))];rfl
 ·cases h
theorem ZFu{hi:HI}{specs:Sp P}{ops:Array Oper}{K:yL TD->yL TEnt->yL Hint->yO O}(ok:SpOk specs)(h:ZHk P hi specs ops ops.toList all H K=some out):∃a h hs,K a h hs=some out/\a.length=all.length/\∀id,XR P (.region id ops false) (TD.ers (lk H) all) (erH H) .normal (TD.ers (lk h) a) (erH h):=by
 obtain⟨a,h',hs,C,k1,k0,k2,k3⟩:=Zwm ok _ _ _ _ h;refine⟨a,h',hs,k1,k0,λid=> ?_⟩;refine ZmS (hs:=hs) (hs':=[]) (C:=C) ?_ k2;have:=k3 [];rw[yar] at this;simp only[ev,yby,if_false,this];rfl
end
end Go.Ev
end
