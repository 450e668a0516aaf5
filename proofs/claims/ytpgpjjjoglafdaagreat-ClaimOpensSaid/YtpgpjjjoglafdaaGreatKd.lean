/- Parts of the proof, in one file. -/
import Derived.Test.YtpgpjjjoglafdaaGreatKc
open Bool renaming and_eq_true → yj, false_eq_true → ybw, or_eq_true → ycd
open Go renaming TypeId → yc, Program → yg, Operand → yn, FuncId → yu
open List renaming length_append → yo, getElem?_eq_some_iff → yq, range → yr, replicate → yv, nil_append → yx, length_map → yy, getElem?_eq_getElem → yz, cons_append → yab, append_assoc → yac, map_cons → yad, length_cons → yah, map_append → yai, getElem?_map → yaj, take_length → yak, getElem?_append_left → yal, append_nil → yar, map_map → yas, getElem?_eq_none → yat, all_eq_true → yba, getElem?_cons_zero → ybd, map_set → ybm, map_take → ycg, map_congr_left → ycn, length_nil → yco, length_replicate → yct, getElem?_set_self → ycw, getD_eq_getElem?_getD → ycz
open Nat renaming le_refl → ym
open Option renaming bind_some → ya, bind_eq_some_iff → yf, map_eq_some_iff → yp, map_some → yaa
set_option linter.unusedVariables false
set_option linter.unusedSimpArgs false
section
namespace Go.Ev
mutual
theorem ZkW{L M:Lk}(h:∀id t,ZW L id t none=ZW M id t none):∀(d:TD),d.er L=d.er M
 |.p _=>rfl
 |.elem _=>rfl
 |.ref _ _=>rfl
 |.own id nn t c=>by
  cases c with
  |none=>rw[TD.er,TD.er,h]
  |some _=>rfl
 |.view _ _ _ _ _=>rfl
 |.agg xs=>by rw[TD.er,TD.er,ers_cont h xs]
 |.arr _ _ xs=>by rw[TD.er,TD.er,ers_cont h xs]
 |.fn _ xs=>by rw[TD.er,TD.er,ers_cont h xs]
 |.iface _ x=>by rw[TD.er,TD.er,ZkW h x]
 |.tup xs=>by rw[TD.er,TD.er,ers_cont h xs]
 |.mp _=>rfl
 |.rv _ _ _ _ _=>rfl
 |.rref _ _ _=>rfl
 |.rw _=>by simp only[TD.er,Zax,h]
 |.rp _ _=>by simp only[TD.er,Zax,h]
 |.junk=>rfl
theorem ers_cont{L M:Lk}(h:∀id t,ZW L id t none=ZW M id t none):∀(ds:yL TD),TD.ers L ds=TD.ers M ds
 |[]=>rfl
 |x::r=>by rw[TD.ers,TD.ers,ZkW h x,ers_cont h r]
end
theorem ZEe{L M:Lk}(h:∀id t,ZW L id t none=ZW M id t none)(e:TEnt):e.er L=e.er M:=by
 cases e with
 |var d st=>rw[TEnt.er,TEnt.er,ZkW h]
 |row v s st e d=>rw[TEnt.er,TEnt.er,ZkW h]
 |rowM t np v st e pre mid post=>rw[TEnt.er,TEnt.er,ZkW h]
 |_=>rfl
mutual
def TD.free(n:Nat):TD->Bool
 |.own id _ _ c=>c.isSome || id !=n
 |.rw id=>id !=n
 |.rp id _=>id !=n
 |.agg xs=>TD.frees n xs
 |.arr _ _ xs=>TD.frees n xs
 |.fn _ xs=>TD.frees n xs
 |.iface _ x=>TD.free n x
 |.tup xs=>TD.frees n xs
 |_=>true
def TD.frees(n:Nat):yL TD->Bool
 |[]=>true
 |x::r=>TD.free n x&&TD.frees n r
end
def TEnt.free(n:Nat):TEnt->Bool
 |.var d _=>d.free n
 |.row _ _ _ _ d=>d.free n
 |.rowM _ _ _ _ _ _ d _=>d.free n
 |_=>true
mutual
theorem Zb5{L M:Lk}{n:Nat}(h:∀id t,id≠n->ZW L id t none=ZW M id t none):∀(d:TD),d.free n=true->d.er L=d.er M
 |.p _,_=>rfl
 |.elem _,_=>rfl
 |.ref _ _,_=>rfl
 |.own id nn t c,hf=>by
  cases c with
  |none=>
   have:id≠n:=by simpa[TD.free] using hf
   rw[TD.er,TD.er,h id t this]
  |some _=>rfl
 |.view _ _ _ _ _,_=>rfl
 |.agg xs,hf=>by rw[TD.er,TD.er,ers_free h xs hf]
 |.arr _ _ xs,hf=>by rw[TD.er,TD.er,ers_free h xs hf]
 |.fn _ xs,hf=>by rw[TD.er,TD.er,ers_free h xs hf]
 |.iface _ x,hf=>by rw[TD.er,TD.er,Zb5 h x hf]
 |.tup xs,hf=>by rw[TD.er,TD.er,ers_free h xs hf]
 |.mp _,_=>rfl
 |.rv _ _ _ _ _,_=>rfl
 |.rref _ _ _,_=>rfl
 |.rw id,hf=>by
  have:id≠n:=by simpa[TD.free] using hf
  simp only[TD.er,Zax,h id _ this]
 |.rp id _,hf=>by
  have:id≠n:=by simpa[TD.free] using hf
  simp only[TD.er,Zax,h id _ this]
 |.junk,_=>rfl
theorem ers_free{L M:Lk}{n:Nat}(h:∀id t,id≠n->ZW L id t none=ZW M id t none):∀(ds:yL TD),TD.frees n ds=true->TD.ers L ds=TD.ers M ds
 |[],_=>rfl
 |x::r,hf=>by
  simp only[TD.frees,yj] at hf;rw[TD.ers,TD.ers,Zb5 h x hf.1,ers_free h r hf.2]
end
mutual
def TD.stale(L:Lk)(n:Nat):TD->TD
 |.own id nn t c=>if id=n then .own id nn t (some (ZW L id t c)) else .own id nn t c
 |.agg xs=>.agg (TD.stales L n xs)
 |.arr m s xs=>.arr m s (TD.stales L n xs)
 |.fn f xs=>.fn f (TD.stales L n xs)
 |.iface t x=>.iface t (TD.stale L n x)
 |.tup xs=>.tup (TD.stales L n xs)
 |.p x=>.p x
 |.elem x=>.elem x
 |.ref id yQ=>.ref id yQ
 |.view id yQ s lo n=>.view id yQ s lo n
 |.mp id=>.mp id
 |.rv id v s lo n=>.rv id v s lo n
 |.rref id v yQ=>.rref id v yQ
 |.rw id=>if id=n then .rv id (Zax L id 0) (Zax L id 1) 0 (Zax L id 2) else .rw id
 |.rp id yQ=>if id=n then .rref id (Zax L id 0) yQ else .rp id yQ
 |.junk=>.junk
def TD.stales(L:Lk)(n:Nat):yL TD->yL TD
 |[]=>[]
 |x::r=>TD.stale L n x::TD.stales L n r
end
def TEnt.stale(L:Lk)(n:Nat):TEnt->TEnt
 |.var d st=>.var (d.stale L n) st
 |.row v s st e d=>.row v s st e (d.stale L n)
 |.rowM t np v st e pre d post=>.rowM t np v st e pre (d.stale L n) post
 |e=>e
mutual
theorem ZgY{L M:Lk}{n:Nat}(h:∀id t,id≠n->ZW L id t none=ZW M id t none):∀(d:TD),(d.stale L n).er M=d.er L
 |.p _=>rfl
 |.elem _=>rfl
 |.ref _ _=>rfl
 |.own id nn t c=>by
  rw[TD.stale];split
  ·rfl
  ·rename_i hn
   cases c with
   |none=>rw[TD.er,TD.er,h id t hn]
   |some _=>rfl
 |.view _ _ _ _ _=>rfl
 |.agg xs=>by rw[TD.stale,TD.er,TD.er,ers_stale h xs]
 |.arr _ _ xs=>by rw[TD.stale,TD.er,TD.er,ers_stale h xs]
 |.fn _ xs=>by rw[TD.stale,TD.er,TD.er,ers_stale h xs]
 |.iface _ x=>by rw[TD.stale,TD.er,TD.er,ZgY h x]
 |.tup xs=>by rw[TD.stale,TD.er,TD.er,ers_stale h xs]
 |.mp _=>rfl
 |.rv _ _ _ _ _=>rfl
 |.rref _ _ _=>rfl
 |.rw id=>by
  rw[TD.stale];split
  ·rfl
  ·rename_i hn
   simp only[TD.er,Zax,h id _ hn]
 |.rp id _=>by
  rw[TD.stale];split
  ·rfl
  ·rename_i hn
   simp only[TD.er,Zax,h id _ hn]
 |.junk=>rfl
theorem ers_stale{L M:Lk}{n:Nat}(h:∀id t,id≠n->ZW L id t none=ZW M id t none):∀(ds:yL TD),TD.ers M (TD.stales L n ds)=TD.ers L ds
 |[]=>rfl
 |x::r=>by rw[TD.stales,TD.ers,TD.ers,ZgY h x,ers_stale h r]
end
theorem Zia{L M:Lk}{n:Nat}(h:∀id t,id≠n->ZW L id t none=ZW M id t none)(e:TEnt):(e.stale L n).er M=e.er L:=by
 cases e with
 |var d st=>rw[TEnt.stale,TEnt.er,TEnt.er,ZgY h]
 |row v s st e d=>rw[TEnt.stale,TEnt.er,TEnt.er,ZgY h]
 |rowM t np v st e pre d post=>rw[TEnt.stale,TEnt.er,TEnt.er,ZgY h]
 |_=>rfl
def TEnt.isLog:TEnt->Bool
 |.log _ _ _=>true
 |.rowT _ _ _ _ _=>true
 |.rowN _ _ _ _ _ _ _=>true
 |.rowM _ _ _ _ _ _ _ _=>true
 |_=>false
theorem Zzv{e:TEnt}(h:e.isLog=false):lkE (some e)=none:=by
 cases e <;> first|rfl|cases h
theorem Q4{H:yL TEnt}{e:TEnt}(h:e.isLog=false):lk (H++[e])=lk H:=by
 funext id;unfold lk;rcases Nat.lt_trichotomy id H.length with hl|hl|hl
 ·rw[yal hl]
 ·subst hl;rw[List.getElem?_concat_length,Zzv h,yat (ym _)];rfl
 ·rw[yat (by simp;omega),yat (by omega)]
theorem WM{H:yL TEnt}{id:Nat}{e x:TEnt}(hx:H[id]? =some x)(h1:x.isLog=false)(h2:e.isLog=false):lk (H.set id e)=lk H:=by
 funext j;unfold lk;by_cases hj:id=j
 ·subst hj;rw[getElem?_set_eq' hx,hx,Zzv h1,Zzv h2]
 ·rw[getElem?_set_ne' hj]
theorem Q5{H:yL TEnt}{e:TEnt}(h:lk (H++[e])=lk H):erH (H++[e])=erH H++[e.er (lk H)]:=by
 unfold erH;rw[h,yai];rfl
theorem Xf{H:yL TEnt}{id:Nat}{e:TEnt}(h:lk (H.set id e)=lk H):erH (H.set id e)=(erH H).set id (e.er (lk H)):=by
 unfold erH;rw[h,ybm]
theorem ZkX{H:yL TEnt}{T:Ty}{e:yc}(id:Nat)(t:Ty):ZW (lk H) id t none=ZW (lk (H++[.log T e []])) id t none:=by
 unfold ZW lk;dsimp only;rcases Nat.lt_trichotomy id H.length with hl|hl|hl
 ·rw[yal hl]
 ·subst hl;rw[List.getElem?_concat_length,yat (ym _)];show[]=(Ty.castL T t []).getD []
  cases h:Ty.castL T t [] with
  |none=>rfl
  |some y=>
   obtain⟨e,h2⟩:=Zu h;subst e;subst h2;rfl
 ·rw[yat (by omega),yat (by simp;omega)]
theorem ZuE{H:yL TEnt}{T:Ty}{e:yc}:erH (H++[.log T e []])=erH H++[.log T.size e []]:=by
 unfold erH;rw[yai];congr 1;exact ycn λx _=>(ZEe (λid t=>ZkX id t) x).symm
theorem Zbm{H:yL TEnt}{e:TEnt}(id:Nat)(t:Ty)(h:id≠H.length):ZW (lk H) id t none=ZW (lk (H++[e])) id t none:=by
 unfold ZW lk;dsimp only;rcases Nat.lt_or_gt_of_ne h with hl|hl
 ·rw[yal hl]
 ·rw[yat (by omega),yat (by simp;omega)]
theorem ZA4{H:yL TEnt}{T:Ty}{e:yc}{l:yL T.den}(h:H.all (TEnt.free H.length)=true):erH (H++[.log T e l])=erH H++[.log T.size e (l.map T.enc)]:=by
 unfold erH;rw[yai];congr 1;refine ycn λx hx=> ?_
 cases x with
 |var d st=>
  rw[TEnt.er,TEnt.er];congr 1
  exact(Zb5 (λid t hn=>Zbm id t hn) d (yba.1 h _ hx)).symm
 |row v s st e d=>
  rw[TEnt.er,TEnt.er];congr 1
  exact(Zb5 (λid t hn=>Zbm id t hn) d (yba.1 h _ hx)).symm
 |rowM t np v st e pre d post=>
  rw[TEnt.er,TEnt.er,Zb5 (λid t hn=>Zbm id t hn) d (yba.1 h _ hx)]
 |_=>rfl
theorem QK{H:yL TEnt}{n:Nat}{e:TEnt}(L:Lk)(id:Nat)(t:Ty)(h:id≠n):ZW (lk H) id t none=ZW (lk ((H.map (TEnt.stale L n)).set n e)) id t none:=by
 have h1:lk ((H.map (TEnt.stale L n)).set n e) id=lk H id:=by
  unfold lk;rw[getElem?_set_ne' (Ne.symm h),yaj]
  cases H[id]? with
  |none=>rfl
  |some x=>cases x <;> rfl
 unfold ZW;rw[h1]
theorem ZEf{H:yL TEnt}{n:Nat}{T:Ty}{e:yc}{l:yL T.den}:erH ((H.map (TEnt.stale (lk H) n)).set n (.log T e l))=(erH H).set n (.log T.size e (l.map T.enc)):=by
 unfold erH;rw[ybm,yas];congr 1;refine ycn λx hx=> ?_;exact Zia (λid t hn=>QK (lk H) id t hn) x
def TP.isV:TP->yO (Σ t:Ty,t.den)
 |.v t x=>some ⟨t,x⟩
 |_=>none
def TP.setF:TP->Nat->TP->yO TP
 |.v (.st fs) x,i,z=>match z.isV with
  |some q=>(Ty.upd fs x i q.1 q.2).map (.v (.st fs))
  |none=>some (.agg ((Ty.flds fs x).set i z))
 |.agg l,i,z=>some (.agg (l.set i z))
 |_,_,_=>none
theorem ZG0{x y z:TP}{i:Nat}(h:x.setF i z=some y):∀xs,x.pe=.agg xs->y.pe=.agg (xs.set i z.pe):=by
 cases x with
 |v u a=>
  cases u with
  |st fs=>
   intro xs hx;have hx':Pl.agg (Ty.encs fs a)=.agg xs:=hx;injection hx' with hx';subst hx';simp only[TP.setF] at h;split at h
   ·rename_i q hq;obtain⟨x',h1,rfl⟩:=Zb h
    have hz:z=.v q.1 q.2:=by
     unfold TP.isV at hq;split at hq
     ·cases hq;rfl
     ·cases hq
    show Pl.agg (Ty.encs fs x')=_;rw[ZAT fs a i q.1 q.2 x' h1,hz];rfl
   ·cases h;show Pl.agg (TP.pes ((Ty.flds fs a).set i z))=_;rw[Za2,ybm, <-Za2]
    exact congrArg (λl=>Pl.agg (l.set i z.pe)) (Zup fs a)
  |_=>cases h
 |agg l=>
  intro xs hx;cases h;rw[TP.pe] at hx;injection hx with hx;subst hx
  rw[TP.pe,Za2,Za2,ybm]
 |_=>cases h
def ZKs(x:Pl)(i o:Nat):Bool:=
 match x with
 |.agg xs=>o==Pl.sizes (xs.take i)
 |_=>false
def ZIg(x:TP)(i:Nat):TD->yO TD
 |.p y=>(x.setF i y).map .p
 |d=>x.parts.map λl=>.agg ((l.map .p).set i d)
def ZIh(a:ARow)(i:Nat):TD->yO TD
 |.p z=>(TP.to ZgW z a.t).map λy'=>.p (.v (.arr a.n a.t) (a.l.set i y'))
 |d=>some (.arr a.n a.t.size ((a.l.map λy=>TD.p (.v a.t y)).set i d))
theorem ZI7{L:Lk}(l:yL TP):TD.ers L (l.map .p)=(TP.pes l).map .p:=by
 rw[ZB,Za2,yas,yas];rfl
abbrev Kg(O:Type):=TD->yL Hint->(TD->yO TD)->yO O
def gpT{O:Type}(L:Lk):yL Stp->TD->Kg O->yO O
 |[],d,K=>K d [] some
 |.fld i o::r,.p x,K=>(x.fld i).bind λz=>if ZKs x.pe i o=true then gpT L r (.p z) λsub hs put=>K sub hs λnew=>(put new).bind λd=>ZIg x i d else none
 |.ix i s::r,.p x,K=>x.arow.bind λa=>if s=a.t.size then(a.l[i]?).bind λy=>gpT L r (.p (.v a.t y)) λsub hs put=>K sub (.el (a.t.enc y)::hs) λnew=>
   (put new).bind λd=>ZIh a i d else none
 |.fld i o::r,.agg ds,K=>(ds[i]?).bind λz=>if o=Dv.sizes ((TD.ers L ds).take i) then gpT L r z λsub hs put=>K sub hs λnew=>(put new).map λy=>.agg (ds.set i y) else none
 |.ix i s::r,.arr n s' ds,K=>(ds[i]?).bind λz=>if s=s' then gpT L r z λsub hs put=>K sub hs λnew=>(put new).map λy=>.arr n s' (ds.set i y) else none
 |_,_,_=>none
def Zb6:yL Stp->Nat
 |[]=>0
 |q::r=>q.o+Zb6 r
theorem XT(l:yL Stp):Wg l=Zb6 l:=by
 have:∀(l:yL Stp)(n:Nat),l.foldl (λn q=>n+q.o) n=n+Zb6 l:=by
  intro l
  induction l with
  |nil=>intro n;rfl
  |cons q r ih=>intro n;rw[List.foldl_cons,ih,Zb6];omega
 rw[Wg,this];omega
theorem XJ{O:Type}{L:Lk}:∀(yQ:yL Stp)(d:TD)(K:Kg O)(out:O),gpT L yQ d K=some out->
 ∃sub hs put C,K sub hs put=some out/\AllP C/\(∀yK,Z7 (d.er L) (yQ.map Stp.i) (hs++yK)=some (C,Zb6 yQ,sub.er L,yK))/\
  ∀new d',put new=some d'->∀yK,Wl (new.er L) (d.er L) (yQ.map Stp.i) (hs++yK)=some (d'.er L)
 |[],d,K,out,h=>⟨d,[],some,[],h,zP,λ_=>rfl,λnew d' h _=>by cases h;rfl⟩
 |q::r,d,K,out,h=>by
  cases q with
  |fld i o=>
   cases d with
   |p x=>
    simp only[gpT] at h;obtain⟨z,h1,h⟩:=yf.1 h;obtain⟨h2,h⟩:=Za h;obtain⟨sub,hs,put,C,k1,k2,k3,k4⟩:=XJ r (.p z) _ out h;obtain⟨xs,e1,e2⟩:=ZDW h1
    have h3:o=Pl.sizes (xs.take i):=by
     unfold ZKs at h2;rw[e1] at h2;simpa using h2
    refine⟨sub,hs,_,C,k1,k2,λyK=> ?_,λnew d' hp yK=> ?_⟩
    ·rw[TD.er,e1];show Z7 (.p (.agg xs)) (i::r.map Stp.i) (hs++yK)=_;unfold Z7;rw[e2];dsimp only;have:=k3 yK;rw[TD.er] at this;rw[this,yaa,Zb6,h3];rfl
    ·obtain⟨d1,p1,hp⟩:=yf.1 hp;have:=k4 new d1 p1 yK;unfold ZIg at hp;rw[TD.er] at this;rw[TD.er,e1];show Wl (new.er L) (.p (.agg xs)) (i::r.map Stp.i) (hs++yK)=_;unfold Wl;rw[e2];dsimp only;rw[this];split at hp
     ·obtain⟨x',p3,rfl⟩:=Zb hp;rw[TD.er,TD.er,ZG0 p3 xs e1]
     ·rename_i hne;obtain⟨l,p3,rfl⟩:=Zb hp
      have e3:TP.pes l=xs:=by
       have:=ZwV p3;rw[e1] at this;injection this with this;exact this.symm
      rw[TD.er,ZB,ybm, <-ZB,ZI7,e3]
      cases d1 <;> first|rfl|exact absurd rfl (hne _)
   |agg ds=>
    simp only[gpT] at h;obtain⟨z,h1,h⟩:=yf.1 h;split at h
    ·rename_i h2;obtain⟨sub,hs,put,C,k1,k2,k3,k4⟩:=XJ r z _ out h;refine⟨sub,hs,_,C,k1,k2,λyK=> ?_,λnew d' hp yK=> ?_⟩
     ·rw[TD.er];show Z7 (.agg (TD.ers L ds)) (i::r.map Stp.i) (hs++yK)=_;unfold Z7;rw[ZdP h1];dsimp only;rw[k3 yK,yaa,Zb6,h2];rfl
     ·obtain⟨y,p1,rfl⟩:=Zb hp;rw[TD.er];show Wl (new.er L) (.agg (TD.ers L ds)) (i::r.map Stp.i) (hs++yK)=_;unfold Wl;rw[ZdP h1];dsimp only;rw[k4 new y p1 yK,yaa,TD.er,ZB,ZB,ybm]
    ·cases h
   |_=>cases h
  |ix i s=>
   cases d with
   |p x=>
    simp only[gpT] at h;obtain⟨a,h1,h⟩:=yf.1 h;split at h
    ·rename_i hs0;obtain⟨y,h2,h⟩:=yf.1 h;obtain⟨sub,hs,put,C,k1,k2,k3,k4⟩:=XJ r (.p (.v a.t y)) _ out h;refine⟨sub,_,_,((a.l.map a.t.enc)[i]? =some (a.t.enc y))::C,k1,⟨ZkQ h2,k2⟩,λyK=> ?_,λnew d' hp yK=> ?_⟩
     ·rw[TD.er,Vf h1];show Z7 (.p (.arr a.n a.t.size _)) (i::r.map Stp.i) (_::(hs++yK))=_;unfold Z7;dsimp only;have:=k3 yK;rw[TD.er,TP.pe] at this;rw[this,yaa,Zb6,hs0];rfl
     ·obtain⟨d1,p1,hp⟩:=yf.1 hp;have:=k4 new d1 p1 yK;unfold ZIh at hp;rw[TD.er,TP.pe] at this;rw[TD.er,Vf h1];show Wl (new.er L) (.p (.arr a.n a.t.size _)) (i::r.map Stp.i) (_::(hs++yK))=_;unfold Wl;dsimp only;rw[this];split at hp
      ·rename_i z;obtain⟨y',p3,rfl⟩:=Zb hp;rw[TD.er];dsimp only;rw[Zb4 z a.t y' p3, <-ybm];rfl
      ·rename_i hne;cases hp;rw[TD.er,ZB,ybm,yas,yas];cases d1 <;> first|rfl|exact absurd rfl (hne _)
    ·cases h
   |arr n s' ds=>
    simp only[gpT] at h;obtain⟨z,h1,h⟩:=yf.1 h;split at h
    ·rename_i h2;obtain⟨sub,hs,put,C,k1,k2,k3,k4⟩:=XJ r z _ out h;refine⟨sub,hs,_,C,k1,k2,λyK=> ?_,λnew d' hp yK=> ?_⟩
     ·rw[TD.er];show Z7 (.arr n s' (TD.ers L ds)) (i::r.map Stp.i) (hs++yK)=_;unfold Z7;rw[ZdP h1];dsimp only;rw[k3 yK,yaa,Zb6, <-h2];rfl
     ·obtain⟨y,p1,rfl⟩:=Zb hp;rw[TD.er];show Wl (new.er L) (.arr n s' (TD.ers L ds)) (i::r.map Stp.i) (hs++yK)=_;unfold Wl;rw[ZdP h1];dsimp only;rw[k4 new y p1 yK,yaa,TD.er,ZB,ZB,ybm]
    ·cases h
   |_=>cases h
theorem Zaz{H:yL TEnt}{id:Nat}{T:Ty}{v:yL Unit}{st:Bool}{e:yc}{l:yL T.den}(hd:H[id]? =some (.rowT T v st e l)):(TD.rw id).er (lk H)=.rv id v.length T.size 0 l.length/\
 ∀yQ,(TD.rp id yQ).er (lk H)=.rref id v.length (Wg yQ) (yQ.map Stp.i):=by
 have h:ZW (lk H) id (.sl (.st [])) none=([v,yv T.size (),yv l.length ()]:yL (yL Unit)):=by
  unfold ZW lk;dsimp only;rw[hd];rfl
 refine⟨?_,λyQ=> ?_⟩
 ·rw[TD.er];unfold Zax;rw[h];show Dv.rv id v.length (yv T.size ()).length 0 (yv l.length ()).length=_;rw[yct,yct]
 ·rw[TD.er];unfold Zax;rw[h];rfl
abbrev Kn(O:Type):=yL TD->TD->yL TEnt->yL Hint->Nat->yO O
def GoodR(P:yg)(o:Oper)(ts:yL TD)(H:yL TEnt)(d:TD)(hs:yL Hint):Prop:=
 (∀yK,evN P o (TD.ers (lk H) ts) (hs++yK)=none)/\∃C,AllP C/\∀yK,evR P o (TD.ers (lk H) ts) (erH H) (hs++yK)=some (C,d.er (lk H),yK)
def GoodE(P:yg)(o:Oper)(ts:yL TD)(H:yL TEnt)(d:TD)(H':yL TEnt)(hs:yL Hint):Prop:=
 (∀yK,evN P o (TD.ers (lk H) ts) (hs++yK)=none)/\(∀yK,evR P o (TD.ers (lk H) ts) (erH H) (hs++yK)=none)/\
   ∃C,AllP C/\∀yK,evE P o (TD.ers (lk H) ts) (erH H) (hs++yK)=some (C,d.er (lk H'),erH H',yK)
theorem or3{a b c d:Prop}(h:c):a\/b\/c\/d:=.inr (.inr (.inl h))
structure Good(P:yg)(o:Oper)(ts all:List TD)(H:List TEnt)(all':List TD)(d:TD)(H':List TEnt)(hs:List Hint)(cls:Nat):Prop where
 same:TD.ers (lk H') all'=TD.ers (lk H) all
 len:all'.length=all.length
 op:(cls=0/\H'=H/\GoodN (lk H) P o ts d hs)\/(cls=1/\H'=H/\GoodR P o ts H d hs)\/(cls=2/\GoodE P o ts H d H' hs)\/(cls=3/\erH H'=erH H/\GoodE P o ts H d H' hs)
section
variable{P:yg}{o:Oper}{ts all:yL TD}{H:yL TEnt}{O:Type}{K:Kn O}{out:O}
def ZnA(H:yL TEnt)(id:Nat):yO TD:=
 match H[id]? with
 |some (.var d _)=>some d
 |_=>none
theorem ZcO{id:Nat}{d:TD}(h:ZnA H id=some d):∃st,H[id]? =some (.var d st)/\(erH H)[id]? =some (.var (d.er (lk H)) st):=by
 unfold ZnA at h;split at h
 ·rename_i d' st hd;cases h;exact⟨st,hd,Z2 hd⟩
 ·cases h
def Zzw(H:yL TEnt)(id v:Nat):yO TD:=
 match H[id]? with
 |some (.row w _ _ _ d)=>if(w==v)=true then some d else none
 |_=>none
theorem Zw6{id v:Nat}{d:TD}(h:Zzw H id v=some d):∃w s st e,H[id]? =some (.row w s st e d)/\(w==v)=true:=by
 unfold Zzw at h;split at h
 ·rename_i w s st e d' hd;split at h
  ·rename_i hw;cases h;exact⟨w,s,st,e,hd,hw⟩
  ·cases h
 ·cases h
def ZEg(P:yg)(t:yc)(all:yL TD)(H:yL TEnt)(K:Kn O):TD->yO O
 |.ref id yQ=>(ZnA H id).bind λd=>gpT (lk H) yQ d λsub hs _=>if okT P t (sub.er (lk H))=true then K all sub H hs 1 else none
 |.rref id v yQ=>(Zzw H id v).bind λd=>gpT (lk H) yQ d λsub hs _=>if okT P t (sub.er (lk H))=true then K all sub H hs 1 else none
 |_=>none
theorem Zzx{t:yc}{x:yn}{xd:TD}(ho:o.op=.load t x)(hx:arT P ts 0 x=some xd)(h:ZEg P t all H K xd=some out):∃a d H' hs c,K a d H' hs c=some out/\Good P o ts all H a d H' hs c:=by
 have hv:=Zm (L:=lk H) hx;unfold ZEg at h;split at h
 ·rename_i id yQ;obtain⟨d,h1,h⟩:=yf.1 h;obtain⟨st,h2,h3⟩:=ZcO h1;obtain⟨sub,hs,put,C,k1,k2,k3,_⟩:=XJ _ _ _ _ h;obtain⟨k4,k5⟩:=Za k1;refine⟨_,_,_,_,_,k5,rfl,rfl,.inr (.inl ⟨rfl,rfl,λyK=> ?_,C++[Zb6 yQ=Wg yQ],Zj.2 ⟨k2,(XT _).symm,ytt⟩,λyK=> ?_⟩)⟩
  ·unfold evN;rw[ho];dsimp only;rw[hv];rfl
  ·unfold evR;rw[ho];dsimp only;rw[hv];dsimp only[TD.er];rw[h3];dsimp only;rw[k3 yK];dsimp only;rw[yW k4]
 ·rename_i id v yQ;obtain⟨d,h1,h⟩:=yf.1 h;obtain⟨w,s,st,e,h2,h3⟩:=Zw6 h1;obtain⟨sub,hs,put,C,k1,k2,k3,_⟩:=XJ _ _ _ _ h;obtain⟨k4,k5⟩:=Za k1;refine⟨_,_,_,_,_,k5,rfl,rfl,.inr (.inl ⟨rfl,rfl,λyK=> ?_,C++[Zb6 yQ=Wg yQ],Zj.2 ⟨k2,(XT _).symm,ytt⟩,λyK=> ?_⟩)⟩
  ·unfold evN;rw[ho];dsimp only;rw[hv];rfl
  ·unfold evR;rw[ho];dsimp only;rw[hv];dsimp only[TD.er];rw[Z2 h2];dsimp only[TEnt.er];rw[k3 yK];dsimp only;rw[yW (by rw[yj];exact⟨k4,h3⟩)]
 ·cases h
def Zzy(P:yg)(t:yc)(lo hi:yO Int)(all:yL TD)(H:yL TEnt)(K:Kn O):TD->yO O
 |.rv id v s l0 n=>match P.underlying t,H[id]? with
  |some (.slice e),some (.row w s' _ _ d)=>hi.bind λh=>(rowN (d.er (lk H)) s').bind λN=>if(P.cellsOf e=s&&(P.info? e).isSome&&w==v&&s'==s&&s' !=0)=true then
    if(decide (0<=lo.getD 0)&&decide (lo.getD 0<=h)&&decide (l0+h.toNat<=N))=true then K all (.rv id v s (l0+(lo.getD 0).toNat) (h.toNat - (lo.getD 0).toNat)) H [.raw] 1 else none else none
  |_,_=>none
 |_=>none
theorem Zw7{t:yc}{x:yn}{lo hi:yO yn}{l h':yO Int}{xd:TD}(ho:o.op=.slice t x lo hi none)(hx:arT P ts t x=some xd)(hl:ZdC P ts lo=some l)(hh:ZdC P ts hi=some h')(h:Zzy P t l h' all H K xd=some out):
 ∃a d H' hs c,K a d H' hs c=some out/\Good P o ts all H a d H' hs c:=by
 have hv:=Zm (L:=lk H) hx;have hl:=Q3 (L:=lk H) hl;have hh:=Q3 (L:=lk H) hh;unfold Zzy at h;split at h
 ·rename_i id v s l0 n;split at h
  ·rename_i e w s' st e' d hu hd;obtain⟨h2,q1,g1⟩:=yf.1 h;obtain⟨N,q2,g2⟩:=yf.1 g1;obtain⟨h3,g3⟩:=Za g2;obtain⟨h4,g4⟩:=Za g3;clear h g1 g2 g3;simp only[yj,yP] at h4;subst q1;refine⟨_,_,_,_,_,g4,rfl,rfl,.inr (.inl ⟨rfl,rfl,λyK=> ?_,[0<=l.getD 0,l.getD 0<=h2,l0+h2.toNat<=N],⟨h4.1.1,h4.1.2,h4.2,ytt⟩,λyK=> ?_⟩)⟩
   ·unfold evN;rw[ho];dsimp only;rw[hu,hv,hl,hh];rfl
   ·unfold evR;rw[ho];dsimp only;rw[hu,hv,hl,hh];dsimp only[TD.er];rw[yab,yx];dsimp only;rw[Z2 hd];dsimp only[TEnt.er];rw[q2];dsimp only;rw[yW h3]
  ·cases h
 ·cases h
def ZnB{α β:Type}(o:yO α)(f:α->yO β)(g:yO β):yO β:=
 match o with
 |some a=>f a
 |none=>g
def ZiR(P:yg)(kt:yc)(k:Ty):Bool:=ZeH P kt&&(k.flat&&Zw2 P 20 kt k)
structure MapE where
 tid:yc
 k:Ty
 v:Ty
 l:List (k.den×v.den)
def Ztl(H:yL TEnt)(id:Nat):yO MapE:=
 match H[id]? with
 |some (.map tid k v l)=>some ⟨tid,k,v,l⟩
 |_=>none
theorem ZcP{id:Nat}{m:MapE}(h:Ztl H id=some m):H[id]? =some (.map m.tid m.k m.v m.l)/\(erH H)[id]? =some (.map m.tid (kvl m.k.enc m.v.enc m.l)):=by
 unfold Ztl at h;split at h
 ·rename_i hd;cases h;exact⟨hd,Z2 hd⟩
 ·cases h
def ZA5(x:TD)(k:Ty):yO k.den:=x.inner.bind λy=>TP.to ZjT y k
theorem ZkY{L:Lk}{x:TD}{k:Ty}{y:k.den}(h:ZA5 x k=some y):x.er L=.p (k.enc y):=by
 obtain⟨p,h1,h2⟩:=yf.1 h;rw[YJ h1,TD.er,ZgX p k y h2]
theorem ZkZ{kt:yc}{k:Ty}(h:ZiR P kt k=true):∀x y:k.den,k.enc x=k.enc y↔x=y:=by
 simp only[ZiR,yj] at h;exact λx y=>⟨ZkS k x y h.2.1,λe=>by rw[e]⟩
theorem Q6{kt:yc}{k:Ty}(h:ZiR P kt k=true):∀x:k.den,fitP P 20 kt (k.enc x):=by
 simp only[ZiR,yj] at h;exact ZkT 20 kt k h.2.2
theorem ZpQ{kt:yc}{k:Ty}(h:ZiR P kt k=true):ZeH P kt=true:=by
 simp only[ZiR,yj] at h;exact h.1
def ZpR(P:yg)(t:yc):yO TP:=
 match YH P t with
 |.p z=>Zuv P t z
 |_=>none
theorem ZgZ{t:yc}{z:TP}(h:ZpR P t=some z):YH P t=.p z.pe:=by
 unfold ZpR at h;split at h
 ·rename_i y hy;rw[hy,Zms h]
 ·cases h
def Zzz(ok:Bool)(d:TD)(b:Bool):TD:=if ok then .tup [d,.p (.v .bool b)] else d
def ZuF(P:yg)(t:yc)(all:yL TD)(H:yL TEnt)(ok:Bool)(K:Kn O)(kd:yc->yO TD):TD->yO O
 |.mp id=>match P.underlying t with
  |some (.map kt et)=>(Ztl H id).bind λm=>(kd kt).bind λx=>(ZA5 x m.k).bind λkey=>(ZpR P et).bind λz=>
   if(ZiR P kt m.k&&Zt7 P et)=true then
    ZnB (@Zb3 m.k.den m.v.den (Ty.deq m.k) m.l key) (λy=>K all (Zzz ok (.p (.v m.v y)) true) H [.el (m.v.enc y)] 1) (K all (Zzz ok (.p z) false) H [.raw] 1)
   else none
  |_=>none
 |_=>none
theorem Ztm{L:Lk}{ok:Bool}{d:TD}{b:Bool}:(Zzz ok d b).er L=if ok then .tup [d.er L,.p (.bool b)] else d.er L:=by
 cases ok <;> rfl
theorem ZuG{t:yc}{x ix:yn}{ok:Bool}{xd:TD}(ho:o.op=.lookup t x ix ok)(hx:arT P ts t x=some xd)(h:ZuF P t all H ok K (λkt=>arT P ts kt ix) xd=some out):
 ∃a d H' hs c,K a d H' hs c=some out/\Good P o ts all H a d H' hs c:=by
 have hv:=Zm (L:=lk H) hx;unfold ZuF at h;split at h
 ·rename_i id;split at h
  ·rename_i kt et hu;obtain⟨m,h1,h⟩:=yf.1 h;obtain⟨kd,h2,h⟩:=yf.1 h;obtain⟨key,h3,h⟩:=yf.1 h;obtain⟨z,h4,h⟩:=yf.1 h;obtain⟨h5,h⟩:=Za h;rw[yj] at h5;obtain⟨e1,e2⟩:=ZcP h1;have hk:=Zm (L:=lk H) h2;rw[ZkY h3] at hk
   have nN:∀hs,evN P o (TD.ers (lk H) ts) hs=none:=λhs=>by
    unfold evN;rw[ho]
   letI:=Ty.deq m.k
   unfold ZnB at h;split at h
   ·rename_i y hy
    refine⟨_,_,_,_,_,h,rfl,rfl,.inr (.inl ⟨rfl,rfl,λ_=>nN _,[fitP P 20 kt (m.k.enc key),Ve P kt (kvl m.k.enc m.v.enc m.l),Wz (kvl m.k.enc m.v.enc m.l) (m.k.enc key) (some (m.v.enc y))],
     ⟨Q6 h5.1 key,ZeM (Q6 h5.1) _,@Zzf _ _ (Ty.deq m.k) _ _ (ZkZ h5.1) _ _ _ hy,ytt⟩,λyK=> ?_⟩)⟩
    unfold evR;rw[ho];dsimp only;rw[hu,hv];dsimp only[TD.er];rw[hk,e2]
    try dsimp only
    rw[yab,yx]
    try dsimp only
    rw[yW (ZpQ h5.1),Ztm];rfl
   ·rename_i hy
    refine⟨_,_,_,_,_,h,rfl,rfl,.inr (.inl ⟨rfl,rfl,λ_=>nN _,[fitP P 20 kt (m.k.enc key),Ve P kt (kvl m.k.enc m.v.enc m.l),Wz (kvl m.k.enc m.v.enc m.l) (m.k.enc key) none],
     ⟨Q6 h5.1 key,ZeM (Q6 h5.1) _,@Zzg _ _ (Ty.deq m.k) _ _ (ZkZ h5.1) _ _ (by rw[hy];rfl),ytt⟩,λyK=> ?_⟩)⟩
    unfold evR;rw[ho];dsimp only;rw[hu,hv];dsimp only[TD.er];rw[hk,e2]
    try dsimp only
    rw[yab,yx]
    try dsimp only
    rw[yW (by rw[ZpQ h5.1,h5.2];rfl),Ztm,ZgZ h4];rfl
  ·cases h
 ·cases h
def ZuH(P:yg)(t:yc)(all:yL TD)(H:yL TEnt)(K:Kn O):TD->yO O
 |.mp id=>match P.underlying t with
  |some (.map _ _)=>(Ztl H id).bind λm=>K all (.p (.v (.int .i64) (m.l.length:Int))) H [] 1
  |_=>none
 |_=>none
theorem ZuI{t:yc}{x:yn}{c:Call}{xd:TD}(ho:o.op=.call c)(hc:c.callee=.builtin .len)(ha:c.args.toList=[x])(ht:c.argTypes.toList=[t])(hx:arT P ts t x=some xd)(h:ZuH P t all H K xd=some out):
 ∃a d H' hs c,K a d H' hs c=some out/\Good P o ts all H a d H' hs c:=by
 have hv:=Zm (L:=lk H) hx;unfold ZuH at h;split at h
 ·rename_i id;split at h
  ·rename_i kt et hu;obtain⟨m,h1,h⟩:=yf.1 h;obtain⟨e1,e2⟩:=ZcP h1;refine⟨_,_,_,_,_,h,rfl,rfl,.inr (.inl ⟨rfl,rfl,λyK=> ?_,[],zP,λyK=> ?_⟩)⟩
   ·unfold evN;rw[ho];dsimp only;rw[hc];dsimp only;rw[ha,ht];dsimp only;rw[hu,hv]
   ·unfold evR;rw[ho];dsimp only;rw[hc];dsimp only;rw[ha,ht];dsimp only;rw[hu,hv];dsimp only[TD.er];rw[e2];simp[TP.pe,Ty.enc,kvl]
  ·cases h
 ·cases h
theorem ZaK{e:TEnt}(h:e.isLog=false):TD.ers (lk (H++[e])) all=TD.ers (lk H) all:=by rw[Q4 h]
theorem Zw8{T:Ty}{e:yc}:TD.ers (lk (H++[.log T e []])) all=TD.ers (lk H) all:=(ers_cont (λid t=>ZkX id t) all).symm
theorem ZcQ{e:TEnt}(h:TD.frees H.length all=true):TD.ers (lk (H++[e])) all=TD.ers (lk H) all:=(ers_free (λid t hn=>Zbm id t hn) all h).symm
theorem ZeQ{T:Ty}{e:yc}{l:yL T.den}:ZW (lk (H++[.log T e l])) H.length T none=l:=by
 unfold ZW lk;dsimp only;rw[List.getElem?_concat_length];show(Ty.castL T T l).getD []=l;unfold Ty.castL;split
 ·rfl
 ·rename_i h _;exact absurd rfl h
def ZzA(P:yg)(t:yc)(dst:Tmp)(all:yL TD)(H:yL TEnt)(K:Kn O):TD->yO O
 |.p (.sl (some false) T [])=>match P.underlying t with
  |some (.slice e)=>(P.info? e).bind λi=>if(zOk i&&i.size !=0&&decide (i.size=T.size))=true then K all (.own H.length none T none) (H++[.log T e []]) [.fresh dst] 2 else none
  |_=>none
 |_=>none
theorem Zw9{x:yn}{dst:Tmp}{xd:TD}(ho:o.op=.assign x)(hd:o.dst=some dst)(hx:arT P ts o.type x=some xd)(h:ZzA P o.type dst all H K xd=some out):
 ∃a d H' hs c,K a d H' hs c=some out/\Good P o ts all H a d H' hs c:=by
 have hv:=Zm (L:=lk H) hx;unfold ZzA at h;split at h
 ·rename_i T;split at h
  ·rename_i e hu;obtain⟨i,h1,h⟩:=yf.1 h;obtain⟨h2,h⟩:=Za h;simp only[yj,yP] at h2;refine⟨_,_,_,_,_,h,Zw8,rfl,or3 (⟨rfl,λyK=> ?_,λyK=> ?_,[],zP,λyK=> ?_⟩)⟩
   ·unfold evN;rw[ho];rfl
   ·unfold evR;rw[ho]
   ·unfold evE;rw[ho];dsimp only;rw[yab,yx];dsimp only;rw[yW hd,hu,hv,show(TD.p (TP.sl (some false) T [])).er (lk H)=Dv.p (.sl (some false) T.size []) from rfl]
    dsimp only;rw[h1];dsimp only;rw[yW (by simpa using h2.1),ZuE,ZC,TD.er,ZeQ,h2.2];rfl
  ·cases h
 ·cases h
def ZpS(P:yg)(t:yc)(all:yL TD)(H:yL TEnt)(K:Kn O):yO O:=
 match P.underlying t with
 |some (.map kt et)=>(ZgB P tyD kt).bind λk=>(ZgB P tyD et).bind λv=>K all (.mp H.length) (H++[.map t k v []]) [] 2
 |_=>none
theorem Zr2{t:yc}(ho:o.op=.makeMap t none)(h:ZpS P t all H K=some out):∃a d H' hs c,K a d H' hs c=some out/\Good P o ts all H a d H' hs c:=by
 unfold ZpS at h;split at h
 ·rename_i kt et hu;obtain⟨k,h1,h⟩:=yf.1 h;obtain⟨v,h2,h⟩:=yf.1 h;refine⟨_,_,_,_,_,h,ZaK rfl,rfl,or3 (⟨rfl,λyK=> ?_,λyK=> ?_,[],zP,λyK=> ?_⟩)⟩
  ·unfold evN;rw[ho]
  ·unfold evR;rw[ho]
  ·unfold evE;rw[ho];dsimp only;rw[Q5 (Q4 rfl),ZC];rfl
 ·cases h
def ZeR(n:Int)(b:Nat):Bool:=decide (0<=n)&&ZwY n.toNat b
def ZjY(P:yg)(t:yc)(own row:Bool)(n n':Int)(all:yL TD)(H:yL TEnt)(K:Kn O):yO O:=
 match P.underlying t with
 |some (.slice e)=>(P.info? e).bind λi=>(ZgB P tyD e).bind λT=>
  if row then
   if(zOk i&&i.size !=0&&decide (i.size=T.size))=true then if(decide (n=0)&&ZeR n' i.bytes)=true then K all (.rv H.length 0 i.size 0 0) (H++[.row 0 i.size true e (.p (.v (.arr 0 T) []))]) [.arr] 2 else none else none
  else if own then
   if(zOk i&&i.size !=0&&decide (i.size=T.size))=true then if(decide (n=0)&&ZeR n' i.bytes)=true then K all (.own H.length (some true) T none) (H++[.log T e []]) [.own] 2 else none else none
  else(ZpR P e).bind λz=>(TP.to ZjT z T).bind λy=>
   if(zOk i&&decide (i.size=1)&&z.pe.size==1&& !z.pe.isAgg&&decide (T.size=1))=true then if(decide (n'=n)&&ZeR n i.bytes)=true then
    K all (.view H.length [] 1 0 n.toNat) (H++[.var (.p (.v (.arr n.toNat T) (yv n.toNat y))) true]) [.raw] 2 else none else none
 |_=>none
theorem Zoh{t:yc}{l c:yn}{n n':Num}{own row:Bool}(ho:o.op=.makeSlice t l c)(hl:(arT P ts 0 l).bind TD.num=some n)(hc:(arT P ts 0 c).bind TD.num=some n')(hk:n.k=.i64)(hk':n'.k=.i64)
 (h:ZjY P t own row n.n n'.n all H K=some out):∃a d H' hs c,K a d H' hs c=some out/\Good P o ts all H a d H' hs c:=by
 obtain⟨ld,l1,l2⟩:=yf.1 hl;obtain⟨cd,c1,c2⟩:=yf.1 hc;have hv:=Zm (L:=lk H) l1;have hw:=Zm (L:=lk H) c1;rw[VK l2,hk] at hv;rw[VK c2,hk'] at hw;unfold ZjY at h;have nN:∀hs,evN P o (TD.ers (lk H) ts) hs=none:=λhs=>by unfold evN;rw[ho]
 have nR:∀hs,evR P o (TD.ers (lk H) ts) (erH H) hs=none:=λhs=>by unfold evR;rw[ho]
 split at h
 ·rename_i e hu;obtain⟨i,h1,h⟩:=yf.1 h;obtain⟨T,h2,h⟩:=yf.1 h;split at h
  ·obtain⟨h3,h⟩:=Za h;obtain⟨h4,h⟩:=Za h;simp only[yj,yP] at h3;simp only[ZeR,yj,yP] at h4;obtain⟨g1,g2⟩:=Q2 h4.2.2;refine⟨_,_,_,_,_,h,ZaK rfl,rfl,or3 (⟨rfl,λyK=>nN _,λyK=>nR _,[n.n=0,0<=n'.n,n'.n.toNat*i.bytes<=Zk,n'.n.toNat<=maxLen],⟨h4.1,h4.2.1,g1,g2,ytt⟩,λyK=> ?_⟩)⟩;unfold evE;rw[ho];dsimp only;rw[hu,hv,hw];dsimp only;rw[h1,yab,yx];dsimp only;rw[yW (by simpa using h3.1),Q5 (Q4 rfl),ZC];simp only[TEnt.er,TD.er,TP.pe,Zus,h3.2];rfl
  split at h
  ·obtain⟨h3,h⟩:=Za h;obtain⟨h4,h⟩:=Za h;simp only[yj,yP] at h3;simp only[ZeR,yj,yP] at h4;obtain⟨g1,g2⟩:=Q2 h4.2.2;refine⟨_,_,_,_,_,h,Zw8,rfl,or3 (⟨rfl,λyK=>nN _,λyK=>nR _,[n.n=0,0<=n'.n,n'.n.toNat*i.bytes<=Zk,n'.n.toNat<=maxLen],⟨h4.1,h4.2.1,g1,g2,ytt⟩,λyK=> ?_⟩)⟩;unfold evE;rw[ho];dsimp only;rw[hu,hv,hw];dsimp only;rw[h1,yab,yx];dsimp only;rw[yW (by simpa using h3.1),ZuE,ZC,TD.er,ZeQ,h3.2];rfl
  ·obtain⟨z,z1,h⟩:=yf.1 h;obtain⟨y,z2,h⟩:=yf.1 h;obtain⟨h3,h⟩:=Za h;obtain⟨h4,h⟩:=Za h;simp only[yj,yP,yT] at h3;simp only[ZeR,yj,yP] at h4;obtain⟨g1,g2⟩:=Q2 h4.2.2;refine⟨_,_,_,_,_,h,ZaK rfl,rfl,or3 (⟨rfl,λyK=>nN _,λyK=>nR _,[n'.n=n.n,0<=n.n,n.n.toNat*i.bytes<=Zk,n.n.toNat<=maxLen],⟨h4.1,h4.2.1,g1,g2,ytt⟩,λyK=> ?_⟩)⟩;unfold evE;rw[ho];dsimp only;rw[hu,hv,hw];dsimp only;rw[h1,yab,yx];dsimp only;rw[ZgZ z1];dsimp only;rw[yW (by simp only[yj,yP];exact h3.1),Q5 (Q4 rfl),ZC,ZgX z T y z2];simp only[TEnt.er,TD.er,TP.pe,Wg,List.map_nil,List.foldl_nil];congr 5;show _=[Ent.var (Dv.p (Pl.arr n.n.toNat T.size (List.map T.enc (yv n.n.toNat y)))) true];rw[List.map_replicate,h3.2]
 ·cases h
end
end Go.Ev
end
section
namespace Go.Ev
section
variable{P:yg}{o:Oper}{ts all:yL TD}{H:yL TEnt}{O:Type}{K:Kn O}{out:O}
theorem V7{id:Nat}{e x:TEnt}(hx:H[id]? =some x)(h1:x.isLog=false)(h2:e.isLog=false):TD.ers (lk (H.set id e)) all=TD.ers (lk H) all:=by rw[WM hx h1 h2]
def Zib(P:yg)(t:yc)(all:yL TD)(H:yL TEnt)(K:Kn O)(kd vd:yc->yO TD):TD->yO O
 |.mp id=>match P.underlying t with
  |some (.map kt et)=>(Ztl H id).bind λm=>(kd kt).bind λx=>(ZA5 x m.k).bind λkey=>((vd et).bind (TD.flat (lk H))).bind λz=>(TP.to ZgW z m.v).bind λy=>
   if ZiR P kt m.k=true then K all .junk (H.set id (.map m.tid m.k m.v (@Zmo m.k.den m.v.den (Ty.deq m.k) m.l key y))) [.kvs (kvl m.k.enc m.v.enc (@Zmo m.k.den m.v.den (Ty.deq m.k) m.l key y))] 2 else none
  |_=>none
 |_=>none
theorem ZuJ{t:yc}{x k v:yn}{xd:TD}(ho:o.op=.mapUpdate t x k v)(hx:arT P ts t x=some xd)(h:Zib P t all H K (λkt=>arT P ts kt k) (λet=>arT P ts et v) xd=some out):
 ∃a d H' hs c,K a d H' hs c=some out/\Good P o ts all H a d H' hs c:=by
 have hv:=Zm (L:=lk H) hx;unfold Zib at h;split at h
 ·rename_i id;split at h
  ·rename_i kt et hu;obtain⟨m,h1,h⟩:=yf.1 h;obtain⟨kd,h2,h⟩:=yf.1 h;obtain⟨key,h3,h⟩:=yf.1 h;obtain⟨z,h4,h⟩:=yf.1 h;obtain⟨zd,h40,h41⟩:=yf.1 h4;obtain⟨y,h6,h⟩:=yf.1 h;obtain⟨h5,h⟩:=Za h;obtain⟨e1,e2⟩:=ZcP h1;have hk:=Zm (L:=lk H) h2;rw[ZkY h3] at hk;have hz:=Zm (L:=lk H) h40
   letI:=Ty.deq m.k
   refine⟨_,_,_,_,_,h,V7 e1 rfl rfl,rfl,or3 (⟨rfl,λyK=> ?_,λyK=> ?_,[fitP P 20 kt (m.k.enc key),Ve P kt (kvl m.k.enc m.v.enc m.l),Vd (kvl m.k.enc m.v.enc m.l) (m.k.enc key) z.pe.soft (kvl m.k.enc m.v.enc (Zmo m.l key y))],
    ⟨Q6 h5 key,ZeM (Q6 h5) _,by rw[Zb4 z m.v y h6];exact ZjS (ZkZ h5) _ _ _,ytt⟩,λyK=> ?_⟩)⟩
   ·unfold evN;rw[ho]
   ·unfold evR;rw[ho]
   ·unfold evE;rw[ho];dsimp only;rw[hu,hv];dsimp only[TD.er];rw[hk,hz,ZpM h41,e2]
    try dsimp only
    rw[yab,yx]
    try dsimp only
    rw[yW (ZpQ h5),Xf (WM e1 rfl rfl)];rfl
  ·cases h
 ·cases h
theorem ZuK{t:yc}{x k v:yn}{xd:TD}(ho:o.op=.insert t x k v)(hx:arT P ts t x=some xd)(h:Zib P t all H K (λkt=>arT P ts kt k) (λet=>arT P ts et v) xd=some out):
 ∃a d H' hs c,K a d H' hs c=some out/\Good P o ts all H a d H' hs c:=by
 have hv:=Zm (L:=lk H) hx;unfold Zib at h;split at h
 ·rename_i id;split at h
  ·rename_i kt et hu;obtain⟨m,h1,h⟩:=yf.1 h;obtain⟨kd,h2,h⟩:=yf.1 h;obtain⟨key,h3,h⟩:=yf.1 h;obtain⟨z,h4,h⟩:=yf.1 h;obtain⟨zd,h40,h41⟩:=yf.1 h4;obtain⟨y,h6,h⟩:=yf.1 h;obtain⟨h5,h⟩:=Za h;obtain⟨e1,e2⟩:=ZcP h1;have hk:=Zm (L:=lk H) h2;rw[ZkY h3] at hk;have hz:=Zm (L:=lk H) h40
   letI:=Ty.deq m.k
   refine⟨_,_,_,_,_,h,V7 e1 rfl rfl,rfl,or3 (⟨rfl,λyK=> ?_,λyK=> ?_,[fitP P 20 kt (m.k.enc key),Ve P kt (kvl m.k.enc m.v.enc m.l),Vd (kvl m.k.enc m.v.enc m.l) (m.k.enc key) z.pe.soft (kvl m.k.enc m.v.enc (Zmo m.l key y))],
    ⟨Q6 h5 key,ZeM (Q6 h5) _,by rw[Zb4 z m.v y h6];exact ZjS (ZkZ h5) _ _ _,ytt⟩,λyK=> ?_⟩)⟩
   ·unfold evN;rw[ho]
   ·unfold evR;rw[ho]
   ·unfold evE;rw[ho];dsimp only;rw[hu,hv];dsimp only[TD.er];rw[hk,hz,ZpM h41,e2]
    try dsimp only
    rw[yab,yx]
    try dsimp only
    rw[yW (ZpQ h5),Xf (WM e1 rfl rfl)];rfl
  ·cases h
 ·cases h
def ZuL(P:yg)(t:yc)(all:yL TD)(H:yL TEnt)(K:Kn O)(kd:yO TD):TD->yO O
 |.mp id=>match P.underlying t with
  |some (.map kt et)=>(Ztl H id).bind λm=>kd.bind λx=>(ZA5 x m.k).bind λkey=>
   if ZiR P kt m.k=true then K all (.tup []) (H.set id (.map m.tid m.k m.v (@ZCz m.k.den m.v.den (Ty.deq m.k) m.l key))) [.kvs (kvl m.k.enc m.v.enc (@ZCz m.k.den m.v.den (Ty.deq m.k) m.l key))] 2 else none
  |_=>none
 |_=>none
theorem ZuM{t u:yc}{x k:yn}{c:Call}{xd:TD}(ho:o.op=.call c)(hc:c.callee=.builtin .delete)(ha:c.args.toList=[x,k])(ht:c.argTypes.toList=[t,u])(hx:arT P ts t x=some xd)
 (h:ZuL P t all H K (arT P ts u k) xd=some out):∃a d H' hs c,K a d H' hs c=some out/\Good P o ts all H a d H' hs c:=by
 have hv:=Zm (L:=lk H) hx;unfold ZuL at h;split at h
 ·rename_i id;split at h
  ·rename_i kt et hu;obtain⟨m,h1,h⟩:=yf.1 h;obtain⟨kd,h2,h⟩:=yf.1 h;obtain⟨key,h3,h⟩:=yf.1 h;obtain⟨h5,h⟩:=Za h;obtain⟨e1,e2⟩:=ZcP h1;have hk:=Zm (L:=lk H) h2;rw[ZkY h3] at hk
   letI:=Ty.deq m.k
   refine⟨_,_,_,_,_,h,V7 e1 rfl rfl,rfl,or3 (⟨rfl,λyK=> ?_,λyK=> ?_,[fitP P 20 kt (m.k.enc key),Ve P kt (kvl m.k.enc m.v.enc m.l),Zbi (kvl m.k.enc m.v.enc m.l) (m.k.enc key) (kvl m.k.enc m.v.enc (ZCz m.l key))],
    ⟨Q6 h5 key,ZeM (Q6 h5) _,ZpH (ZkZ h5) _ _,ytt⟩,λyK=> ?_⟩)⟩
   ·unfold evN;rw[ho];dsimp only;rw[hc]
   ·unfold evR;rw[ho];dsimp only;rw[hc]
   ·unfold evE;rw[ho];dsimp only;rw[hc];dsimp only;rw[ha,ht];dsimp only;rw[hu,hv];dsimp only[TD.er];rw[hk,e2]
    try dsimp only
    rw[yab,yx]
    try dsimp only
    rw[yW (ZpQ h5),Xf (WM e1 rfl rfl)];rfl
  ·cases h
 ·cases h
def TP.nilT(x:TP)(T:Ty):Bool:=
 match x with
 |.sl (some false) t []=>decide (t.size=T.size)
 |_=>false
theorem ZA6{x:TP}{T:Ty}(h:x.nilT T=true):x.pe=.sl (some false) T.size []:=by
 unfold TP.nilT at h;split at h
 ·rename_i t;show Pl.sl (some false) t.size []=_;rw[yF h]
 ·cases h
def Zfw(T:Ty)(new:TD):yL Nat->TD->yO TD
 |[],.p x=>if x.nilT T then some new else none
 |i::r,.p x=>x.parts.bind λl=>(l[i]?).bind λz=>(Zfw T new r (.p z)).map λy=>.agg ((l.map .p).set i y)
 |i::r,.agg ds=>(ds[i]?).bind λz=>(Zfw T new r z).map λy=>.agg (ds.set i y)
 |_,_=>none
theorem Zic{L:Lk}{T:Ty}{new:TD}:∀(yQ:yL Nat)(d d':TD),Zfw T new yQ d=some d'->YW (d.er L) yQ T.size (new.er L)=some (d'.er L)
 |[],d,d',h=>by
  cases d with
  |p x=>
   simp only[Zfw] at h;split at h
   ·rename_i hn;cases h;rw[TD.er,ZA6 hn];simp[YW]
   ·cases h
  |_=>cases h
 |i::r,d,d',h=>by
  cases d with
  |p x=>
   simp only[Zfw] at h;obtain⟨l,h1,h⟩:=yf.1 h;obtain⟨z,h2,h⟩:=yf.1 h;obtain⟨y,h3,rfl⟩:=Zb h;have:=Zic (L:=L) r (.p z) y h3;rw[TD.er,ZwV h1];unfold YW;rw[show(TP.pes l)[i]? =some z.pe by rw[Za2,yaj,h2];rfl];dsimp only;rw[TD.er] at this
   rw[this,yaa,TD.er,ZB,ybm, <-ZB,ZEb]
  |agg ds=>
   simp only[Zfw] at h;obtain⟨z,h2,h⟩:=yf.1 h;obtain⟨y,h3,rfl⟩:=Zb h;have:=Zic (L:=L) r z y h3;rw[TD.er];unfold YW;rw[ZdP h2];dsimp only
   rw[this,yaa,TD.er,ZB,ZB,ybm]
  |_=>cases h
def Zk0(d:TD)(n:Nat):yL (yL Nat×Ty×yc)->yO (TD×yL (Ty×yc))
 |[]=>some (d,[])
 |q::r=>(Zfw q.2.1 (.own n none q.2.1 none) q.1 d).bind λd'=>(Zk0 d' (n+1) r).map λz=>(z.1,(q.2.1,q.2.2)::z.2)
def ghH(l:yL (yL Nat×Ty×yc)):yL Hint:=l.map λq=>.ghost q.1 q.2.1.size q.2.2
def Zxa(l:yL (Ty×yc)):yL TEnt:=l.map λq=>.log q.1 q.2 []
def ZEh(L:Lk)(n:Nat):Prop:=∀id t,n<=id->ZW L id t none=[]
theorem ZjZ{L:Lk}:∀(l:yL (yL Nat×Ty×yc))(d:TD)(n:Nat)(z:TD×yL (Ty×yc)),ZEh L n->Zk0 d n l=some z->∀yK,
 Z9 (d.er L) n (ghH l++.raw::yK)=(z.1.er L,z.2.map (λq=>Ent.log q.1.size q.2 []),.raw::yK)
 |[],d,n,z,hN,h,yK=>by cases h;rfl
 |q::r,d,n,z,hN,h,yK=>by
  simp only[Zk0] at h;obtain⟨d',h1,h⟩:=yf.1 h;obtain⟨w,h2,rfl⟩:=Zb h;have e:=Zic (L:=L) q.1 d d' h1;rw[TD.er,hN n q.2.1 (ym _)] at e;have ih:=ZjZ r d' (n+1) w (λid t h=>hN id t (by omega)) h2 yK;show Z9 (d.er L) n (.ghost q.1 q.2.1.size q.2.2::(ghH r++.raw::yK))=_;unfold Z9;rw[show YW (d.er L) q.1 q.2.1.size (Dv.own n none q.2.1.size [])=some (d'.er L) from e]
  dsimp only;rw[ih];rfl
theorem ZEi(H:yL TEnt):ZEh (lk H) H.length:=λid t h=>by
 unfold ZW lk;rw[yat h];rfl
theorem Zmu:∀(l:yL (Ty×yc))(H:yL TEnt),(∀id t,ZW (lk H) id t none=ZW (lk (H++Zxa l)) id t none)/\erH (H++Zxa l)=erH H++l.map (λq=>Ent.log q.1.size q.2 [])
 |[],H=>by simp[Zxa]
 |q::l,H=>by
  have e:H++Zxa (q::l)=(H++[.log q.1 q.2 []])++Zxa l:=by simp[Zxa]
  obtain⟨h1,h2⟩:=Zmu l (H++[.log q.1 q.2 []]);rw[e];refine⟨λid t=>(ZkX id t).trans (h1 id t), ?_⟩;rw[h2,ZuE];simp
def newVar(hi:HI)(dst:yO Tmp)(d:TD)(all:yL TD)(H:yL TEnt)(K:Kn O):yO O:=
 match dst with
 |some t=>match hi.ghost.lookup t with
  |some l=>(Zk0 d (H.length+1) l).bind λz=>K all (.ref H.length []) (H++[.var z.1 true]++Zxa z.2) (ghH l++[.raw]) 2
  |none=>K all (.ref H.length []) (H++[.var d true]) [.raw] 2
 |none=>none
theorem ZnC{hi:HI}{dst:yO Tmp}{d:TD}(h:newVar hi dst d all H K=some out):
 ∃H' hs gd gl,K all (.ref H.length []) H' hs 2=some out/\TD.ers (lk H') all=TD.ers (lk H) all/\erH H'=erH H++Ent.var gd true::gl/\∀yK,Z9 (d.er (lk H)) ((erH H).length+1) (hs++yK)=(gd,gl,.raw::yK):=by
 unfold newVar at h;split at h
 ·rename_i t;split at h
  ·rename_i l hl;obtain⟨z,h1,h⟩:=yf.1 h;obtain⟨c1,c2⟩:=Zmu z.2 (H++[.var z.1 true]);have hL:lk (H++[.var z.1 true])=lk H:=Q4 rfl;refine⟨_,_,z.1.er (lk H),z.2.map (λq=>Ent.log q.1.size q.2 []),h, ?_, ?_,λyK=> ?_⟩
   ·rw[<-ers_cont c1 all,hL]
   ·rw[c2,Q5 hL];simp[TEnt.er]
   ·rw[ZC,yac];exact ZjZ l d _ z (λid t hh=>ZEi H id t (by omega)) h1 yK
  ·refine⟨_,_,d.er (lk H),[],h,ZaK rfl, ?_,λyK=> ?_⟩
   ·rw[Q5 (Q4 rfl)];rfl
   ·rfl
 ·cases h
def ZzB(P:yg)(hi:HI)(dst:yO Tmp)(t:yc)(all:yL TD)(H:yL TEnt)(K:Kn O):yO O:=
 (P.info? t).bind λi=>(ZpR P t).bind λz=>if(zOk i&&okT P t (YH P t)&&(YH P t).solid)=true then newVar hi dst (.p z) all H K else none
theorem Zxb{hi:HI}{t:yc}(ho:o.op=.alloc t)(h:ZzB P hi o.dst t all H K=some out):∃a d H' hs c,K a d H' hs c=some out/\Good P o ts all H a d H' hs c:=by
 unfold ZzB at h;obtain⟨i,h1,h⟩:=yf.1 h;obtain⟨z,h2,h⟩:=yf.1 h;obtain⟨h3,h⟩:=Za h;obtain⟨H',hs,gd,gl,k1,k2,k3,k4⟩:=ZnC h;refine⟨_,_,_,_,_,k1,k2,rfl,or3 (⟨rfl,λyK=> ?_,λyK=> ?_,[],zP,λyK=> ?_⟩)⟩
 ·unfold evN;rw[ho]
 ·unfold evR;rw[ho]
 ·have k5:=k4 yK;rw[TD.er, <-ZgZ h2] at k5;unfold evE;rw[ho];dsimp only;rw[h1];dsimp only;rw[k5];dsimp only;rw[yW h3,k3,ZC];rfl
def ZG1(L:Lk)(d:TD):TD:=
 match d.plain L with
 |some y=>.p y
 |none=>d
theorem ZG2{L:Lk}(d:TD):(ZG1 L d).er L=ZyW (d.er L):=by
 unfold ZG1 ZyW
 cases h:d.plain L with
 |none=>rw[ZpP h]
 |some y=>rw[Zti h];rfl
def ZI8(hi:HI)(dst:yO Tmp)(all:yL TD)(H:yL TEnt)(K:Kn O)(d:TD):yO O:=
 if((ZG1 (lk H) d).er (lk H)).solid=true then newVar hi dst (ZG1 (lk H) d) all H K else none
theorem ZCE{hi:HI}{t:yc}{x:yn}{xd:TD}(ho:o.op=.box t x)(hx:arT P ts t x=some xd)(h:ZI8 hi o.dst all H K xd=some out):∃a d H' hs c,K a d H' hs c=some out/\Good P o ts all H a d H' hs c:=by
 have hv:=Zm (L:=lk H) hx;unfold ZI8 at h;obtain⟨h3,h⟩:=Za h;obtain⟨H',hs,gd,gl,k1,k2,k3,k4⟩:=ZnC h;refine⟨_,_,_,_,_,k1,k2,rfl,or3 (⟨rfl,λyK=> ?_,λyK=> ?_,[],zP,λyK=> ?_⟩)⟩
 ·unfold evN;rw[ho]
 ·unfold evR;rw[ho]
 ·have k5:=k4 yK;rw[ZG2] at k5 h3;unfold evE;rw[ho];dsimp only;rw[hv,k5];dsimp only;rw[yW h3,k3,ZC];rfl
def TD.meltP(L:Lk)(v:TD):TD:=
 match v.flat L with
 |some x=>.p x
 |none=>v
theorem ZpT{L:Lk}(v:TD):(v.meltP L).er L=(v.er L).meltP:=by
 unfold TD.meltP Dv.meltP;rw[ZkP];cases v.flat L <;> rfl
def ZuN(L:Lk)(yQ:yL Stp)(d v:TD):yO TD:=
 match d,yQ with
 |.p _,_=>some (v.meltP L)
 |_,[]=>some (v.meltP L)
 |_,_=>some v
theorem Zmv{L:Lk}{yQ:yL Stp}{d v new:TD}(h:ZuN L yQ d v=some new):ZcA (yQ.map Stp.i) (d.er L) (v.er L)=some (new.er L):=by
 unfold ZuN at h;split at h
 ·cases h;unfold ZcA;rw[TD.er];dsimp only;rw[ZpT]
 ·cases h;unfold ZcA;split
  ·rw[ZpT]
  ·simp only[List.map_nil];rw[ZpT]
 ·rename_i h1 h2;cases h;unfold ZcA;split
  ·rename_i z hz;cases d <;> first|cases hz|skip
   rename_i q;exact absurd rfl (h1 q)
  ·cases yQ with
   |nil=>exact absurd rfl h2
   |cons _ _=>rfl
def Zid(P:yg)(t:yc)(new sub:Dv):Bool:=new.solid&&new.size==sub.size&&P.cellsOf t==new.size&&(P.info? t).isSome&&new.isAgg==sub.isAgg
def ZKt(hi:HI):yn->yL (yL Nat×Ty×yc)
 |.tmp t=>(hi.gst.lookup t).getD []
 |_=>[]
def ZzC(P:yg)(gs:yL (yL Nat×Ty×yc))(t:yc)(all:yL TD)(H:yL TEnt)(K:Kn O)(v:TD):TD->yO O
 |.ref id yQ=>match H[id]? with
  |some (.var d true)=>gpT (lk H) yQ d λsub hs put=>(ZuN (lk H) yQ d v).bind λnew=>(put new).bind λd'=>(Zk0 d' H.length gs).bind λz=>
   if Zid P t (new.er (lk H)) (sub.er (lk H))=true then K all .junk (H.set id (.var z.1 true)++Zxa z.2) (hs++(ghH gs++[.raw])) 2 else none
  |_=>none
 |.rref id v' yQ=>match H[id]? with
  |some (.row w s true e d)=>gpT (lk H) yQ d λsub hs put=>(ZuN (lk H) yQ d v).bind λnew=>(put new).bind λd'=>
   if(Zid P t (new.er (lk H)) (sub.er (lk H))&&w==v'&&rowN (d'.er (lk H)) s==rowN (d.er (lk H)) s)=true then K all .junk (H.set id (.row v' s true e d')) hs 2 else none
  |_=>none
 |_=>none
theorem Zxc{gs:yL (yL Nat×Ty×yc)}{t:yc}{x y:yn}{xd yd:TD}(ho:o.op=.store t x y)(hx:arT P ts 0 x=some xd)(hy:arT P ts t y=some yd)(h:ZzC P gs t all H K yd xd=some out):
 ∃a d H' hs c,K a d H' hs c=some out/\Good P o ts all H a d H' hs c:=by
 have hv:=Zm (L:=lk H) hx;have hw:=Zm (L:=lk H) hy;unfold ZzC at h;split at h
 ·rename_i id yQ;split at h
  ·rename_i d hd;obtain⟨sub,hs,put,C,k1,k2,k3,k4⟩:=XJ _ _ _ _ h;obtain⟨new,h1,h2⟩:=yf.1 k1;obtain⟨d',h3,h2⟩:=yf.1 h2;obtain⟨z,h5,h2⟩:=yf.1 h2;obtain⟨h4,h2⟩:=Za h2;unfold Zid at h4;obtain⟨g1,g2⟩:=Zmu z.2 (H.set id (.var z.1 true));have hL:lk (H.set id (.var z.1 true))=lk H:=WM hd rfl rfl;refine⟨_,_,_,_,_,h2, ?_,rfl,or3 (⟨rfl,λyK=> ?_,λyK=> ?_,C++[Zb6 yQ=Wg yQ],Zj.2 ⟨k2,(XT _).symm,ytt⟩,λyK=> ?_⟩)⟩
   ·rw[<-ers_cont g1 all,hL]
   ·unfold evN;rw[ho]
   ·unfold evR;rw[ho]
   ·have k5:=ZjZ gs d' H.length z (ZEi H) h5 yK;unfold evE;rw[ho];dsimp only;rw[hv,hw];dsimp only[TD.er];rw[Z2 hd];dsimp only[TEnt.er];rw[yac,k3 (ghH gs++[Hint.raw]++yK)];dsimp only;rw[Zmv h1];dsimp only;rw[k4 new d' h3 _];dsimp only;rw[yW h4,ZC,yac];rw[show([Hint.raw]++yK)=.raw::yK from rfl,k5]
    dsimp only;rw[g2,Xf hL];rfl
  ·cases h
 ·rename_i id v' yQ;split at h
  ·rename_i w s e d hd;obtain⟨sub,hs,put,C,k1,k2,k3,k4⟩:=XJ _ _ _ _ h;obtain⟨new,h1,h2⟩:=yf.1 k1;obtain⟨d',h3,h2⟩:=yf.1 h2;obtain⟨h4,h2⟩:=Za h2;rw[yj,yj] at h4;obtain⟨⟨h4,h5⟩,h6⟩:=h4;have h4':=h4;unfold Zid at h4';have hL:lk (H.set id (.row v' s true e d'))=lk H:=WM hd rfl rfl;refine⟨_,_,_,_,_,h2,V7 hd rfl rfl,rfl,or3 (⟨rfl,λyK=> ?_,λyK=> ?_,C++[Zb6 yQ=Wg yQ],Zj.2 ⟨k2,(XT _).symm,ytt⟩,λyK=> ?_⟩)⟩
   ·unfold evN;rw[ho]
   ·unfold evR;rw[ho]
   ·unfold evE;rw[ho];dsimp only;rw[hv,hw];dsimp only[TD.er];rw[Z2 hd];dsimp only[TEnt.er];rw[k3 yK];dsimp only;rw[Zmv h1];dsimp only;rw[k4 new d' h3 _];dsimp only;rw[yW (by simp only[yj] at h4' ⊢;exact⟨⟨h4',h5⟩,h6⟩),Xf hL];rfl
  ·cases h
 ·cases h
def ZuO(P:yg)(ts:yL TD)(t:yc)(len:Nat)(parts:yL (Nat×yn))(all:yL TD)(H:yL TEnt)(K:Kn O):yO O:=
 Zzu (lk H) P ts t len parts λT l e=>K all (.rv H.length 0 T.size 0 len) (H++[.row 0 T.size true e (.p (.v (.arr len T) l))]) [.arr] 2
theorem ZuP{t:yc}{len:Nat}{parts:Array (Nat×yn)}(ho:o.op=.buildSlice t len parts)(h:ZuO P ts t len parts.toList all H K=some out):
 ∃a d H' hs c,K a d H' hs c=some out/\Good P o ts all H a d H' hs c:=by
 unfold ZuO at h;obtain⟨e,T,l,i,xs,h1,hu,hi,hl,hz,hs,hx⟩:=ZeO h;refine⟨_,_,_,_,_,h1,ZaK rfl,rfl,or3 (⟨rfl,λyK=> ?_,λyK=> ?_,[],zP,λyK=> ?_⟩)⟩
 ·unfold evN;rw[ho];rfl
 ·unfold evR;rw[ho]
 ·unfold evE;rw[ho];dsimp only;rw[yab,yx];dsimp only;rw[hu];dsimp only;rw[hi,hl];dsimp only;rw[yW (by simpa using hz),hx,Q5 (Q4 rfl),ZC,hs];rfl
def ZEj(P:yg)(ts:yL TD)(e:yc):yL (Nat×yn)->yO (yL TD)
 |[]=>some []
 |q::r=>match arT P ts e q.2,ZEj P ts e r with
  |some d,some ds=>some (d::ds)
  |_,_=>none
theorem ZA7{L:Lk}{e:yc}:∀{parts:yL (Nat×yn)}{ds:yL TD},ZEj P ts e parts=some ds->(parts.map λq=>Zn P (TD.ers L ts) e q.2)=TD.ers L ds
 |[],ds,h=>by cases h;rfl
 |q::r,ds,h=>by
  simp only[ZEj] at h;split at h
  ·rename_i d l h1 h2;cases h;rw[yad,Zm h1,ZA7 h2,TD.ers]
  ·cases h
def ZKu(P:yg)(ts:yL TD)(t:yc)(L:Lk)(parts:yL (Nat×yn)):Bool:=
 match P.underlying t with
 |some (.slice e)=>match ZEj P ts e parts with
  |some ds=>ds.all λd=>(d.flat L).isSome
  |none=>true
 |_=>true
def ZpU(P:yg)(ts:yL TD)(t:yc)(len:Nat)(parts:yL (Nat×yn))(all:yL TD)(H:yL TEnt)(K:Kn O):yO O:=
 match P.underlying t with
 |some (.slice e)=>(P.info? e).bind λi=>(ZEj P ts e parts).bind λds=>
  if((parts.map (·.1)==yr len)&&((TD.ers (lk H) ds).all λd=>d.solid&&d.size==P.cellsOf e)&&(zOk i&&i.size !=0&&decide (len*i.size<=16777216)))=true then
   K all (.rv H.length 0 i.size 0 len) (H++[.row 0 i.size true e (.arr len i.size ds)]) [.raw] 2 else none
 |_=>none
theorem Zr3{t:yc}{len:Nat}{parts:Array (Nat×yn)}(ho:o.op=.buildSlice t len parts)(h:ZpU P ts t len parts.toList all H K=some out):
 ∃a d H' hs c,K a d H' hs c=some out/\Good P o ts all H a d H' hs c:=by
 unfold ZpU at h;split at h
 ·rename_i e hu;obtain⟨i,hi,h⟩:=yf.1 h;obtain⟨ds,hd,h⟩:=yf.1 h;obtain⟨hk,h1⟩:=Za h;rw[yj,yj] at hk;refine⟨_,_,_,_,_,h1,ZaK rfl,rfl,or3 (⟨rfl,λyK=> ?_,λyK=> ?_,[],zP,λyK=> ?_⟩)⟩
  ·unfold evN;rw[ho];rfl
  ·unfold evR;rw[ho]
  ·unfold evE;rw[ho];dsimp only;rw[yab,yx];dsimp only;rw[hu];dsimp only
   have hl:Zcm P (TD.ers (lk H) ts) e (P.cellsOf e) len parts.toList=some (TD.ers (lk H) ds):=by
    unfold Zcm;rw[yW hk.1.1,ZA7 hd,yW hk.1.2]
   rw[hi,hl];dsimp only;rw[yW (by simpa using hk.2),Q5 (Q4 rfl),ZC];rfl
 ·cases h
def ZuQ(P:yg)(ts:yL TD)(t:yc)(len:Nat)(parts:yL (Nat×yn))(all:yL TD)(H:yL TEnt)(K:Kn O):yO O:=
 Zzu (lk H) P ts t len parts λT l e=>if(TD.frees H.length all&&H.all (TEnt.free H.length))=true then K all (.own H.length (some true) T none) (H++[.log T e l]) [.own] 2 else none
theorem ZuR{t:yc}{len:Nat}{parts:Array (Nat×yn)}(ho:o.op=.buildSlice t len parts)(h:ZuQ P ts t len parts.toList all H K=some out):
 ∃a d H' hs c,K a d H' hs c=some out/\Good P o ts all H a d H' hs c:=by
 unfold ZuQ at h;obtain⟨e,T,l,i,xs,h1,hu,hi,hl,hz,hs,hx⟩:=ZeO h;obtain⟨h2,h1⟩:=Za h1;rw[yj] at h2;refine⟨_,_,_,_,_,h1,ZcQ h2.1,rfl,or3 (⟨rfl,λyK=> ?_,λyK=> ?_,[],zP,λyK=> ?_⟩)⟩
 ·unfold evN;rw[ho];rfl
 ·unfold evR;rw[ho]
 ·unfold evE;rw[ho];dsimp only;rw[yab,yx];dsimp only;rw[hu];dsimp only;rw[hi,hl];dsimp only;rw[yW (by simpa using hz),hx,ZA4 h2.2,ZC,TD.er,ZeQ,hs]
def Zxd(P:yg)(T:Ty)(u:yc)(H:yL TEnt)(K:yL T.den->yL Hint->yO O)(x:TD):yO O:=
 match x with
 |.view id yQ s lo n=>match P.underlying u with
  |some (.slice _)=>(ZnA H id).bind λd=>gpT (lk H) yQ d λsub hs _=>sub.inner.bind λy=>y.arow.bind λr=>(Ty.castL r.t T r.l).bind λl=>
   if(decide (s=T.size))=true then if(decide (lo+n<=r.n))=true then K ((l.drop lo).take n) hs else none else none
  |_=>none
 |.rv id v s lo n=>match P.underlying u,H[id]? with
  |some (.slice _),some (.row w s' _ _ d)=>d.inner.bind λy=>y.arow.bind λr=>(Ty.castL r.t T r.l).bind λl=>
   if(decide (s=T.size)&&decide (s'=T.size)&&w==v)=true then if(decide (lo+n<=r.n))=true then K ((l.drop lo).take n) [] else none else none
  |_,_=>none
 |.rw id=>match P.underlying u,H[id]? with
  |some (.slice _),some (.rowT T' v st e l')=>(Ty.castL T' T l').bind λl=>K l []
  |_,_=>none
 |x=>(Zw5 (lk H) P T u x).bind λl=>K l []
theorem Zj0{T:Ty}{u:yc}{x:TD}{K:yL T.den->yL Hint->yO O}(h:Zxd P T u H K x=some out):
 ∃l hs C,K l hs=some out/\AllP C/\∀yK,ZrS P T.size u (erH H) (hs++yK) (x.er (lk H))=some (C,l.map T.enc,yK):=by
 unfold Zxd at h;split at h
 ·rename_i id yQ s lo n;split at h
  ·rename_i e hu;obtain⟨d,h1,h⟩:=yf.1 h;obtain⟨st,h2,h3⟩:=ZcO h1;obtain⟨sub,hs,put,C,k1,k2,k3,_⟩:=XJ _ _ _ _ h;obtain⟨y,p1,k1⟩:=yf.1 k1;obtain⟨r,p2,k1⟩:=yf.1 k1;obtain⟨l,p3,k1⟩:=yf.1 k1;obtain⟨p4,k1⟩:=Za k1;obtain⟨p5,k1⟩:=Za k1;have p4:=yF p4;have p5:=yF p5
   have esub:sub.er (lk H)=.p (.arr r.n T.size (l.map T.enc)):=by
    rw[YJ p1,TD.er,Vf p2];obtain⟨e,p3⟩:=Zu p3;obtain⟨n0,t0,l0⟩:=r;dsimp only at e p3 ⊢;subst e;subst p3;rfl
   refine⟨_,_,C++[Zb6 yQ=Wg yQ,lo+n<=r.n],k1,Zj.2 ⟨k2,(XT _).symm,p5,ytt⟩,λyK=> ?_⟩;unfold ZrS;rw[TD.er];dsimp only;rw[hu,h3];dsimp only;rw[k3 yK,esub];dsimp only;rw[yW (by simp[p4]),ycg,List.map_drop]
  ·cases h
 ·rename_i id v s lo n;split at h
  ·rename_i e w s' st e' d hu hd;obtain⟨y,p1,k1⟩:=yf.1 h;obtain⟨r,p2,k1⟩:=yf.1 k1;obtain⟨l,p3,k1⟩:=yf.1 k1;obtain⟨p4,k1⟩:=Za k1;obtain⟨p5,k1⟩:=Za k1;simp only[yj,yP] at p4;have p5:=yF p5
   have esub:d.er (lk H)=.p (.arr r.n T.size (l.map T.enc)):=by
    rw[YJ p1,TD.er,Vf p2];obtain⟨e,p3⟩:=Zu p3;obtain⟨n0,t0,l0⟩:=r;dsimp only at e p3 ⊢;subst e;subst p3;rfl
   refine⟨_,_,[lo+n<=r.n],k1,⟨p5,ytt⟩,λyK=> ?_⟩;unfold ZrS;rw[TD.er];dsimp only;rw[hu,Z2 hd,TEnt.er,esub];dsimp only;rw[yW (by simp[p4]),ycg,List.map_drop];rfl
  ·cases h
 ·rename_i id;split at h
  ·rename_i e T' v st e' l' hu hd;obtain⟨l,p3,k1⟩:=yf.1 h;obtain⟨eT,p3⟩:=Zu p3;subst eT;subst p3;refine⟨l,[],[0+l.length<=l.length],k1,⟨by omega,ytt⟩,λyK=> ?_⟩;unfold ZrS;rw[(Zaz hd).1];dsimp only;rw[hu,Z2 hd,TEnt.er];dsimp only;rw[yW (by simp),List.drop_zero, <-yy (f:=T'.enc),yak];simp
  ·cases h
 ·rename_i hx hx2 hx3;obtain⟨l,h1,h⟩:=yf.1 h;refine⟨l,[],[],h,zP,λyK=> ?_⟩;rw[yx];unfold ZrS;split
  ·rename_i e;cases x <;> first|cases e|skip
   exact absurd rfl (hx _ _ _ _ _)
  ·rename_i e;cases x <;> first|cases e|skip
   ·exact absurd rfl (hx2 _ _ _ _ _)
   ·exact absurd rfl (hx3 _)
  ·rw[Zh9 h1];rfl
structure LogE where
 t:Ty
 e:yc
 l:List t.den
def ZEk(H:yL TEnt)(id:Nat):yO LogE:=
 match H[id]? with
 |some (.log t e l)=>some ⟨t,e,l⟩
 |_=>none
theorem ZzD{id:Nat}{m:LogE}(h:ZEk H id=some m):H[id]? =some (.log m.t m.e m.l):=by
 unfold ZEk at h;split at h
 ·rename_i hd;cases h;exact hd
 ·cases h
def apB(n m b:Nat):Bool:=decide ((n+m)*b<=Zk)&&decide (n+m<=maxLen)
def ZuS(P:yg)(own row:Bool)(t u:yc)(all:yL TD)(H:yL TEnt)(K:Kn O)(y:TD):TD->yO O
 |.own id nn T none=>match P.underlying t with
  |some (.slice e)=>(P.info? e).bind λi=>(ZEk H id).bind λm=>(Ty.castL m.t T m.l).bind λzs=>Zxd P T u H (λys hs=>
   if(zOk i&&decide (i.size=T.size)&&decide (m.e=e)&&decide (T.size≠0))=true then if apB zs.length ys.length i.bytes=true then
    K (TD.stales (lk H) id all) (.own id none T none) ((H.map (TEnt.stale (lk H) id)).set id (.log T e (zs++ys))) hs 2 else none else none) y
  |_=>none
 |.rv id v s lo n=>match P.underlying t with
  |some (.slice e)=>(P.info? e).bind λi=>(ZgB P tyD e).bind λT=>Zxd P T u H (λys hs=>if ys.isEmpty=true then
    if(zOk i&&decide (P.cellsOf e=T.size))=true then K all (.rv id v s lo n) H (.bare::hs) 2 else none
   else match H[id]? with
    |some (.row w s' true e' d)=>d.inner.bind λy0=>y0.arow.bind λr=>(Ty.castL r.t T r.l).bind λxs=>
     if(zOk i&&decide (i.size=T.size)&&decide (s'=T.size)&&decide (e'=e)&&decide (T.size≠0)&&w==v&&decide (lo=0)&&decide (s=T.size))=true then if(decide (n<=r.n)&&apB n ys.length i.bytes)=true then
      K all (.rv id (v+1) s 0 (n+ys.length)) (H.set id (.row (v+1) s true e (.p (.v (.arr (n+ys.length) T) (xs.take n++ys))))) (.raw::hs) 2 else none else none
    |_=>none) y
  |_=>none
 |.p (.sl (some false) _ [])=>if row then match P.underlying t with
  |some (.slice e)=>(P.info? e).bind λi=>(ZgB P tyD e).bind λT=>(Zw5 (lk H) P T u y).bind λys=>
   if(zOk i&&i.size !=0&&decide (i.size=T.size)&&decide (P.cellsOf e=T.size))=true then if ZwY ys.length i.bytes=true then
    K all (.rv H.length 0 i.size 0 ys.length) (H++[.row 0 i.size true e (.p (.v (.arr ys.length T) ys))]) [.arr] 2 else none else none
  |_=>none else if own then match P.underlying t with
  |some (.slice e)=>(P.info? e).bind λi=>(ZgB P tyD e).bind λT=>(Zw5 (lk H) P T u y).bind λys=>
   if(zOk i&&i.size !=0&&decide (i.size=T.size)&&decide (P.cellsOf e=T.size)&&TD.frees H.length all&&H.all (TEnt.free H.length))=true then if ZwY ys.length i.bytes=true then
    K all (.own H.length none T none) (H++[.log T e ys]) [.own] 2 else none else none
  |_=>none else none
 |_=>none
theorem ZEl{id:Nat}{T:Ty}{e:yc}{l:yL T.den}(H:yL TEnt)(h:id < H.length):ZW (lk (H.set id (.log T e l))) id T none=l:=by
 unfold ZW lk;dsimp only;rw[ycw h];show(Ty.castL T T l).getD []=l;unfold Ty.castL;split
 ·rfl
 ·rename_i h _;exact absurd rfl h
theorem ZcR{L:Lk}{n:Nat}:∀(l:yL TD),(TD.stales L n l).length=l.length
 |[]=>rfl
 |_::r=>by rw[TD.stales,yah,yah,ZcR r]
def ZzE(H:yL TEnt):TD->TD
 |.own id nn T (some zs)=>match H[id]? with
  |some (.log t e l)=>match Ty.castL t T l with
   |some l'=>if@decide (l'=zs) (@instDecidableEqList T.den (Ty.deq T) l' zs)=true then .own id nn T none else .own id nn T (some zs)
   |none=>.own id nn T (some zs)
  |_=>.own id nn T (some zs)
 |d=>d
theorem ZCF(d:TD):(ZzE H d).er (lk H)=d.er (lk H):=by
 unfold ZzE;split
 ·rename_i id nn T zs;split
  ·rename_i t e l hd;split
   ·rename_i l' hc;split
    ·rename_i he;have he:=@of_decide_eq_true _ (@instDecidableEqList T.den (Ty.deq T) l' zs) he;rw[TD.er,TD.er]
     have:ZW (lk H) id T none=zs:=by
      unfold ZW lk;dsimp only;rw[hd];show(Ty.castL t T l).getD []=zs;rw[hc, <-he];rfl
     rw[this];rfl
    ·rfl
   ·rfl
  ·rfl
 ·rfl
theorem ZuT{own row:Bool}{t u:yc}{x y:yn}{c:Call}{xd yd:TD}(ho:o.op=.call c)(hc:c.callee=.builtin .append)(ha:c.args.toList=[x,y])(ht:c.argTypes.toList=[t,u])
 (hv:Zn P (TD.ers (lk H) ts) t x=xd.er (lk H)) (hy:arT P ts u y=some yd) (h:ZuS P own row t u all H K yd xd=some out):∃a d H' hs c,K a d H' hs c=some out/\Good P o ts all H a d H' hs c:=by
 have hw:=Zm (L:=lk H) hy;unfold ZuS at h;split at h
 ·rename_i id nn T;split at h
  ·rename_i e hu;obtain⟨i,h1,h⟩:=yf.1 h;obtain⟨m,h2,h⟩:=yf.1 h;obtain⟨zs,h3,h⟩:=yf.1 h;obtain⟨ys,hs,C,k1,k2,k3⟩:=Zj0 h;obtain⟨k4,k6⟩:=Za k1;obtain⟨k5,kk⟩:=Za k6;clear k1 k6;simp only[yj,yP] at k4;obtain⟨⟨⟨g1,g2⟩,g3⟩,g4⟩:=k4;simp only[apB,yj,yP] at k5;have hl:=ZzD h2;obtain⟨mt,me,ml⟩:=m;dsimp only at h3 g3 hl;obtain⟨eT,h3⟩:=Zu h3;subst eT;subst h3;subst g3;have hlt:id < H.length:=(yq.1 hl).1
   have ec:ZW (lk H) id mt none=zs:=by
    unfold ZW lk;dsimp only;rw[hl];show(Ty.castL mt mt zs).getD []=zs;unfold Ty.castL;split
    ·rfl
    ·rename_i h _;exact absurd rfl h
   refine⟨_,_,_,_,_,kk,ers_stale (λid' t hn=>QK (lk H) id' t hn) all,ZcR all,or3 (⟨rfl,λyK=> ?_,λyK=> ?_,
    C++[zs.map mt.enc=zs.map mt.enc,((zs.map mt.enc).length+(ys.map mt.enc).length)*i.bytes<=Zk,(zs.map mt.enc).length+(ys.map mt.enc).length<=maxLen],Zj.2 ⟨k2,rfl,by simpa using k5.1,by simpa using k5.2,ytt⟩,λyK=> ?_⟩)⟩
   ·unfold evN;rw[ho];dsimp only;rw[hc];dsimp only;rw[ha,ht];split
    ·rename_i e1 e2 e3;simp only[List.cons.injEq,and_true] at e1 e2;obtain⟨rfl,rfl⟩:=e1;obtain⟨rfl,rfl⟩:=e2;rw[hu,hv];rfl
    ·rfl
   ·unfold evR;rw[ho];dsimp only;rw[hc]
   ·unfold evE;rw[ho];dsimp only;rw[hc];dsimp only;rw[ha,ht];dsimp only;rw[hu,hv,hw];dsimp only[TD.er];rw[ec,h1,k3 yK,Z2 hl];dsimp only[TEnt.er];rw[yW (by simp[g1,g2,g4]),ZEf,ZEl _ (by rw[yy];exact hlt),yai]
  ·cases h
 ·rename_i id v s lo n;split at h
  ·rename_i e hu;obtain⟨i,h1,h⟩:=yf.1 h;obtain⟨T,h2,h⟩:=yf.1 h;obtain⟨ys,hs,C,k1,k2,k3⟩:=Zj0 h
   have nN:∀hs,evN P o (TD.ers (lk H) ts) hs=none:=λhs=>by
    unfold evN;rw[ho];dsimp only;rw[hc];dsimp only;rw[ha,ht]
    cases hs with
    |nil=>rfl
    |cons h0 hr=>cases h0 <;> first|rfl|(dsimp only;rw[hu,hv];rfl)
   have nR:∀hs,evR P o (TD.ers (lk H) ts) (erH H) hs=none:=λhs=>by
    unfold evR;rw[ho];dsimp only;rw[hc]
   split at k1
   ·rename_i hemp;obtain⟨k4,k5⟩:=Za k1;simp only[yj,yP] at k4;have hys:ys=[]:=by simpa using hemp
    refine⟨_,_,_,_,_,k5,rfl,rfl,or3 (⟨rfl,λyK=>nN _,λyK=>nR _,C++[ys.map T.enc=[]],Zj.2 ⟨k2,by rw[hys];rfl,ytt⟩,λyK=> ?_⟩)⟩;unfold evE;rw[ho];dsimp only;rw[hc];dsimp only;rw[ha,ht];dsimp only;rw[hu,hv,hw];dsimp only[TD.er];rw[yab];dsimp only;rw[h1,k4.2,k3 yK];dsimp only;rw[yW k4.1]
   ·split at k1
    ·rename_i w s' e' d hd;obtain⟨y0,p1,q1⟩:=yf.1 k1;obtain⟨r,p2,q2⟩:=yf.1 q1;obtain⟨xs,p3,q3⟩:=yf.1 q2;obtain⟨p4,q4⟩:=Za q3;obtain⟨p5,q5⟩:=Za q4;simp only[yj,yP,yT] at p4;obtain⟨⟨⟨⟨⟨⟨⟨g1,g2⟩,g3⟩,g4⟩,g5⟩,g6⟩,g7⟩,g8⟩:=p4;simp only[apB,yj,yP] at p5
     have esub:d.er (lk H)=.p (.arr r.n T.size (xs.map T.enc)):=by
      rw[YJ p1,TD.er,Vf p2];obtain⟨e,p3⟩:=Zu p3;obtain⟨n0,t0,l0⟩:=r;dsimp only at e p3 ⊢;subst e;subst p3;rfl
     refine⟨_,_,_,_,_,q5,V7 hd rfl rfl,rfl,or3 (⟨rfl,λyK=>nN _,λyK=>nR _,C++[n<=r.n,(n+(ys.map T.enc).length)*i.bytes<=Zk,n+(ys.map T.enc).length<=maxLen,true=true\/n=r.n],
      Zj.2 ⟨k2,p5.1,by simpa using p5.2.1,by simpa using p5.2.2,.inl rfl,ytt⟩,λyK=> ?_⟩)⟩
     unfold evE;rw[ho];dsimp only;rw[hc];dsimp only;rw[ha,ht];dsimp only;rw[hu,hv,hw];dsimp only[TD.er];rw[yab];dsimp only;rw[h1,g8,k3 yK,Z2 hd,TEnt.er,esub];dsimp only;rw[yW (by simp[g1,g2,g3,g4,g5,g6,g7]),Xf (WM hd rfl rfl)];simp only[TEnt.er,TD.er,TP.pe,Zus,yy,yai,ycg]
    ·cases k1
  ·cases h
 ·rename_i T0;split at h
  ·split at h
   ·rename_i e hu;obtain⟨i,h1,h⟩:=yf.1 h;obtain⟨T,h2,h⟩:=yf.1 h;obtain⟨ys,h3,h⟩:=yf.1 h;obtain⟨k4,h⟩:=Za h;obtain⟨k5,h⟩:=Za h;simp only[yj,yP] at k4;obtain⟨⟨⟨g1,g2⟩,g3⟩,g4⟩:=k4;obtain⟨g7,g8⟩:=Q2 k5;refine⟨_,_,_,_,_,h,ZaK rfl,rfl,or3 (⟨rfl,λyK=> ?_,λyK=> ?_,[(ys.map T.enc).length*i.bytes<=Zk,(ys.map T.enc).length<=maxLen],⟨by rw[yy];exact g7,by rw[yy];exact g8,ytt⟩,λyK=> ?_⟩)⟩
    ·unfold evN;rw[ho];dsimp only;rw[hc];dsimp only;rw[ha,ht];rfl
    ·unfold evR;rw[ho];dsimp only;rw[hc]
    ·unfold evE;rw[ho];dsimp only;rw[hc];dsimp only;rw[ha,ht];dsimp only;rw[hu,hv,hw,show(TD.p (TP.sl (some false) T0 [])).er (lk H)=Dv.p (.sl (some false) T0.size []) from rfl]
     dsimp only;rw[h1,g4,Zh9 h3,yab,yx];dsimp only;rw[yW (by simp only[yj];exact⟨g1,g2⟩),Q5 (Q4 rfl),ZC];simp only[TEnt.er,TD.er,TP.pe,Zus,yy,g3]
   ·cases h
  split at h
  ·split at h
   ·rename_i e hu;obtain⟨i,h1,h⟩:=yf.1 h;obtain⟨T,h2,h⟩:=yf.1 h;obtain⟨ys,h3,h⟩:=yf.1 h;obtain⟨k4,h⟩:=Za h;obtain⟨k5,h⟩:=Za h;simp only[yj,yP] at k4;obtain⟨⟨⟨⟨⟨g1,g2⟩,g3⟩,g4⟩,g5⟩,g6⟩:=k4;obtain⟨g7,g8⟩:=Q2 k5;refine⟨_,_,_,_,_,h,ZcQ g5,rfl,or3 (⟨rfl,λyK=> ?_,λyK=> ?_,[(ys.map T.enc).length*i.bytes<=Zk,(ys.map T.enc).length<=maxLen],⟨by rw[yy];exact g7,by rw[yy];exact g8,ytt⟩,λyK=> ?_⟩)⟩
    ·unfold evN;rw[ho];dsimp only;rw[hc];dsimp only;rw[ha,ht];rfl
    ·unfold evR;rw[ho];dsimp only;rw[hc]
    ·unfold evE;rw[ho];dsimp only;rw[hc];dsimp only;rw[ha,ht];dsimp only;rw[hu,hv,hw,show(TD.p (TP.sl (some false) T0 [])).er (lk H)=Dv.p (.sl (some false) T0.size []) from rfl]
     dsimp only;rw[h1,g4,Zh9 h3,yab,yx];dsimp only;rw[yW (by simp only[yj];exact⟨g1,g2⟩),ZA4 g6,ZC,TD.er,ZeQ,g3]
   ·cases h
  ·cases h
 ·cases h
def ZzF(P:yg)(t:yc)(all:yL TD)(H:yL TEnt)(K:Kn O):TD->yO O
 |.rv id v s lo n=>match P.underlying t,H[id]? with
  |some (.slice e),some (.row w s' true e' d)=>(P.info? e).bind λi=>(ZpR P e).bind λz=>d.inner.bind λy=>y.arow.bind λr=>(TP.to ZgW z r.t).bind λz'=>
   if(zOk i&&decide (i.size=s)&&decide (s'=s)&&decide (r.t.size=s)&&w==v&&s !=0&&z.pe.size==s&&decide (n=1))=true then if decide (lo+1<=r.n)=true then
    K all (.tup []) (H.set id (.row v s true e' (.p (.v (.arr r.n r.t) (r.l.set lo z'))))) [] 2 else none else none
  |_,_=>none
 |_=>none
theorem Zxe{t:yc}{x:yn}{c:Call}{xd:TD}(ho:o.op=.call c)(hc:c.callee=.builtin .clear)(ha:c.args.toList=[x])(ht:c.argTypes.toList=[t])
 (hx:arT P ts t x=some xd) (h:ZzF P t all H K xd=some out):∃a d H' hs c,K a d H' hs c=some out/\Good P o ts all H a d H' hs c:=by
 have hv:=Zm (L:=lk H) hx;unfold ZzF at h;split at h
 ·rename_i id v s lo n;split at h
  ·rename_i e w s' e' d hu hd;obtain⟨i,h1,h⟩:=yf.1 h;obtain⟨z,h2,h⟩:=yf.1 h;obtain⟨y,p1,q1⟩:=yf.1 h;obtain⟨r,p2,q2⟩:=yf.1 q1;obtain⟨z',p3,q3⟩:=yf.1 q2;obtain⟨p4,q4⟩:=Za q3;obtain⟨p5,k1⟩:=Za q4;clear q1 q2 q3 q4 h;simp only[yj,yP] at p4;obtain⟨⟨⟨⟨⟨⟨⟨g1,g2⟩,g3⟩,g4⟩,g5⟩,g6⟩,g7⟩,g8⟩:=p4;have g8':=g8;subst g8;have p5:=yF p5;have esub:d.er (lk H)=.p (.arr r.n r.t.size (r.l.map r.t.enc)):=by rw[YJ p1,TD.er,Vf p2]
   refine⟨_,_,_,_,_,k1,V7 hd rfl rfl,rfl,or3 (⟨rfl,λyK=> ?_,λyK=> ?_,[lo+1<=r.n],⟨p5,ytt⟩,λyK=> ?_⟩)⟩
   ·unfold evN;rw[ho];dsimp only;rw[hc]
   ·unfold evR;rw[ho];dsimp only;rw[hc]
   ·unfold evE;rw[ho];dsimp only;rw[hc];dsimp only;rw[ha,ht];dsimp only;rw[hu,hv];dsimp only[TD.er];rw[h1,ZgZ h2,Z2 hd,TEnt.er,esub];dsimp only;rw[yW (by simp only[yj,yP];exact⟨⟨⟨⟨⟨⟨⟨g1,g2⟩,g3⟩,g4⟩,g5⟩,g6⟩,g7⟩,ytt⟩),Xf (WM hd rfl rfl),Zb4 z r.t z' p3];have eset:(r.l.set lo z').map r.t.enc=(r.l.map r.t.enc).set lo (r.t.enc z'):=ybm ..;show some ([lo+1<=r.n],Dv.tup [],(erH H).set id (Ent.row v s true e' (.p (.arr r.n s ((r.l.map r.t.enc).set lo (r.t.enc z'))))),yK)=some ([lo+1<=r.n],Dv.tup [],(erH H).set id (Ent.row v s true e' (.p (.arr r.n r.t.size ((r.l.set lo z').map r.t.enc)))),yK);rw[eset,g4]
  ·cases h
 ·cases h
def ZEm(P:yg)(t u:yc)(all:yL TD)(H:yL TEnt)(K:Kn O)(y:TD):TD->yO O
 |.view id yQ s lo n=>match P.underlying t,H[id]? with
  |some (.slice e),some (.var d true)=>gpT (lk H) yQ d λsub hs put=>sub.inner.bind λy0=>y0.arow.bind λr=>(Zw5 (lk H) P r.t u y).bind λys=>
   (put (.p (.v (.arr r.n r.t) (r.l.take lo++(ys++r.l.drop (lo+ys.length)))))).bind λd'=>
     if(decide (r.t.size=s)&&decide (P.cellsOf e=s)&&(P.info? e).isSome&&decide (ys.length<=n)&&decide (lo+n<=r.n))=true then K all (.p (.v (.int .i64) (ys.length:Int))) (H.set id (.var d' true)) hs 2 else none
  |_,_=>none
 |_=>none
theorem ZzG{t u:yc}{x y:yn}{c:Call}{xd yd:TD}(ho:o.op=.call c)(hc:c.callee=.builtin .copy)(ha:c.args.toList=[x,y])(ht:c.argTypes.toList=[t,u])
 (hx:arT P ts t x=some xd) (hy:arT P ts u y=some yd) (h:ZEm P t u all H K yd xd=some out):∃a d H' hs c,K a d H' hs c=some out/\Good P o ts all H a d H' hs c:=by
 have hv:=Zm (L:=lk H) hx;have hw:=Zm (L:=lk H) hy;unfold ZEm at h;split at h
 ·rename_i id yQ s lo n;split at h
  ·rename_i e d hu hd;obtain⟨sub,hs,put,C,k1,k2,k3,k4⟩:=XJ _ _ _ _ h;obtain⟨y0,p1,k1⟩:=yf.1 k1;obtain⟨r,p2,k1⟩:=yf.1 k1;obtain⟨ys,p3,k1⟩:=yf.1 k1;obtain⟨d',p4,k1⟩:=yf.1 k1;obtain⟨p5,k1⟩:=Za k1;simp only[yj,yP] at p5;obtain⟨⟨⟨⟨g1,g2⟩,g3⟩,g4⟩,g5⟩:=p5;have esub:sub.er (lk H)=.p (.arr r.n r.t.size (r.l.map r.t.enc)):=by rw[YJ p1,TD.er,Vf p2]
   refine⟨_,_,_,_,_,k1,V7 hd rfl rfl,rfl,or3 (⟨rfl,λyK=> ?_,λyK=> ?_,C++[Zb6 yQ=Wg yQ,(ys.map r.t.enc).length<=n,lo+n<=r.n],Zj.2 ⟨k2,(XT _).symm,by rw[yy];exact g4,g5,ytt⟩,λyK=> ?_⟩)⟩
   ·unfold evN;rw[ho];dsimp only;rw[hc]
   ·unfold evR;rw[ho];dsimp only;rw[hc]
   ·unfold evE;rw[ho];dsimp only;rw[hc];dsimp only;rw[ha,ht];dsimp only;rw[hu,hv,hw];dsimp only[TD.er];rw[<-g1,Zh9 p3,Z2 hd];dsimp only[TEnt.er];rw[k3 yK,esub];dsimp only;have:=k4 _ _ p4 yK
    have e1:(TD.p (.v (.arr r.n r.t) (r.l.take lo++(ys++r.l.drop (lo+ys.length))))).er (lk H)=.p (.arr r.n r.t.size (Zmc (r.l.map r.t.enc) (ys.map r.t.enc) lo)):=by
     show Dv.p (Pl.arr r.n r.t.size ((r.l.take lo++(ys++r.l.drop (lo+ys.length))).map r.t.enc))=_;unfold Zmc;rw[yai,yai,ycg,List.map_drop,yy]
    rw[e1] at this;rw[this];dsimp only;rw[yW (by simp only[yj,yP];exact⟨⟨zP,by rw[g1];exact g2⟩,g3⟩),Xf (WM hd rfl rfl),yy];rfl
  ·cases h
 ·cases h
def ZzH(H:yL TEnt)(id:Nat):Bool:=
 match H[id]? with
 |some (.var _ false)=>true
 |_=>false
def ZI9(P:yg)(t:yc)(lo hi:yO Int)(all:yL TD)(H:yL TEnt)(K:Kn O):TD->yO O
 |.ref id yQ=>match P.underlying t with
  |some (.array n e)=>(ZnA H id).bind λd=>gpT (lk H) yQ d λsub hs _=>sub.inner.bind λy=>y.arow.bind λr=>
   if(decide (n=r.n)&&okB P e r.t.size&&decide (n<=maxLen))=true then if ZdA n lo hi=true then(if ZzH H id=true then K all (.p (.sl (some true) r.t (WI r.l lo hi))) H (.frz::hs) 1 else
    K all (.p (.sl (some true) r.t (WI r.l lo hi))) (H.set id (.var d false)) (.frz::hs) 2) else none else none
  |_=>none
 |_=>none
theorem ZCG{t:yc}{x:yn}{lo hi:yO yn}{l h':yO Int}{xd:TD}(ho:o.op=.slice t x lo hi none)(hx:arT P ts t x=some xd)(hl:ZdC P ts lo=some l)(hh:ZdC P ts hi=some h')
 (h:ZI9 P t l h' all H K xd=some out):∃a d H' hs c,K a d H' hs c=some out/\Good P o ts all H a d H' hs c:=by
 have hv:=Zm (L:=lk H) hx;have hl:=Q3 (L:=lk H) hl;have hh:=Q3 (L:=lk H) hh;unfold ZI9 at h;split at h
 ·rename_i id yQ;split at h
  ·rename_i n e hu;obtain⟨d,h1,h⟩:=yf.1 h;obtain⟨st,h2,h3⟩:=ZcO h1;obtain⟨sub,hs,put,C,k1,k2,k3,_⟩:=XJ _ _ _ _ h;obtain⟨y,p1,k1⟩:=yf.1 k1;obtain⟨r,p2,k1⟩:=yf.1 k1;obtain⟨p4,k1⟩:=Za k1;obtain⟨p5,k1⟩:=Za k1;have esub:sub.er (lk H)=.p (.arr r.n r.t.size (r.l.map r.t.enc)):=by rw[YJ p1,TD.er,Vf p2]
   have nN:∀yK,evN P o (TD.ers (lk H) ts) (.frz::hs++yK)=none:=λyK=>by
    unfold evN;rw[ho];dsimp only;rw[hu,hv,hl,hh];rfl
   split at k1
   ·rename_i hst
    have hst':st=false:=by
     unfold ZzH at hst;rw[h2] at hst
     cases st with
     |false=>rfl
     |true=>cases hst
    subst hst';refine⟨_,_,_,_,_,k1,rfl,rfl,.inr (.inl ⟨rfl,rfl,nN,C++[Zb6 yQ=Wg yQ]++Yy n l h',Zj.2 ⟨Zj.2 ⟨k2,(XT _).symm,ytt⟩,ZcM p5⟩,λyK=> ?_⟩)⟩;unfold evR;rw[ho];dsimp only;rw[hu,hv,hl,hh];dsimp only[TD.er];rw[yab];dsimp only;rw[h3];dsimp only;rw[k3 yK,esub];dsimp only;rw[yW (by simpa[okB,and_assoc] using p4),TP.pe,ZdQ]
   rename_i hst
   have hst':st=true:=by
    unfold ZzH at hst;rw[h2] at hst
    cases st with
    |true=>rfl
    |false=>exact absurd rfl hst
   subst hst';refine⟨_,_,_,_,_,k1,V7 h2 rfl rfl,rfl,or3 (⟨rfl,nN,λyK=> ?_,C++[Zb6 yQ=Wg yQ]++Yy n l h',Zj.2 ⟨Zj.2 ⟨k2,(XT _).symm,ytt⟩,ZcM p5⟩,λyK=> ?_⟩)⟩
   ·unfold evR;rw[ho];dsimp only;rw[hu,hv,hl,hh];dsimp only[TD.er];rw[yab];dsimp only;rw[h3]
   ·unfold evE;rw[ho];dsimp only;rw[hu,hv,hl,hh];dsimp only[TD.er];rw[yab];dsimp only;rw[h3];dsimp only;rw[k3 yK,esub];dsimp only;rw[yW (by simpa[okB,and_assoc] using p4),Xf (WM h2 rfl rfl),TP.pe,ZdQ];rfl
  ·cases h
 ·cases h
def ZuU(dst:Tmp)(all:yL TD)(H:yL TEnt)(K:Kn O):TD->yO O
 |.view id yQ s lo n=>(ZnA H id).bind λd=>gpT (lk H) yQ d λsub hs _=>sub.inner.bind λy=>y.arow.bind λr=>
  if(decide (r.t.size=s))=true then if(decide (lo+n<=r.n))=true then K all (.p (.sl (some true) r.t ((r.l.drop lo).take n))) (H.set id (.var d false)) (.still dst::hs) 2 else none else none
 |.rv id v s lo n=>match H[id]? with
  |some (.row w s' _ e d)=>d.inner.bind λy=>y.arow.bind λr=>
   if(decide (r.t.size=s)&&decide (s'=s)&&w==v)=true then if(decide (lo+n<=r.n))=true then K all (.p (.sl none r.t ((r.l.drop lo).take n))) (H.set id (.row v s false e d)) [.still dst] 2 else none else none
  |_=>none
 |_=>none
theorem Zxf{dst:Tmp}{xd:TD}(h:ZuU dst all H K xd=some out):∃a d H' hs,K a d H' (.still dst::hs) 2=some out/\TD.ers (lk H') a=TD.ers (lk H) all/\a.length=all.length/\
 ∃C,AllP C/\∀yK,ZcB (xd.er (lk H)) (erH H) (hs++yK)=some (C,d.er (lk H'),erH H',yK):=by
 unfold ZuU at h;split at h
 ·rename_i id yQ s lo n;obtain⟨d,h1,h⟩:=yf.1 h;obtain⟨st,h2,h3⟩:=ZcO h1;obtain⟨sub,hs,put,C,k1,k2,k3,_⟩:=XJ _ _ _ _ h;obtain⟨y,p1,k1⟩:=yf.1 k1;obtain⟨r,p2,k1⟩:=yf.1 k1;obtain⟨p4,k1⟩:=Za k1;obtain⟨p5,k1⟩:=Za k1;have p4:=yF p4;have p5:=yF p5;have esub:sub.er (lk H)=.p (.arr r.n r.t.size (r.l.map r.t.enc)):=by rw[YJ p1,TD.er,Vf p2]
  refine⟨_,_,_,_,k1,V7 h2 rfl rfl,rfl,C++[Zb6 yQ=Wg yQ,lo+n<=r.n],Zj.2 ⟨k2,(XT _).symm,p5,ytt⟩,λyK=> ?_⟩;unfold ZcB;rw[show(TD.view id yQ s lo n).er (lk H)=Dv.view id (Wg yQ) (yQ.map Stp.i) s lo n from rfl]
  try dsimp only
  rw[h3]
  try dsimp only
  rw[k3 yK,esub]
  try dsimp only
  rw[yW p4,Xf (WM h2 rfl rfl),TD.er,TP.pe,ycg,List.map_drop,p4]
  try rfl
 ·rename_i id v s lo n;split at h
  ·rename_i w s' st e d hd;obtain⟨y,p1,k1⟩:=yf.1 h;obtain⟨r,p2,k1⟩:=yf.1 k1;obtain⟨p4,k1⟩:=Za k1;obtain⟨p5,k1⟩:=Za k1;simp only[yj,yP] at p4;have p5:=yF p5;have esub:d.er (lk H)=.p (.arr r.n r.t.size (r.l.map r.t.enc)):=by rw[YJ p1,TD.er,Vf p2]
   refine⟨_,_,_,[],k1,V7 hd rfl rfl,rfl,[lo+n<=r.n],⟨p5,ytt⟩,λyK=> ?_⟩;rw[yx];unfold ZcB;rw[show(TD.rv id v s lo n).er (lk H)=Dv.rv id v s lo n from rfl]
   dsimp only;rw[Z2 hd,TEnt.er,esub];dsimp only;rw[yW (by simp[p4]),Xf (WM hd rfl rfl),TEnt.er,esub,TD.er,TP.pe,ycg,List.map_drop,p4.1.1]
  ·cases h
 ·cases h
theorem Zxg{x:yn}{dst:Tmp}{xd:TD}(ho:o.op=.assign x\/o.op=.move x)(hd:o.dst=some dst)(hx:arT P ts o.type x=some xd)(h:ZuU dst all H K xd=some out):
 ∃a d H' hs c,K a d H' hs c=some out/\Good P o ts all H a d H' hs c:=by
 have hv:=Zm (L:=lk H) hx;obtain⟨a,d,H',hs,k1,k2,k3,C,k4,k5⟩:=Zxf h;refine⟨_,_,_,_,_,k1,k2,k3,or3 (⟨rfl,λyK=> ?_,λyK=> ?_,C,k4,λyK=> ?_⟩)⟩
 ·rcases ho with ho|ho <;> (unfold evN;rw[ho];rfl)
 ·rcases ho with ho|ho <;> (unfold evR;rw[ho])
 ·rcases ho with ho|ho
  ·unfold evE;rw[ho];dsimp only;rw[yab];dsimp only;rw[yW hd,hv];exact k5 yK
  ·unfold evE;rw[ho];dsimp only;rw[yab];dsimp only;rw[yW hd,hv];exact k5 yK
def TD.isRw:TD->Bool
 |.rw _=>true
 |_=>false
def TD.isRp:TD->Bool
 |.rp _ _=>true
 |_=>false
theorem ZA8{id:Nat}{T:Ty}{v:yL Unit}{st st':Bool}{e e':yc}{l l':yL T.den}(hd:H[id]? =some (.rowT T v st e l))(hl:l'.length=l.length):lk (H.set id (.rowT T v st' e' l'))=lk H:=by
 funext j;unfold lk;by_cases hj:id=j
 ·subst hj;rw[getElem?_set_eq' hd,hd];show some _=some _;rw[hl]
 ·rw[getElem?_set_ne' hj]
def ZuV(P:yg)(t:yc)(i:Int)(all:yL TD)(H:yL TEnt)(K:Kn O):TD->yO O
 |.rw id=>match P.underlying t,H[id]? with
  |some (.slice e),some (.rowT T v st e' l)=>if okB P e T.size=true then if inB i l.length=true then K all (.rp id [.ix i.toNat T.size]) H [] 0 else none else none
  |_,_=>none
 |_=>none
theorem ZuW{t:yc}{x ix:yn}{xd:TD}{q:IntKind×Int}{ip:TP}(ho:o.op=.indexAddr t x ix)(hx:arT P ts t x=some xd)(hi:arT P ts 0 ix=some (.p ip))(hq:Zut ip=some q)(h:ZuV P t q.2 all H K xd=some out):
 ∃a d H' hs c,K a d H' hs c=some out/\Good P o ts all H a d H' hs c:=by
 have hv:=Zm (L:=lk H) hx;have hw:=Zm (L:=lk H) hi;rw[TD.er,(ZoT hq).1] at hw;unfold ZuV at h;split at h
 ·rename_i id;split at h
  ·rename_i e T v st e' l hu hd;obtain⟨h3,h⟩:=Za h;obtain⟨h4,h⟩:=Za h;refine⟨_,_,_,_,_,h,rfl,rfl,.inl ⟨rfl,rfl,[0<=q.2,q.2 < (l.length:Int)],⟨(Qj h4).1,(Qj h4).2,ytt⟩,λyK=> ?_⟩⟩;simp only[yx];unfold evN;rw[ho];dsimp only;rw[hu,hv,hw,(Zaz hd).1,(Zaz hd).2];dsimp only;rw[yW (by simpa[okB] using h3)];simp[Wg,Stp.o,Stp.i]
  ·cases h
 ·cases h
def ZEn(P:yg)(t:yc)(all:yL TD)(H:yL TEnt)(K:Kn O):TD->yO O
 |.rw id=>match P.underlying t,H[id]? with
  |some (.slice _),some (.rowT T v st e' l)=>K all (.p (.v (.int .i64) (l.length:Int))) H [] 0
  |_,_=>none
 |_=>none
theorem ZzI{t:yc}{x:yn}{c:Call}{xd:TD}(ho:o.op=.call c)(hc:c.callee=.builtin .len)(ha:c.args.toList=[x])(ht:c.argTypes.toList=[t])(hx:arT P ts t x=some xd)(h:ZEn P t all H K xd=some out):
 ∃a d H' hs c,K a d H' hs c=some out/\Good P o ts all H a d H' hs c:=by
 have hv:=Zm (L:=lk H) hx;unfold ZEn at h;split at h
 ·rename_i id;split at h
  ·rename_i e T v st e' l hu hd;refine⟨_,_,_,_,_,h,rfl,rfl,.inl ⟨rfl,rfl,[],zP,λyK=> ?_⟩⟩;simp only[yx];unfold evN;rw[ho];dsimp only;rw[hc];dsimp only;rw[ha,ht];dsimp only;rw[hu,hv,(Zaz hd).1];rfl
  ·cases h
 ·cases h
def ZzJ(P:yg)(t:yc)(all:yL TD)(H:yL TEnt)(K:Kn O):TD->yO O
 |.rp id yQ=>match H[id]? with
  |some (.rowT T v st e l)=>gpT (lk H) yQ (.p (.v (.arr l.length T) l)) λsub hs _=>if okT P t (sub.er (lk H))=true then K all sub H hs 1 else none
  |_=>none
 |_=>none
theorem Zxh{t:yc}{x:yn}{xd:TD}(ho:o.op=.load t x)(hx:arT P ts 0 x=some xd)(h:ZzJ P t all H K xd=some out):∃a d H' hs c,K a d H' hs c=some out/\Good P o ts all H a d H' hs c:=by
 have hv:=Zm (L:=lk H) hx;unfold ZzJ at h;split at h
 ·rename_i id yQ;split at h
  ·rename_i T v st e l hd;obtain⟨sub,hs,put,C,k1,k2,k3,_⟩:=XJ _ _ _ _ h;obtain⟨k4,k5⟩:=Za k1;refine⟨_,_,_,_,_,k5,rfl,rfl,.inr (.inl ⟨rfl,rfl,λyK=> ?_,C++[Zb6 yQ=Wg yQ],Zj.2 ⟨k2,(XT _).symm,ytt⟩,λyK=> ?_⟩)⟩
   ·unfold evN;rw[ho];dsimp only;rw[hv];rfl
   ·unfold evR;rw[ho];dsimp only;rw[hv,(Zaz hd).2];dsimp only;rw[Z2 hd];dsimp only[TEnt.er];have k6:Z7 (.p (.arr l.length T.size (l.map T.enc))) (yQ.map Stp.i) (hs++yK)=some (C,Zb6 yQ,sub.er (lk H),yK):=k3 yK;rw[k6];dsimp only;rw[yW (by rw[yj];exact⟨k4,by simp⟩)]
  ·cases h
 ·cases h
def ZuX(P:yg)(t:yc)(all:yL TD)(H:yL TEnt)(K:Kn O)(v:TD):TD->yO O
 |.rp id (.ix i s::r)=>match H[id]? with
  |some (.rowT T u true e l)=>if s=T.size then(l[i]?).bind λy=>gpT (lk H) r (.p (.v T y)) λsub hs put=>(put (v.meltP (lk H))).bind λd1=>d1.inner.bind λz=>(TP.to ZgW z T).bind λy'=>
   if Zid P t ((v.meltP (lk H)).er (lk H)) (sub.er (lk H))=true then K all .junk (H.set id (.rowT T u true e (l.set i y'))) (.el (T.enc y)::hs) 2 else none else none
  |_=>none
 |_=>none
theorem ZuY{t:yc}{x y:yn}{xd yd:TD}(ho:o.op=.store t x y)(hx:arT P ts 0 x=some xd)(hy:arT P ts t y=some yd)(h:ZuX P t all H K yd xd=some out):
 ∃a d H' hs c,K a d H' hs c=some out/\Good P o ts all H a d H' hs c:=by
 have hv:=Zm (L:=lk H) hx;have hw:=Zm (L:=lk H) hy;unfold ZuX at h;split at h
 ·rename_i id i s r;split at h
  ·rename_i T u e l hd;split at h
   ·rename_i hs0;obtain⟨y0,h2,h⟩:=yf.1 h;obtain⟨sub,hs,put,C,k1,k2,k3,k4⟩:=XJ r (.p (.v T y0)) _ out h;obtain⟨d1,p1,k1⟩:=yf.1 k1;obtain⟨z,p2,k1⟩:=yf.1 k1;obtain⟨y',p3,k1⟩:=yf.1 k1;obtain⟨h4,k1⟩:=Za k1;have h4':=h4;unfold Zid at h4';have hL:lk (H.set id (.rowT T u true e (l.set i y')))=lk H:=ZA8 hd (by rw[List.length_set])
    have hg:∀yK,Z7 (.p (.arr l.length T.size (l.map T.enc))) (i::r.map Stp.i) (.el (T.enc y0)::(hs++yK))=some (((l.map T.enc)[i]? =some (T.enc y0))::C,i*T.size+Zb6 r,sub.er (lk H),yK):=by
     intro yK;unfold Z7;dsimp only;have:=k3 yK;rw[TD.er,TP.pe] at this;rw[this,yaa]
    have hp:∀yK,Wl ((yd.meltP (lk H)).er (lk H)) (.p (.arr l.length T.size (l.map T.enc))) (i::r.map Stp.i) (.el (T.enc y0)::(hs++yK))=some (.p (.arr l.length T.size ((l.set i y').map T.enc))):=by
     intro yK;have:=k4 _ d1 p1 yK;rw[TD.er,TP.pe] at this;unfold Wl;dsimp only;rw[this,YJ p2,TD.er];dsimp only;rw[Zb4 z T y' p3, <-ybm]
    refine⟨_,_,_,_,_,k1,by rw[hL],rfl,or3 (⟨rfl,λyK=> ?_,λyK=> ?_,(((l.map T.enc)[i]? =some (T.enc y0))::C)++[i*T.size+Zb6 r=Wg (.ix i s::r)],
     Zj.2 ⟨⟨ZkQ h2,k2⟩,by rw[XT,Zb6,Stp.o,hs0],ytt⟩,λyK=> ?_⟩)⟩
    ·unfold evN;rw[ho]
    ·unfold evR;rw[ho]
    ·unfold evE;rw[ho];dsimp only;rw[hv,hw,(Zaz hd).2];dsimp only;rw[Z2 hd];dsimp only[TEnt.er];rw[yad,show(Stp.ix i s).i=i from rfl,yab,hg yK]
     dsimp only;have hst:ZcA (i::r.map Stp.i) (.p (.arr l.length T.size (l.map T.enc))) (yd.er (lk H))=some ((yd.meltP (lk H)).er (lk H)):=Zmv (yQ:=.ix i s::r) (d:=.p (.v (.arr l.length T) l)) (v:=yd) (new:=yd.meltP (lk H)) (L:=lk H) rfl;rw[hst];dsimp only;rw[hp yK];dsimp only;rw[yW (by simp only[yj] at h4' ⊢;exact⟨⟨h4',by simp⟩,by simp[rowN]⟩),Xf hL];simp only[TEnt.er,List.length_set];rfl
   ·cases h
  ·cases h
 ·cases h
def ZuZ(dst:Tmp)(all:yL TD)(H:yL TEnt)(K:Kn O):TD->yO O
 |.rw id=>match H[id]? with
  |some (.rowT T v st e l)=>K all (.p (.sl none T l)) (H.set id (.rowT T v false e l)) [.still dst] 2
  |_=>none
 |_=>none
theorem Zu0{x:yn}{dst:Tmp}{xd:TD}(ho:o.op=.assign x\/o.op=.move x)(hd:o.dst=some dst)(hx:arT P ts o.type x=some xd)(h:ZuZ dst all H K xd=some out):
 ∃a d H' hs c,K a d H' hs c=some out/\Good P o ts all H a d H' hs c:=by
 have hv:=Zm (L:=lk H) hx;unfold ZuZ at h;split at h
 ·rename_i id;split at h
  ·rename_i T v st e l hr;have hL:lk (H.set id (.rowT T v false e l))=lk H:=ZA8 hr rfl
   have k5:∀yK,ZcB ((TD.rw id).er (lk H)) (erH H) yK=some ([0+l.length<=l.length],.p (.sl none T.size (l.map T.enc)),erH (H.set id (.rowT T v false e l)),yK):=by
    intro yK;unfold ZcB;rw[(Zaz hr).1];dsimp only;rw[Z2 hr,TEnt.er];dsimp only;rw[yW (by simp),Xf hL,TEnt.er,List.drop_zero, <-yy (f:=T.enc),yak]
   refine⟨_,_,_,_,_,h,by rw[hL],rfl,or3 (⟨rfl,λyK=> ?_,λyK=> ?_,[0+l.length<=l.length],⟨by omega,ytt⟩,λyK=> ?_⟩)⟩
   ·rcases ho with ho|ho <;> (unfold evN;rw[ho];rfl)
   ·rcases ho with ho|ho <;> (unfold evR;rw[ho])
   ·rcases ho with ho|ho
    ·unfold evE;rw[ho];dsimp only;rw[yab];dsimp only;rw[yW hd,hv];exact k5 yK
    ·unfold evE;rw[ho];dsimp only;rw[yab];dsimp only;rw[yW hd,hv];exact k5 yK
  ·cases h
 ·cases h
theorem Zxi{L M:Lk}{n:Nat}(h:∀id t,id≠n->ZW L id t none=ZW M id t none)(x:TEnt)(hf:x.free n=true):x.er L=x.er M:=by
 cases x with
 |var d st=>rw[TEnt.er,TEnt.er,Zb5 h d hf]
 |row v s st e d=>rw[TEnt.er,TEnt.er,Zb5 h d hf]
 |rowM t np v st e pre d post=>rw[TEnt.er,TEnt.er,Zb5 h d hf]
 |_=>rfl
theorem Zg0{T:Ty}{v:yL Unit}{st:Bool}{e:yc}{l:yL T.den}(h:H.all (TEnt.free H.length)=true):erH (H++[.rowT T v st e l])=erH H++[.row v.length T.size st e (.p (.arr l.length T.size (l.map T.enc)))]:=by
 unfold erH;rw[yai];congr 1;refine ycn λx hx=> ?_;have hf:=yba.1 h x hx;exact(Zxi (λid t hn=>Zbm id t hn) x hf).symm
theorem Zk1{T:Ty}{v:yL Unit}{st:Bool}{e:yc}{l:yL T.den}:(TD.rw H.length).er (lk (H++[.rowT T v st e l]))=.rv H.length v.length T.size 0 l.length:=
 (Zaz (H:=H++[.rowT T v st e l]) (List.getElem?_concat_length ..)).1
def ZpV(P:yg)(row:Bool)(t u:yc)(all:yL TD)(H:yL TEnt)(K:Kn O)(y:TD):TD->yO O
 |.rw id=>match P.underlying t,H[id]? with
  |some (.slice e),some (.rowT T v st e' l)=>(P.info? e).bind λi=>Zxd P T u H (λys hs=>
   if(zOk i&&decide (i.size=T.size)&&decide (P.cellsOf e=T.size)&&decide (e'=e)&&decide (T.size≠0))=true then if apB l.length ys.length i.bytes=true then
    K (TD.stales (lk H) id all) (.rw id) ((H.map (TEnt.stale (lk H) id)).set id (.rowT T (()::v) st e (l++ys))) (.raw::hs) 2 else none else none) y
  |_,_=>none
 |.p (.sl (some false) _ [])=>match P.underlying t with
  |some (.slice e)=>(P.info? e).bind λi=>(ZgB P tyD e).bind λT=>(Zw5 (lk H) P T u y).bind λys=>
   if(zOk i&&i.size !=0&&decide (i.size=T.size)&&decide (P.cellsOf e=T.size)&&TD.frees H.length all&&H.all (TEnt.free H.length))=true then if ZwY ys.length i.bytes=true then
    K all (.rw H.length) (H++[.rowT T [] true e ys]) [.arr] 2 else none else none
  |_=>none
 |_=>none
theorem Zr4{row:Bool}{t u:yc}{x y:yn}{c:Call}{xd yd:TD}(ho:o.op=.call c)(hc:c.callee=.builtin .append)(ha:c.args.toList=[x,y])(ht:c.argTypes.toList=[t,u])
 (hv:Zn P (TD.ers (lk H) ts) t x=xd.er (lk H)) (hy:arT P ts u y=some yd) (h:ZpV P row t u all H K yd xd=some out):∃a d H' hs c,K a d H' hs c=some out/\Good P o ts all H a d H' hs c:=by
 have hw:=Zm (L:=lk H) hy;unfold ZpV at h;split at h
 ·rename_i id;split at h
  ·rename_i e T v st e' l hu hd;obtain⟨i,h1,h⟩:=yf.1 h;obtain⟨ys,hs,C,k1,k2,k3⟩:=Zj0 h;obtain⟨k4,k6⟩:=Za k1;obtain⟨k5,kk⟩:=Za k6;clear k1 k6;simp only[yj,yP] at k4;obtain⟨⟨⟨⟨g1,g2⟩,g3⟩,g4⟩,g5⟩:=k4;subst g4;simp only[apB,yj,yP] at k5;have hlt:id < H.length:=(yq.1 hd).1
   refine⟨_,_,_,_,_,kk,ers_stale (λid' t hn=>QK (lk H) id' t hn) all,ZcR all,or3 (⟨rfl,λyK=> ?_,λyK=> ?_,
    C++[l.length<=l.length,(l.length+(ys.map T.enc).length)*i.bytes<=Zk,l.length+(ys.map T.enc).length<=maxLen,st=true\/l.length=l.length],Zj.2 ⟨k2,ym _,by simpa using k5.1,by simpa using k5.2,.inr rfl,ytt⟩,λyK=> ?_⟩)⟩
   ·unfold evN;rw[ho];dsimp only;rw[hc];dsimp only;rw[ha,ht,yab]
   ·unfold evR;rw[ho];dsimp only;rw[hc]
   ·unfold evE;rw[ho];dsimp only;rw[hc];dsimp only;rw[ha,ht];dsimp only;rw[hu,hv,hw,(Zaz hd).1];rw[yab];dsimp only;rw[h1,k3 yK,Z2 hd];dsimp only[TEnt.er]
    have hnew:((H.map (TEnt.stale (lk H) id)).set id (.rowT T (()::v) st e' (l++ys)))[id]? =some (.rowT T (()::v) st e' (l++ys)):=by
     rw[ycw (by rw[yy];exact hlt)]
    have hH:erH ((H.map (TEnt.stale (lk H) id)).set id (.rowT T (()::v) st e' (l++ys)))=(erH H).set id (.row (v.length+1) T.size st e' (.p (.arr (l.length+ys.length) T.size (l.map T.enc++ys.map T.enc)))):=by
     unfold erH;rw[ybm,yas]
     have:(TEnt.rowT T (()::v) st e' (l++ys)).er (lk ((H.map (TEnt.stale (lk H) id)).set id (.rowT T (()::v) st e' (l++ys))))=.row (v.length+1) T.size st e' (.p (.arr (l.length+ys.length) T.size (l.map T.enc++ys.map T.enc))):=by
      simp only[TEnt.er,yah,yo,yai]
     rw[this];congr 1;refine ycn λx hx=> ?_;exact Zia (λid t hn=>QK (lk H) id t hn) x
    rw[yW (by simp[g1,g2,g5]),hH,(Zaz hnew).1];simp only[yy,yah,yo];rw[show(l.map T.enc).take l.length=l.map T.enc by rw[<-yy (f:=T.enc),yak]]
  ·cases h
 ·rename_i T0;split at h
  ·rename_i e hu;obtain⟨i,h1,h⟩:=yf.1 h;obtain⟨T,h2,h⟩:=yf.1 h;obtain⟨ys,h3,h⟩:=yf.1 h;obtain⟨k4,h⟩:=Za h;obtain⟨k5,h⟩:=Za h;simp only[yj,yP] at k4;obtain⟨⟨⟨⟨⟨g1,g2⟩,g3⟩,g4⟩,g5⟩,g6⟩:=k4;obtain⟨g7,g8⟩:=Q2 k5;refine⟨_,_,_,_,_,h,ZcQ g5,rfl,or3 (⟨rfl,λyK=> ?_,λyK=> ?_,[(ys.map T.enc).length*i.bytes<=Zk,(ys.map T.enc).length<=maxLen],⟨by rw[yy];exact g7,by rw[yy];exact g8,ytt⟩,λyK=> ?_⟩)⟩
   ·unfold evN;rw[ho];dsimp only;rw[hc];dsimp only;rw[ha,ht];rfl
   ·unfold evR;rw[ho];dsimp only;rw[hc]
   ·unfold evE;rw[ho];dsimp only;rw[hc];dsimp only;rw[ha,ht];dsimp only;rw[hu,hv,hw,show(TD.p (TP.sl (some false) T0 [])).er (lk H)=Dv.p (.sl (some false) T0.size []) from rfl]
    dsimp only;rw[h1,g4,Zh9 h3,yab,yx];dsimp only;rw[yW (by simp only[yj];exact⟨g1,g2⟩),Zg0 g6,ZC,Zk1,g3];simp only[yy,yco]
  ·cases h
 ·cases h
def ZEo(P:yg)(ts:yL TD)(t:yc)(len:Nat)(parts:yL (Nat×yn))(all:yL TD)(H:yL TEnt)(K:Kn O):yO O:=
 Zzu (lk H) P ts t len parts λT l e=>if(decide (l.length=len)&&TD.frees H.length all&&H.all (TEnt.free H.length))=true then K all (.rw H.length) (H++[.rowT T [] true e l]) [.arr] 2 else none
theorem ZzK{t:yc}{len:Nat}{parts:Array (Nat×yn)}(ho:o.op=.buildSlice t len parts)(h:ZEo P ts t len parts.toList all H K=some out):
 ∃a d H' hs c,K a d H' hs c=some out/\Good P o ts all H a d H' hs c:=by
 unfold ZEo at h;obtain⟨e,T,l,i,xs,h1,hu,hi,hl,hz,hs,hx⟩:=ZeO h;obtain⟨h2,h1⟩:=Za h1;simp only[yj,yP] at h2;obtain⟨⟨h2,g5⟩,g6⟩:=h2;refine⟨_,_,_,_,_,h1,ZcQ g5,rfl,or3 (⟨rfl,λyK=> ?_,λyK=> ?_,[],zP,λyK=> ?_⟩)⟩
 ·unfold evN;rw[ho];rfl
 ·unfold evR;rw[ho]
 ·unfold evE;rw[ho];dsimp only;rw[yab,yx];dsimp only;rw[hu];dsimp only;rw[hi,hl];dsimp only;rw[yW (by simpa using hz),hx,Zg0 g6,Zk1,ZC,hs,h2];rfl
def ZzL(P:yg)(ts:yL TD)(t:yc)(len:Nat)(parts:yL (Nat×yn))(id:Nat)(all:yL TD)(H:yL TEnt)(K:Kn O):yO O:=
 Zzu (lk H) P ts t len parts λT l e=>match H[id]? with
  |some (.rowT T' v _ e' _)=>if(decide (l.length=len)&&decide (e'=e)&&decide (T'.size=T.size))=true then K (TD.stales (lk H) id all) (.rw id) ((H.map (TEnt.stale (lk H) id)).set id (.rowT T (()::v) true e l)) [.fresh id] 2 else none
  |_=>none
theorem Zxj{t:yc}{len id:Nat}{parts:Array (Nat×yn)}(ho:o.op=.buildSlice t len parts)(h:ZzL P ts t len parts.toList id all H K=some out):
 ∃a d H' hs c,K a d H' hs c=some out/\Good P o ts all H a d H' hs c:=by
 unfold ZzL at h;obtain⟨e,T,l,i,xs,h1,hu,hi,hl,hz,hs,hx⟩:=ZeO h;split at h1
 case h_2=>cases h1
 rename_i T0 v st e' l0 hd;obtain⟨h2,h1⟩:=Za h1;simp only[yj,yP] at h2;obtain⟨⟨h2,rfl⟩,h3⟩:=h2;have hlt:id < H.length:=(yq.1 hd).1
 have hnew:((H.map (TEnt.stale (lk H) id)).set id (.rowT T (()::v) true e' l))[id]? =some (.rowT T (()::v) true e' l):=by
  rw[ycw (by rw[yy];exact hlt)]
 have hH:erH ((H.map (TEnt.stale (lk H) id)).set id (.rowT T (()::v) true e' l))=(erH H).set id (.row (v.length+1) T.size true e' (.p (.arr l.length T.size (l.map T.enc)))):=by
  unfold erH;rw[ybm,yas]
  have:(TEnt.rowT T (()::v) true e' l).er (lk ((H.map (TEnt.stale (lk H) id)).set id (.rowT T (()::v) true e' l)))=.row (v.length+1) T.size true e' (.p (.arr l.length T.size (l.map T.enc))):=by
   simp only[TEnt.er,yah]
  rw[this];congr 1;refine ycn λx hx=> ?_;exact Zia (λid t hn=>QK (lk H) id t hn) x
 refine⟨_,_,_,_,_,h1,ers_stale (λid' t hn=>QK (lk H) id' t hn) all,ZcR all,or3 (⟨rfl,λyK=> ?_,λyK=> ?_,[],zP,λyK=> ?_⟩)⟩
 ·unfold evN;rw[ho];rfl
 ·unfold evR;rw[ho]
 ·unfold evE;rw[ho];dsimp only;rw[yab,yx];dsimp only;rw[hu,Z2 hd];dsimp only[TEnt.er];rw[hi,hl];dsimp only;rw[yW (by rw[yj,yj,yT,yT];exact⟨⟨hz,rfl⟩,h3.trans hs.symm⟩),hx,hH,(Zaz hnew).1,hs, <-h2];simp only[yah]
def ZzM(P:yg)(t:yc)(n n':Int)(all:yL TD)(H:yL TEnt)(K:Kn O):yO O:=
 match P.underlying t with
 |some (.slice e)=>(P.info? e).bind λi=>(ZgB P tyD e).bind λT=>
  if(zOk i&&i.size !=0&&decide (i.size=T.size)&&TD.frees H.length all&&H.all (TEnt.free H.length))=true then if(decide (n=0)&&ZeR n' i.bytes)=true then K all (.rw H.length) (H++[.rowT T [] true e []]) [.arr] 2 else none else none
 |_=>none
theorem Zxk{t:yc}{l c:yn}{n n':Num}(ho:o.op=.makeSlice t l c)(hl:(arT P ts 0 l).bind TD.num=some n)(hc:(arT P ts 0 c).bind TD.num=some n')(hk:n.k=.i64)(hk':n'.k=.i64)
 (h:ZzM P t n.n n'.n all H K=some out):∃a d H' hs c,K a d H' hs c=some out/\Good P o ts all H a d H' hs c:=by
 obtain⟨ld,l1,l2⟩:=yf.1 hl;obtain⟨cd,c1,c2⟩:=yf.1 hc;have hv:=Zm (L:=lk H) l1;have hw:=Zm (L:=lk H) c1;rw[VK l2,hk] at hv;rw[VK c2,hk'] at hw;unfold ZzM at h;have nN:∀hs,evN P o (TD.ers (lk H) ts) hs=none:=λhs=>by unfold evN;rw[ho]
 have nR:∀hs,evR P o (TD.ers (lk H) ts) (erH H) hs=none:=λhs=>by unfold evR;rw[ho]
 split at h
 ·rename_i e hu;obtain⟨i,h1,h⟩:=yf.1 h;obtain⟨T,h2,h⟩:=yf.1 h;obtain⟨h3,h⟩:=Za h;obtain⟨h4,h⟩:=Za h;simp only[yj,yP] at h3;obtain⟨⟨⟨g0,h3⟩,g5⟩,g6⟩:=h3;simp only[ZeR,yj,yP] at h4;obtain⟨g1,g2⟩:=Q2 h4.2.2;refine⟨_,_,_,_,_,h,ZcQ g5,rfl,or3 (⟨rfl,λyK=>nN _,λyK=>nR _,[n.n=0,0<=n'.n,n'.n.toNat*i.bytes<=Zk,n'.n.toNat<=maxLen],⟨h4.1,h4.2.1,g1,g2,ytt⟩,λyK=> ?_⟩)⟩;unfold evE;rw[ho];dsimp only;rw[hu,hv,hw];dsimp only;rw[h1,yab,yx];dsimp only;rw[yW (by simpa using g0),Zg0 g6,Zk1,ZC,h3];rfl
 ·cases h
def Zu1(P:yg)(t:yc)(n n':Int)(all:yL TD)(H:yL TEnt)(K:Kn O):yO O:=
 match P.underlying t with
 |some (.slice e)=>(P.info? e).bind λi=>(ZgB P tyD e).bind λT=>(ZpR P e).bind λz=>(TP.to ZjT z T).bind λy=>
  if(zOk i&&decide (i.size=1)&&z.pe.size==1&& !z.pe.isAgg&&decide (T.size=1)&&TD.frees H.length all&&H.all (TEnt.free H.length))=true then
   if(decide (n'=n)&&ZeR n i.bytes)=true then K all (.rw H.length) (H++[.rowT T [] true e (yv n.toNat y)]) [.frz] 2 else none else none
 |_=>none
theorem Zu2{t:yc}{l c:yn}{n n':Num}(ho:o.op=.makeSlice t l c)(hl:(arT P ts 0 l).bind TD.num=some n)(hc:(arT P ts 0 c).bind TD.num=some n')(hk:n.k=.i64)(hk':n'.k=.i64)
 (h:Zu1 P t n.n n'.n all H K=some out):∃a d H' hs c,K a d H' hs c=some out/\Good P o ts all H a d H' hs c:=by
 obtain⟨ld,l1,l2⟩:=yf.1 hl;obtain⟨cd,c1,c2⟩:=yf.1 hc;have hv:=Zm (L:=lk H) l1;have hw:=Zm (L:=lk H) c1;rw[VK l2,hk] at hv;rw[VK c2,hk'] at hw;unfold Zu1 at h;have nN:∀hs,evN P o (TD.ers (lk H) ts) hs=none:=λhs=>by unfold evN;rw[ho]
 have nR:∀hs,evR P o (TD.ers (lk H) ts) (erH H) hs=none:=λhs=>by unfold evR;rw[ho]
 split at h
 ·rename_i e hu;obtain⟨i,h1,h⟩:=yf.1 h;obtain⟨T,h2,h⟩:=yf.1 h;obtain⟨z,z1,h⟩:=yf.1 h;obtain⟨y,z2,h⟩:=yf.1 h;obtain⟨h3,h⟩:=Za h;obtain⟨h4,h⟩:=Za h;simp only[yj,yP,yT] at h3;obtain⟨⟨⟨g0,h3⟩,g5⟩,g6⟩:=h3;simp only[ZeR,yj,yP] at h4;obtain⟨g1,g2⟩:=Q2 h4.2.2;refine⟨_,_,_,_,_,h,ZcQ g5,rfl,or3 (⟨rfl,λyK=>nN _,λyK=>nR _,[n'.n=n.n,0<=n.n,n.n.toNat*i.bytes<=Zk,n.n.toNat<=maxLen],⟨h4.1,h4.2.1,g1,g2,ytt⟩,λyK=> ?_⟩)⟩;unfold evE;rw[ho];dsimp only;rw[hu,hv,hw];dsimp only;rw[h1,yab,yx];dsimp only;rw[ZgZ z1];dsimp only;rw[yW (by simp only[yj,yP];exact g0),Zg0 g6,Zk1,ZC,ZgX z T y z2];rw[yco];rw[List.map_replicate,h3,yct]
 ·cases h
def Zu3(P:yg)(t:yc)(dst:Tmp)(all:yL TD)(H:yL TEnt)(K:Kn O):TD->yO O
 |.p (.sl (some false) T [])=>match P.underlying t with
  |some (.slice e)=>(P.info? e).bind λi=>if(zOk i&&i.size !=0&&decide (i.size=T.size)&&TD.frees H.length all&&H.all (TEnt.free H.length))=true then K all (.rw H.length) (H++[.rowT T [] true e []]) [.freshR dst] 2 else none
  |_=>none
 |_=>none
theorem Zu4{x:yn}{dst:Tmp}{xd:TD}(ho:o.op=.assign x)(hd:o.dst=some dst)(hx:arT P ts o.type x=some xd)(h:Zu3 P o.type dst all H K xd=some out):
 ∃a d H' hs c,K a d H' hs c=some out/\Good P o ts all H a d H' hs c:=by
 have hv:=Zm (L:=lk H) hx;unfold Zu3 at h;split at h
 ·rename_i T;split at h
  ·rename_i e hu;obtain⟨i,h1,h⟩:=yf.1 h;obtain⟨h2,h⟩:=Za h;simp only[yj,yP] at h2;obtain⟨⟨⟨g0,g3⟩,g5⟩,g6⟩:=h2;refine⟨_,_,_,_,_,h,ZcQ g5,rfl,or3 (⟨rfl,λyK=> ?_,λyK=> ?_,[],zP,λyK=> ?_⟩)⟩
   ·unfold evN;rw[ho];rfl
   ·unfold evR;rw[ho]
   ·unfold evE;rw[ho];dsimp only;rw[yab,yx];dsimp only;rw[yW hd,hu,hv,show(TD.p (TP.sl (some false) T [])).er (lk H)=Dv.p (.sl (some false) T.size []) from rfl]
    dsimp only;rw[h1];dsimp only;rw[yW (by simpa using g0),Zg0 g6,Zk1,ZC,g3];rfl
  ·cases h
 ·cases h
def ZpW(P:yg)(t:yc)(lo hi:yO Int)(all:yL TD)(H:yL TEnt)(K:Kn O):TD->yO O
 |.rw id=>match P.underlying t,H[id]?,lo,hi with
  |some (.slice e),some (.rowT T v true e' l),none,some h=>if(okB P e T.size&&decide (T.size≠0))=true then if(decide (0<=h)&&decide (h.toNat<=l.length))=true then
    K (TD.stales (lk H) id all) (.rw id) ((H.map (TEnt.stale (lk H) id)).set id (.rowT T v true e' (l.take h.toNat))) [.arr] 2 else none else none
  |_,_,_,_=>none
 |_=>none
theorem Zr5{t:yc}{x:yn}{lo hi:yO yn}{l h':yO Int}{xd:TD}(ho:o.op=.slice t x lo hi none)(hx:arT P ts t x=some xd)(hl:ZdC P ts lo=some l)(hh:ZdC P ts hi=some h')(h:ZpW P t l h' all H K xd=some out):
 ∃a d H' hs c,K a d H' hs c=some out/\Good P o ts all H a d H' hs c:=by
 have hv:=Zm (L:=lk H) hx;have hl2:=Q3 (L:=lk H) hl;have hh2:=Q3 (L:=lk H) hh;unfold ZpW at h;split at h
 ·rename_i id;split at h
  ·rename_i e T v e' xs h2 hu hd;obtain⟨h3,h⟩:=Za h;obtain⟨h4,h⟩:=Za h;simp only[yj,yP] at h3 h4;obtain⟨h3a,h3b⟩:=ZGN h3.1;have hlt:id < H.length:=(yq.1 hd).1
   have hnew:((H.map (TEnt.stale (lk H) id)).set id (.rowT T v true e' (xs.take h2.toNat)))[id]? =some (.rowT T v true e' (xs.take h2.toNat)):=by
    rw[ycw (by rw[yy];exact hlt)]
   have zW:(xs.take h2.toNat).length=h2.toNat:=by rw[List.length_take];omega
   have hH:erH ((H.map (TEnt.stale (lk H) id)).set id (.rowT T v true e' (xs.take h2.toNat)))=(erH H).set id (.row v.length T.size true e' (.p (.arr h2.toNat T.size ((xs.map T.enc).take h2.toNat)))):=by
    unfold erH;rw[ybm,yas]
    have:(TEnt.rowT T v true e' (xs.take h2.toNat)).er (lk ((H.map (TEnt.stale (lk H) id)).set id (.rowT T v true e' (xs.take h2.toNat))))=.row v.length T.size true e' (.p (.arr h2.toNat T.size ((xs.map T.enc).take h2.toNat))):=by
     simp only[TEnt.er,zW,ycg]
    rw[this];congr 1;refine ycn λx hx=> ?_;exact Zia (λid t hn=>QK (lk H) id t hn) x
   refine⟨_,_,_,_,_,h,ers_stale (λid' t hn=>QK (lk H) id' t hn) all,ZcR all,or3 (⟨rfl,λyK=> ?_,λyK=> ?_,[0<=h2,h2.toNat<=xs.length],⟨h4.1,h4.2,ytt⟩,λyK=> ?_⟩)⟩
   ·unfold evN;rw[ho];dsimp only;rw[hu,hv,(Zaz hd).1,hl2,hh2];rfl
   ·unfold evR;rw[ho];dsimp only;rw[hu,hv,(Zaz hd).1,hl2,hh2];rfl
   ·unfold evE;rw[ho];dsimp only;rw[hu,hv,(Zaz hd).1,hl2,hh2];dsimp only;rw[yab,yx];dsimp only;rw[Z2 hd,TEnt.er];dsimp only;rw[yW (by simp[h3a,h3b,h3.2]),hH,(Zaz hnew).1,zW]
  ·cases h
 ·cases h
def TEnt.rowQ:TEnt->yO (Nat×Nat×Nat)
 |.rowN t _ v _ _ pre post=>some (v.length,t.size,pre.length+post.length)
 |.rowM t _ v _ _ pre _ post=>some (v.length,t.size,pre.length+(post.length+1))
 |_=>none
theorem Zu5{L:Lk}{id:Nat}{v:yL Unit}{s N:Nat}(h:ZW L id (.sl (.st [])) none=([v,yv s (),yv N ()]:yL (yL Unit))):
 (TD.rw id).er L=.rv id v.length s 0 N/\∀yQ,(TD.rp id yQ).er L=.rref id v.length (Wg yQ) (yQ.map Stp.i):=by
 refine⟨?_,λyQ=> ?_⟩
 ·rw[TD.er];unfold Zax;rw[h];show Dv.rv id v.length (yv s ()).length 0 (yv N ()).length=_;rw[yct,yct]
 ·rw[TD.er];unfold Zax;rw[h];rfl
theorem ZG3{id:Nat}{x:TEnt}{q:Nat×Nat×Nat}(hd:H[id]? =some x)(h:x.rowQ=some q):(TD.rw id).er (lk H)=.rv id q.1 q.2.1 0 q.2.2/\∀yQ,(TD.rp id yQ).er (lk H)=.rref id q.1 (Wg yQ) (yQ.map Stp.i):=by
 cases x <;> first|cases h|skip
 all_goals
  refine Zu5 ?_;unfold ZW lk;dsimp only;rw[hd];rfl
end
end Go.Ev
end
section
namespace Go.Ev
abbrev TV:=Σ t:Ty,t.den
inductive Sh where
 |v (t:Ty)
 |elem (t:Ty)
 |nil (t:Ty)
 |sl (nn:Bool) (t:Ty)
 |own (j:Nat) (t:Ty)
 |ref (j:Nat) (yQ:List Stp)
 |mp (j:Nat)
 |rw(j:Nat)
 |rp (j s:Nat) (yQ:List Stp)
 |view (j:Nat) (yQ:List Stp) (s lo n:Nat)
 |fn (g:yu) (l:List Sh)
 |agg (l:List Sh)
 |arr (n s:Nat) (l:List Sh)
 |tup (l:List Sh)
 |iface (t:yc) (x:Sh)
 |ptr0|fn0|if0|map0
 |junk
instance:Inhabited Sh:=⟨.junk⟩
def Stp.beq:Stp->Stp->Bool
 |.fld i o,.fld j p=>decide (i=j)&&decide (o=p)
 |.ix i o,.ix j p=>decide (i=j)&&decide (o=p)
 |_,_=>false
def Zie:yL Stp->yL Stp->Bool
 |[],[]=>true
 |q::r,p::s=>q.beq p&&Zie r s
 |_,_=>false
theorem ZcS:∀{l m:yL Stp},Zie l m=true->l=m
 |[],[],_=>rfl
 |[],_::_,h=>by cases h
 |_::_,[],h=>by cases h
 |q::r,p::s,h=>by
  simp only[Zie,yj] at h;rw[ZcS h.2];congr 1;cases q <;> cases p <;> simp[Stp.beq] at h <;> simp[h.1]
def TD.toT(L:Lk)(t:Ty):TD->yO t.den
 |.p x=>TP.to ZgW x t
 |.own id _ u c=>match t with
  |.sl w=>Ty.castL u w (ZW L id u c)
  |_=>none
 |_=>none
theorem ZJa{L:Lk}{t:Ty}{d:TD}{y:t.den}(h:d.toT L t=some y):Wk (d.er L) (.p (t.enc y)):=by
 cases d with
 |p x=>exact Wk.p (ZwW (show TP.to ZgW x t=some y from h))
 |own id nn u c=>
  cases t with
  |sl w=>
   obtain⟨e,h2⟩:=Zu (show Ty.castL u w (ZW L id u c)=some y from h)
   subst e;subst h2
   exact Wk.own_sl (PlsWk.refl _)
  |_=>cases h
 |_=>cases h
def ZKv(t:Ty):TD->yO t.den
 |.elem x=>TP.to ZgW x t
 |_=>none
theorem Wk.elem{x y:Pl}(h:PlWk x y):Wk (.elem x) (.elem y):=⟨rfl,rfl,λσ vs r=>by
 simp only[yH] at r ⊢;obtain⟨b,o,us,e,r1,r2⟩:=r;exact⟨b,o,us,e,h.rep _ _ _ r1,r2⟩⟩
theorem WkL.fn{f:yu}{ds es:yL Dv}(h:WkL ds es):Wk (.fn f ds) (.fn f es):=⟨rfl,rfl,λσ vs r=>by
 simp only[yH] at r ⊢;obtain⟨fs,cs,e,e0,r⟩:=r;exact⟨fs,cs,e,e0,h.vs r⟩⟩
theorem WkL.sizes{ds es:yL Dv}(h:WkL ds es)(s:Nat):(∀x,x∈ds->x.size=s)->∀x,x∈es->x.size=s:=by
 induction h with
 |nil=>intro _ x hx;cases hx
 |cons h k ih=>
  intro hh x hx;rcases List.mem_cons.1 hx with rfl|hx
  ·rw[<-h.size];exact hh _ (List.mem_cons_self ..)
  ·exact ih (λy hy=>hh y (List.mem_cons_of_mem _ hy)) x hx
theorem WkL.arr{n s:Nat}{ds es:yL Dv}(h:WkL ds es):Wk (.arr n s ds) (.arr n s es):=⟨rfl,rfl,λσ vs r=>by
 simp only[yH] at r ⊢;obtain⟨r1,r2,r3⟩:=r;have:=(WkL.agg h).rep σ vs (by simp only[yH];exact r3);simp only[yH] at this;exact⟨by rw[<-h.len];exact r1,h.sizes s r2,this⟩⟩
theorem Wk.iface{t:yc}{x y:Dv}(h:Wk x y):Wk (.iface t x) (.iface t y):=⟨rfl,rfl,λσ vs r=>by
 simp only[yH] at r ⊢;obtain⟨v,e,r1,r2⟩:=r;refine⟨v,e,λha=> ?_,λha=>h.rep _ _ (r2 (by rw[h.agg];exact ha))⟩;obtain⟨cs,e1,e2⟩:=r1 (by rw[h.agg];exact ha);exact⟨cs,e1,h.rep _ _ e2⟩⟩
mutual
def Sh.mt(L:Lk):Sh->TD->yO (TD×yL TV)
 |.v t,d=>(d.toT L t).map λy=>(.p (.v t y),[⟨t,y⟩])
 |.elem t,d=>(ZKv t d).map λy=>(.elem (.v t y),[⟨t,y⟩])
 |.nil t,d=>match d with
  |.p x=>if x.nilT t=true then some (.p (.sl (some false) t []),[]) else none
  |_=>none
 |.sl nn t,d=>match d with
  |.p (.sl (some b) u xs)=>if b=nn then(Ty.castL u t xs).map λy=>(.p (.sl (some nn) t y),[⟨.sl t,y⟩]) else none
  |_=>none
 |.own j t,d=>match d with
  |.own id _ u none=>if id=j/\u=t then some (.own j none t none,[]) else none
  |_=>none
 |.ref j p,d=>match d with
  |.ref id q=>if id=j/\Zie p q=true then some (.ref j p,[]) else none
  |_=>none
 |.mp j,d=>match d with
  |.mp id=>if id=j then some (.mp j,[]) else none
  |_=>none
 |.rw j,d=>match d with
  |.rw id=>if id=j then some (.rw j,[]) else none
  |_=>none
 |.rp j s p,d=>match d with
  |.rp id (.ix i s'::q)=>if id=j/\s'=s/\Zie p q=true then some (.rp j (.ix i s::p),[⟨.int .i64,(i:Int)⟩]) else none
  |_=>none
 |.view j p s lo n,d=>match d with
  |.view id q s' lo' n'=>if id=j/\Zie p q=true/\s=s'/\lo=lo'/\n=n' then some (.view j p s lo n,[]) else none
  |_=>none
 |.fn g l,d=>match d with
  |.fn f ds=>if f=g then(Sh.mts L l ds).map λq=>(.fn g q.1,q.2) else none
  |_=>none
 |.agg l,d=>match d with
  |.agg ds=>(Sh.mts L l ds).map λq=>(.agg q.1,q.2)
  |_=>none
 |.arr n s l,d=>match d with
  |.arr m s' ds=>if m=n/\s'=s then(Sh.mts L l ds).map λq=>(.arr n s q.1,q.2) else none
  |_=>none
 |.tup l,d=>match d with
  |.tup ds=>(Sh.mts L l ds).map λq=>(.tup q.1,q.2)
  |_=>none
 |.iface t x,d=>match d with
  |.iface u y=>if u=t then(Sh.mt L x y).map λq=>(.iface t q.1,q.2) else none
  |_=>none
 |.ptr0,d=>match d with
  |.p .ptr0=>some (.p .ptr0,[])
  |_=>none
 |.fn0,d=>match d with
  |.p .fn0=>some (.p .fn0,[])
  |_=>none
 |.if0,d=>match d with
  |.p .if0=>some (.p .if0,[])
  |_=>none
 |.map0,d=>match d with
  |.p .map0=>some (.p .map0,[])
  |_=>none
 |.junk,d=>if(d.er L).size=1/\(d.er L).isAgg=false then some (.junk,[]) else none
def Sh.mts(L:Lk):yL Sh->yL TD->yO (yL TD×yL TV)
 |[],ds=>match ds with
  |[]=>some ([],[])
  |_=>none
 |s::r,ds=>match ds with
  |d::q=>match Sh.mt L s d,Sh.mts L r q with
   |some a,some b=>some (a.1::b.1,a.2++b.2)
   |_,_=>none
  |[]=>none
end
mutual
def Sh.fill:Sh->yL TV->yO (TD×yL TV)
 |.v t,vs=>match vs with
  |x::r=>(Ty.cast x.1 t x.2).map λy=>(.p (.v t y),r)
  |[]=>none
 |.elem t,vs=>match vs with
  |x::r=>(Ty.cast x.1 t x.2).map λy=>(.elem (.v t y),r)
  |[]=>none
 |.nil t,vs=>some (.p (.sl (some false) t []),vs)
 |.sl nn t,vs=>match vs with
  |x::r=>(Ty.cast x.1 (.sl t) x.2).map λ(y:yL t.den)=>(.p (.sl (some nn) t y),r)
  |[]=>none
 |.own j t,vs=>some (.own j none t none,vs)
 |.ref j p,vs=>some (.ref j p,vs)
 |.mp j,vs=>some (.mp j,vs)
 |.rw j,vs=>some (.rw j,vs)
 |.rp j s p,vs=>match vs with
  |x::r=>(Ty.cast x.1 (.int .i64) x.2).map λ(i:Int)=>(.rp j (.ix i.toNat s::p),r)
  |[]=>none
 |.view j p s lo n,vs=>some (.view j p s lo n,vs)
 |.fn g l,vs=>(Sh.fills l vs).map λq=>(.fn g q.1,q.2)
 |.agg l,vs=>(Sh.fills l vs).map λq=>(.agg q.1,q.2)
 |.arr n s l,vs=>(Sh.fills l vs).map λq=>(.arr n s q.1,q.2)
 |.tup l,vs=>(Sh.fills l vs).map λq=>(.tup q.1,q.2)
 |.iface t x,vs=>(Sh.fill x vs).map λq=>(.iface t q.1,q.2)
 |.ptr0,vs=>some (.p .ptr0,vs)
 |.fn0,vs=>some (.p .fn0,vs)
 |.if0,vs=>some (.p .if0,vs)
 |.map0,vs=>some (.p .map0,vs)
 |.junk,vs=>some (.junk,vs)
def Sh.fills:yL Sh->yL TV->yO (yL TD×yL TV)
 |[],vs=>some ([],vs)
 |s::r,vs=>(Sh.fill s vs).bind λa=>(Sh.fills r a.2).map λb=>(a.1::b.1,b.2)
end
theorem YA(t:Ty)(x:t.den):Ty.cast t t x=some x:=by
 unfold Ty.cast;split
 ·rfl
 ·rename_i h _;exact absurd rfl h
mutual
theorem Zif{L:Lk}:∀(s:Sh)(d:TD)(q:TD×yL TV),s.mt L d=some q->∀yK,s.fill (q.2++yK)=some (q.1,yK)
 |.v t,d,q,h,yK=>by
  simp only[Sh.mt] at h;obtain⟨y,_,rfl⟩:=Zb h
  simp[Sh.fill,YA]
 |.elem t,d,q,h,yK=>by
  simp only[Sh.mt] at h;obtain⟨y,_,rfl⟩:=Zb h
  simp[Sh.fill,YA]
 |.nil t,d,q,h,yK=>by
  simp only[Sh.mt] at h;split at h
  ·split at h <;> cases h;rfl
  ·cases h
 |.sl nn t,d,q,h,yK=>by
  simp only[Sh.mt] at h;split at h
  ·split at h
   ·obtain⟨w,h1,rfl⟩:=Zb h;exact congrArg (Option.map λ(y:yL t.den)=>(TD.p (.sl (some nn) t y),yK)) (YA (.sl t) w)
   ·cases h
  ·cases h
 |.own j t,d,q,h,yK=>by
  simp only[Sh.mt] at h;split at h
  ·split at h <;> cases h;rfl
  ·cases h
 |.ref j p,d,q,h,yK=>by
  simp only[Sh.mt] at h;split at h
  ·split at h <;> cases h;rfl
  ·cases h
 |.mp j,d,q,h,yK=>by
  simp only[Sh.mt] at h;split at h
  ·split at h <;> cases h;rfl
  ·cases h
 |.rw j,d,q,h,yK=>by
  simp only[Sh.mt] at h;split at h
  ·split at h <;> cases h;rfl
  ·cases h
 |.rp j s p,d,q,h,yK=>by
  simp only[Sh.mt] at h;split at h
  ·rename_i id i s' q';split at h
   ·cases h;exact congrArg (Option.map λ(i:Int)=>(TD.rp j (.ix i.toNat s::p),yK)) (YA (.int .i64) (i:Int))
   ·cases h
  ·cases h
 |.view j p s lo n,d,q,h,yK=>by
  simp only[Sh.mt] at h;split at h
  ·split at h <;> cases h;rfl
  ·cases h
 |.fn g l,d,q,h,yK=>by
  simp only[Sh.mt] at h;split at h
  ·split at h
   ·obtain⟨w,h1,rfl⟩:=Zb h;simp only[Sh.fill,mts_fills l _ w h1 yK,yaa]
   ·cases h
  ·cases h
 |.agg l,d,q,h,yK=>by
  simp only[Sh.mt] at h;split at h
  ·obtain⟨w,h1,rfl⟩:=Zb h;simp only[Sh.fill,mts_fills l _ w h1 yK,yaa]
  ·cases h
 |.arr n s l,d,q,h,yK=>by
  simp only[Sh.mt] at h;split at h
  ·split at h
   ·obtain⟨w,h1,rfl⟩:=Zb h;simp only[Sh.fill,mts_fills l _ w h1 yK,yaa]
   ·cases h
  ·cases h
 |.tup l,d,q,h,yK=>by
  simp only[Sh.mt] at h;split at h
  ·obtain⟨w,h1,rfl⟩:=Zb h;simp only[Sh.fill,mts_fills l _ w h1 yK,yaa]
  ·cases h
 |.iface t x,d,q,h,yK=>by
  simp only[Sh.mt] at h;split at h
  ·split at h
   ·obtain⟨w,h1,rfl⟩:=Zb h;simp only[Sh.fill,Zif x _ w h1 yK,yaa]
   ·cases h
  ·cases h
 |.ptr0,d,q,h,yK=>by
  simp only[Sh.mt] at h
  split at h <;> cases h;rfl
 |.fn0,d,q,h,yK=>by
  simp only[Sh.mt] at h
  split at h <;> cases h;rfl
 |.if0,d,q,h,yK=>by
  simp only[Sh.mt] at h
  split at h <;> cases h;rfl
 |.map0,d,q,h,yK=>by
  simp only[Sh.mt] at h
  split at h <;> cases h;rfl
 |.junk,d,q,h,yK=>by
  simp only[Sh.mt] at h;split at h <;> cases h;rfl
theorem mts_fills{L:Lk}:∀(l:yL Sh)(ds:yL TD)(q:yL TD×yL TV),Sh.mts L l ds=some q->∀yK,Sh.fills l (q.2++yK)=some (q.1,yK)
 |[],ds,q,h,yK=>by
  simp only[Sh.mts] at h
  split at h <;> cases h;rfl
 |s::r,ds,q,h,yK=>by
  simp only[Sh.mts] at h;split at h
  ·split at h
   ·rename_i a b h1 h2;cases h;simp only[Sh.fills,yac,Zif s _ a h1,ya,mts_fills r _ b h2,yaa]
   ·cases h
  ·cases h
end
mutual
theorem ZpX{L M:Lk}(hL:∀id t,ZW L id t none=ZW M id t none):∀(s:Sh)(d:TD)(q:TD×yL TV),s.mt L d=some q->Wk (d.er L) (q.1.er M)
 |.v t,d,q,h=>by
  simp only[Sh.mt] at h;obtain⟨y,h1,rfl⟩:=Zb h
  exact ZJa h1
 |.elem t,d,q,h=>by
  simp only[Sh.mt] at h;obtain⟨y,h1,rfl⟩:=Zb h;cases d <;> first|cases h1|skip
  exact Wk.elem (ZwW h1)
 |.nil t,d,q,h=>by
  simp only[Sh.mt] at h;split at h
  ·split at h
   ·rename_i hn;cases h;refine Wk.of_eq ?_;rw[TD.er,ZA6 hn];rfl
   ·cases h
  ·cases h
 |.sl nn t,d,q,h=>by
  simp only[Sh.mt] at h;split at h
  ·split at h
   ·rename_i e;subst e;obtain⟨w,h1,rfl⟩:=Zb h;obtain⟨e,h2⟩:=Zu h1;subst e;subst h2;exact Wk.refl _
   ·cases h
  ·cases h
 |.own j t,d,q,h=>by
  simp only[Sh.mt] at h;split at h
  ·split at h
   ·rename_i e;obtain⟨rfl,rfl⟩:=e;cases h;rw[TD.er,TD.er,hL];exact Wk.own rfl
   ·cases h
  ·cases h
 |.ref j p,d,q,h=>by
  simp only[Sh.mt] at h;split at h
  ·split at h
   ·rename_i e;obtain⟨rfl,e⟩:=e;cases h;rw[ZcS e];exact Wk.refl _
   ·cases h
  ·cases h
 |.mp j,d,q,h=>by
  simp only[Sh.mt] at h;split at h
  ·split at h
   ·rename_i e;subst e;cases h;exact Wk.refl _
   ·cases h
  ·cases h
 |.rw j,d,q,h=>by
  simp only[Sh.mt] at h;split at h
  ·split at h
   ·rename_i e;subst e;cases h;refine Wk.of_eq ?_;rw[TD.er,TD.er];simp only[Zax,hL]
   ·cases h
  ·cases h
 |.rp j s p,d,q,h=>by
  simp only[Sh.mt] at h;split at h
  ·split at h
   ·rename_i e;obtain⟨rfl,rfl,e⟩:=e;cases h;rw[ZcS e];refine Wk.of_eq ?_;rw[TD.er,TD.er];simp only[Zax,hL]
   ·cases h
  ·cases h
 |.view j p s lo n,d,q,h=>by
  simp only[Sh.mt] at h;split at h
  ·split at h
   ·rename_i e;obtain⟨rfl,e,rfl,rfl,rfl⟩:=e;cases h;rw[ZcS e];exact Wk.refl _
   ·cases h
  ·cases h
 |.fn g l,d,q,h=>by
  simp only[Sh.mt] at h;split at h
  ·split at h
   ·rename_i e;subst e;obtain⟨w,h1,rfl⟩:=Zb h;exact WkL.fn (mts_wk hL l _ w h1)
   ·cases h
  ·cases h
 |.agg l,d,q,h=>by
  simp only[Sh.mt] at h;split at h
  ·obtain⟨w,h1,rfl⟩:=Zb h;exact WkL.agg (mts_wk hL l _ w h1)
  ·cases h
 |.arr n s l,d,q,h=>by
  simp only[Sh.mt] at h;split at h
  ·split at h
   ·rename_i e;obtain⟨rfl,rfl⟩:=e;obtain⟨w,h1,rfl⟩:=Zb h;exact WkL.arr (mts_wk hL l _ w h1)
   ·cases h
  ·cases h
 |.tup l,d,q,h=>by
  simp only[Sh.mt] at h;split at h
  ·obtain⟨w,h1,rfl⟩:=Zb h;exact WkL.tup (mts_wk hL l _ w h1)
  ·cases h
 |.iface t x,d,q,h=>by
  simp only[Sh.mt] at h;split at h
  ·split at h
   ·rename_i e;subst e;obtain⟨w,h1,rfl⟩:=Zb h;exact Wk.iface (ZpX hL x _ w h1)
   ·cases h
  ·cases h
 |.ptr0,d,q,h=>by
  simp only[Sh.mt] at h
  split at h <;> cases h;exact Wk.refl _
 |.fn0,d,q,h=>by
  simp only[Sh.mt] at h
  split at h <;> cases h;exact Wk.refl _
 |.if0,d,q,h=>by
  simp only[Sh.mt] at h
  split at h <;> cases h;exact Wk.refl _
 |.map0,d,q,h=>by
  simp only[Sh.mt] at h
  split at h <;> cases h;exact Wk.refl _
 |.junk,d,q,h=>by
  simp only[Sh.mt] at h;split at h
  ·rename_i e;cases h;exact Wk.junk e.2 e.1
  ·cases h
theorem mts_wk{L M:Lk}(hL:∀id t,ZW L id t none=ZW M id t none):∀(l:yL Sh)(ds:yL TD)(q:yL TD×yL TV),Sh.mts L l ds=some q->WkL (TD.ers L ds) (TD.ers M q.1)
 |[],ds,q,h=>by
  simp only[Sh.mts] at h
  split at h <;> cases h;exact .nil
 |s::r,ds,q,h=>by
  simp only[Sh.mts] at h;split at h
  ·split at h
   ·rename_i a b h1 h2;cases h;exact .cons (ZpX hL s _ a h1) (mts_wk hL r _ b h2)
   ·cases h
  ·cases h
end
inductive ESh where
 |var (s:Sh) (st:Bool)
 |log (t:Ty) (e:yc)
 |map (tid:yc) (k v:Ty)
 |row (t:Ty) (st:Bool) (e:yc)
 |rowN (t:Ty) (np:List Nat) (st:Bool) (e:yc)
 |rowM (t:Ty) (np:List Nat) (st:Bool) (e:yc) (s:Sh)
 |gone
def Zj1(k v:Ty):Ty:=.sl (.st [k,v])
def ZJb(L:Lk)(t:Ty)(d:TD):yO t.den:=(d.flat L).bind λx=>TP.to ZgW x t
theorem ZA9{L:Lk}{t:Ty}{d:TD}{y:t.den}(h:ZJb L t d=some y):Wk (d.er L) (.p (t.enc y)):=by
 obtain⟨x,h1,h2⟩:=yf.1 h;have hf:(d.er L).flat=some x.pe:=by rw[ZkP,h1];rfl
 have hw:Wk (d.er L) (.p x.pe):=⟨(Zh4 _ _ hf).symm,(Zo9 hf).symm,λσ vs r=>by simp only[yH];exact ZeI _ _ _ hf r⟩;have hz:=ZwW h2;exact⟨hw.size.trans hz.size,hw.agg.trans hz.agg,λσ vs r=>(Wk.p hz).rep σ vs (hw.rep σ vs r)⟩
def ESh.mt(L:Lk):ESh->TEnt->yO (TEnt×yL TV)
 |.var s st,.var d st'=>if st=st'\/st=false then(s.mt L d).map λq=>(.var q.1 st,q.2) else none
 |.log t e,.log u e' xs=>if e=e' then(Ty.castL u t xs).map λys=>(.log t e ys,[⟨.sl t,ys⟩]) else none
 |.map tid k v,.map tid' k' v' l=>if tid=tid' then(Ty.cast (Zj1 k' v') (Zj1 k v) l).map λ(m:yL (k.den×v.den))=>(.map tid k v m,[⟨Zj1 k v,m⟩]) else none
 |.row t st e,.rowT u v st' e' xs=>if(st=st'\/st=false)/\e=e' then(Ty.castL u t xs).map λys=>(.rowT t v st e ys,[⟨.sl (.st []),v⟩,⟨.sl t,ys⟩]) else none
 |.rowN t np st e,.rowN u np' v st' e' pre post=>if(st=st'\/st=false)/\e=e'/\np=np' then(Ty.castL u t pre).bind λys=>(Ty.castL u t post).map λzs=>
   (.rowN t np v st e ys zs,[⟨.sl (.st []),v⟩,⟨.sl t,ys⟩,⟨.sl t,zs⟩]) else none
 |.rowN t np st e,.rowM u np' v st' e' pre mid post=>if st=st'/\e=e'/\np=np' then(Ty.castL u t pre).bind λys=>(Ty.castL u t post).bind λzs=>(ZJb L t mid).map λy=>
   (.rowN t np v st e (ys++[y]) zs,[⟨.sl (.st []),v⟩,⟨.sl t,ys++[y]⟩,⟨.sl t,zs⟩]) else none
 |.rowM t np st e s,.rowM u np' v st' e' pre mid post=>if st=st'/\e=e'/\np=np' then(Ty.castL u t pre).bind λys=>(Ty.castL u t post).bind λzs=>(s.mt L mid).map λq=>
   (.rowM t np v st e ys q.1 zs,[⟨.sl (.st []),v⟩,⟨.sl t,ys⟩,⟨.sl t,zs⟩]++q.2) else none
 |.gone,.gone=>some (.gone,[])
 |_,_=>none
def ESh.fill:ESh->yL TV->yO (TEnt×yL TV)
 |.var s st,vs=>(s.fill vs).map λq=>(.var q.1 st,q.2)
 |.log t e,vs=>match vs with
  |x::r=>(Ty.cast x.1 (.sl t) x.2).map λ(y:yL t.den)=>(.log t e y,r)
  |[]=>none
 |.map tid k v,vs=>match vs with
  |x::r=>(Ty.cast x.1 (Zj1 k v) x.2).map λ(y:yL (k.den×v.den))=>(.map tid k v y,r)
  |[]=>none
 |.row t st e,vs=>match vs with
  |x::y::r=>(Ty.cast x.1 (.sl (.st [])) x.2).bind λ(v:yL Unit)=>(Ty.cast y.1 (.sl t) y.2).map λ(l:yL t.den)=>(.rowT t v st e l,r)
  |_=>none
 |.rowN t np st e,vs=>match vs with
  |x::y::z::r=>(Ty.cast x.1 (.sl (.st [])) x.2).bind λ(v:yL Unit)=>(Ty.cast y.1 (.sl t) y.2).bind λ(l:yL t.den)=>(Ty.cast z.1 (.sl t) z.2).bind λ(m:yL t.den)=>some (.rowN t np v st e l m,r)
  |_=>none
 |.rowM t np st e s,vs=>match vs with
  |x::y::z::r=>(Ty.cast x.1 (.sl (.st [])) x.2).bind λ(v:yL Unit)=>(Ty.cast y.1 (.sl t) y.2).bind λ(l:yL t.den)=>(Ty.cast z.1 (.sl t) z.2).bind λ(m:yL t.den)=>
   (s.fill r).map λq=>(.rowM t np v st e l q.1 m,q.2)
  |_=>none
 |.gone,vs=>some (.gone,vs)
def ESh.mts(L:Lk):yL ESh->yL TEnt->yO (yL TEnt×yL TV)
 |[],[]=>some ([],[])
 |s::r,d::q=>match ESh.mt L s d,ESh.mts L r q with
  |some a,some b=>some (a.1::b.1,a.2++b.2)
  |_,_=>none
 |_,_=>none
def ESh.fills:yL ESh->yL TV->yO (yL TEnt×yL TV)
 |[],vs=>some ([],vs)
 |s::r,vs=>(ESh.fill s vs).bind λa=>(ESh.fills r a.2).map λb=>(a.1::b.1,b.2)
theorem ZEp{O:Type}{t:Ty}(v:yL Unit)(a b:yL t.den)(k:yL Unit->yL t.den->yL t.den->yO O):
 ((Ty.cast (.sl (.st [])) (.sl (.st [])) v).bind λ(v:yL Unit)=>(Ty.cast (.sl t) (.sl t) a).bind λ(l:yL t.den)=>(Ty.cast (.sl t) (.sl t) b).bind λ(m:yL t.den)=>k v l m)=k v a b:=by
 have e1:=YA (.sl (.st [])) v;have e2:=YA (.sl t) a;have e3:=YA (.sl t) b;rw[e1,e2,e3];rfl
theorem ZEq{L:Lk}{s:ESh}{d:TEnt}{q:TEnt×yL TV}(h:s.mt L d=some q)(yK:yL TV):s.fill (q.2++yK)=some (q.1,yK):=by
 unfold ESh.mt at h;split at h
 ·split at h
  ·obtain⟨w,h1,rfl⟩:=Zb h;simp only[ESh.fill,Zif _ _ w h1 yK,yaa]
  ·cases h
 ·split at h
  ·obtain⟨w,h1,rfl⟩:=Zb h;rename_i t e _ _ _ _;exact congrArg (Option.map λ(y:yL t.den)=>(TEnt.log t e y,yK)) (YA (.sl t) w)
  ·cases h
 ·split at h
  ·obtain⟨w,h1,rfl⟩:=Zb h;rename_i tid k v _ _ _ _ _;exact congrArg (Option.map λ(y:yL (k.den×v.den))=>(TEnt.map tid k v y,yK)) (YA (Zj1 k v) w)
  ·cases h
 ·split at h
  ·obtain⟨w,h1,rfl⟩:=Zb h;rename_i t st e _ v _ _ _ _;have e1:=YA (.sl (.st [])) v;have e2:=YA (.sl t) w;show((Ty.cast (.sl (.st [])) (.sl (.st [])) v).bind λ(v:yL Unit)=>(Ty.cast (.sl t) (.sl t) w).map λ(l:yL t.den)=>(TEnt.rowT t v st e l,yK))=_;rw[e1,e2];rfl
  ·cases h
 ·rename_i t np st e u np' v st' e' pre post;split at h
  ·obtain⟨a,h1,h⟩:=yf.1 h;obtain⟨b,h2,rfl⟩:=Zb h;exact ZEp v a b (λv l m=>some (TEnt.rowN t np v st e l m,yK))
  ·cases h
 ·rename_i t np st e u np' v st' e' pre mid post;split at h
  ·obtain⟨a,h1,h⟩:=yf.1 h;obtain⟨b,h2,h⟩:=yf.1 h;obtain⟨c,h3,rfl⟩:=Zb h;exact ZEp v (a++[c]) b (λv l m=>some (TEnt.rowN t np v st e l m,yK))
  ·cases h
 ·rename_i t np st e s u np' v st' e' pre mid post;split at h
  ·obtain⟨a,h1,h⟩:=yf.1 h;obtain⟨b,h2,h⟩:=yf.1 h;obtain⟨c,h3,rfl⟩:=Zb h;have:=ZEp v a b (λv l m=>(s.fill (c.2++yK)).map λq=>(TEnt.rowM t np v st e l q.1 m,q.2));refine this.trans ?_;rw[Zif _ _ c h3 yK];rfl
  ·cases h
 ·cases h;rfl
 ·cases h
theorem Qw{L:Lk}:∀{l:yL ESh}{H:yL TEnt}{q:yL TEnt×yL TV},ESh.mts L l H=some q->∀yK,ESh.fills l (q.2++yK)=some (q.1,yK)
 |[],[],q,h,yK=>by cases h;rfl
 |[],_::_,q,h,yK=>by cases h
 |_::_,[],q,h,yK=>by cases h
 |s::r,d::H,q,h,yK=>by
  simp only[ESh.mts] at h;split at h
  ·rename_i a b h1 h2;cases h;simp only[ESh.fills,yac,ZEq h1,ya,Qw h2,yaa]
  ·cases h
theorem ZJc{L:Lk}{s:ESh}{d:TEnt}{q:TEnt×yL TV}(h:s.mt L d=some q):lkE (some q.1)=lkE (some d):=by
 unfold ESh.mt at h;split at h
 ·split at h
  ·obtain⟨w,h1,rfl⟩:=Zb h;rfl
  ·cases h
 ·split at h
  ·obtain⟨w,h1,rfl⟩:=Zb h;obtain⟨e,h2⟩:=Zu h1;subst e;subst h2;rfl
  ·cases h
 ·split at h
  ·obtain⟨w,h1,rfl⟩:=Zb h;rfl
  ·cases h
 ·split at h
  ·obtain⟨w,h1,rfl⟩:=Zb h;obtain⟨e,h2⟩:=Zu h1;subst e;subst h2;rfl
  ·cases h
 ·split at h
  ·obtain⟨a,h1,h⟩:=yf.1 h;obtain⟨b,h2,rfl⟩:=Zb h;obtain⟨e,h3⟩:=Zu h1;subst e;obtain⟨_,h4⟩:=Zu h2;subst h3;subst h4;rfl
  ·cases h
 ·split at h
  ·obtain⟨a,h1,h⟩:=yf.1 h;obtain⟨b,h2,h⟩:=yf.1 h;obtain⟨c,h3,rfl⟩:=Zb h;obtain⟨e,h4⟩:=Zu h1;subst e;obtain⟨_,h5⟩:=Zu h2;subst h4;subst h5;simp only[lkE,yo,yah,yco];rw[Nat.add_assoc,Nat.add_comm (0+1)]
  ·cases h
 ·split at h
  ·obtain⟨a,h1,h⟩:=yf.1 h;obtain⟨b,h2,h⟩:=yf.1 h;obtain⟨c,h3,rfl⟩:=Zb h;obtain⟨e,h4⟩:=Zu h1;subst e;obtain⟨_,h5⟩:=Zu h2;subst h4;subst h5;rfl
  ·cases h
 ·cases h;rfl
 ·cases h
theorem ZeS{L:Lk}:∀{l:yL ESh}{H:yL TEnt}{q:yL TEnt×yL TV},ESh.mts L l H=some q->q.1.length=H.length/\lk q.1=lk H
 |[],[],q,h=>by cases h;exact⟨rfl,rfl⟩
 |[],_::_,q,h=>by cases h
 |_::_,[],q,h=>by cases h
 |s::r,d::H,q,h=>by
  simp only[ESh.mts] at h;split at h
  ·rename_i a b h1 h2;cases h;obtain⟨e1,e2⟩:=ZeS h2;refine⟨by simp[e1],funext λi=> ?_⟩
   cases i with
   |zero=>exact ZJc h1
   |succ i=>exact congrFun e2 i
  ·cases h
theorem ZBa:∀(l:yL Dv){m m':yL Dv},WkL m m'->WkL (l++m) (l++m')
 |[],_,_,h=>h
 |x::l,_,_,h=>.cons (Wk.refl x) (ZBa l h)
theorem ZBb{l m:yL Dv}{d d':Dv}(h:Wk d d'):WkL (l++d::m) (l++d'::m):=ZBa l (.cons h (WkL.refl m))
theorem ZEr{n s:Nat}(xs:yL Pl):Wk (.arr n s (xs.map .p)) (.p (.arr n s xs)):=⟨rfl,rfl,λσ vs r=>by
 simp only[yH,repC] at r ⊢;obtain⟨h1,h2,h3⟩:=r;exact⟨by simpa using h1,λx hx=>h2 (.p x) (List.mem_map_of_mem hx),Zfk.1 h3⟩⟩
theorem ZJd{n s:Nat}{d:Dv}{x:Pl}(l m:yL Pl)(h:Wk d (.p x)):Wk (.arr n s (l.map .p++d::m.map .p)) (.p (.arr n s (l++x::m))):=by
 have h1:Wk (.arr n s (l.map .p++d::m.map .p)) (.arr n s (l.map .p++.p x::m.map .p)):=WkL.arr (ZBb h);have h2:=ZEr (n:=n) (s:=s) (l++x::m);rw[yai,yad] at h2;exact⟨rfl,rfl,λσ vs r=>h2.rep σ vs (h1.rep σ vs r)⟩
theorem ZBc{L M:Lk}{t:Ty}{np:yL Nat}{v:yL Unit}{st:Bool}{e:yc}{a b:yL t.den}{mid:TD}{c:t.den}(hw:Wk (mid.er L) (.p (t.enc c))):
 WkE ((TEnt.rowM t np v st e a mid b).er L) ((TEnt.rowN t np v st e (a++[c]) b).er M):=by
 have h:=ZJd (a.map t.enc) (b.map λx=>(Zth np (.v t x)).pe) (n:=a.length+(b.length+1)) (s:=t.size) hw;rw[yas,yas] at h;have e1:(a++[c]).length+b.length=a.length+(b.length+1):=by rw[yo,yah,yco];omega
 have e2:(a++[c]).map t.enc++(b.map λx=>(Zth np (.v t x)).pe)=a.map t.enc++t.enc c::b.map λx=>(Zth np (.v t x)).pe:=by rw[yai,yac];rfl
 rw[TEnt.er,TEnt.er,e1,e2];exact .row ⟨h,rfl⟩
theorem ZJe{L M:Lk}(hL:∀id t,ZW L id t none=ZW M id t none){s:ESh}{d:TEnt}{q:TEnt×yL TV}(h:s.mt L d=some q):WkE (d.er L) (q.1.er M):=by
 unfold ESh.mt at h;split at h
 ·split at h
  ·rename_i e;obtain⟨w,h1,rfl⟩:=Zb h;rcases e with e|e
   ·subst e;exact .var (ZpX hL _ _ w h1)
   ·subst e;exact .varz (ZpX hL _ _ w h1)
  ·cases h
 ·split at h
  ·rename_i e;subst e;obtain⟨w,h1,rfl⟩:=Zb h;obtain⟨e,h2⟩:=Zu h1;subst e;subst h2;exact .refl _
  ·cases h
 ·split at h
  ·rename_i e;subst e;obtain⟨w,h1,rfl⟩:=Zb h;obtain⟨e,h2⟩:=QJ h1;unfold Zj1 at e;simp only[Ty.sl.injEq,Ty.st.injEq,List.cons.injEq,and_true] at e;obtain⟨e1,e2⟩:=e;subst e1;subst e2;subst h2;exact .refl _
  ·cases h
 ·split at h
  ·rename_i e;obtain⟨e0,e1⟩:=e;subst e1;obtain⟨w,h1,rfl⟩:=Zb h;obtain⟨e,h2⟩:=Zu h1;subst e;subst h2;rcases e0 with e0|e0
   ·subst e0;exact .refl _
   ·subst e0;exact .lock
  ·cases h
 ·split at h
  ·rename_i e;obtain⟨e0,e1,e2⟩:=e;subst e1;subst e2;obtain⟨a,h1,h⟩:=yf.1 h;obtain⟨b,h2,rfl⟩:=Zb h;obtain⟨e,h3⟩:=Zu h1;subst e;obtain⟨_,h4⟩:=Zu h2;subst h3;subst h4;rcases e0 with e0|e0
   ·subst e0;exact .refl _
   ·subst e0;exact .lock
  ·cases h
 ·rename_i _ _ _ _ _ _ _ _ _ pre mid post;split at h
  ·rename_i e;obtain⟨e0,e1,e2⟩:=e;subst e0;subst e1;subst e2;obtain⟨a,h1,h⟩:=yf.1 h;obtain⟨b,h2,h⟩:=yf.1 h;obtain⟨c,h3,rfl⟩:=Zb h;obtain⟨e,h4⟩:=Zu h1;subst e;obtain⟨_,h5⟩:=Zu h2;subst h4;subst h5;exact ZBc (ZA9 h3)
  ·cases h
 ·split at h
  ·rename_i e;obtain⟨e0,e1,e2⟩:=e;subst e0;subst e1;subst e2;obtain⟨a,h1,h⟩:=yf.1 h;obtain⟨b,h2,h⟩:=yf.1 h;obtain⟨c,h3,rfl⟩:=Zb h;obtain⟨e,h4⟩:=Zu h1;subst e;obtain⟨_,h5⟩:=Zu h2;subst h4;subst h5;rw[TEnt.er,TEnt.er];exact .row ⟨WkL.arr (ZBb (ZpX hL _ _ c h3)),rfl⟩
  ·cases h
 ·cases h;exact .refl _
 ·cases h
theorem Zig{L M:Lk}(hL:∀id t,ZW L id t none=ZW M id t none):∀{l:yL ESh}{H:yL TEnt}{q:yL TEnt×yL TV},ESh.mts L l H=some q->WkH (H.map (TEnt.er L)) (q.1.map (TEnt.er M))
 |[],[],q,h=>by cases h;exact .nil
 |[],_::_,q,h=>by cases h
 |_::_,[],q,h=>by cases h
 |s::r,d::H,q,h=>by
  simp only[ESh.mts] at h;split at h
  ·rename_i a b h1 h2;cases h;exact .cons (ZJe hL h1) (Zig hL h2)
  ·cases h
def ofD:(ts:yL Ty)->Ty.dens ts->yL TV
 |[],_=>[]
 |[t],x=>[⟨t,x⟩]
 |t::u::r,x=>⟨t,x.1⟩::ofD (u::r) x.2
def toD:(ts:yL Ty)->yL TV->yO (Ty.dens ts)
 |[],[]=>some ()
 |[t],[x]=>Ty.cast x.1 t x.2
 |t::u::r,x::l=>ZiQ (Ty.cast x.1 t x.2) (toD (u::r) l)
 |_,_=>none
theorem Za3:∀(ts:yL Ty)(l:yL TV)(x:Ty.dens ts),toD ts l=some x->ofD ts x=l
 |[],[],x,h=>rfl
 |[],_::_,x,h=>by cases h
 |[t],[],x,h=>by cases h
 |[t],[y],x,h=>by
  obtain⟨e,h2⟩:=QJ (show Ty.cast y.1 t y.2=some x from h)
  obtain⟨u,y⟩:=y;dsimp only at e h2;subst e;subst h2
  rfl
 |[t],_::_::_,x,h=>by cases h
 |t::u::r,[],x,h=>by cases h
 |t::u::r,y::l,x,h=>by
  obtain⟨h1,h2⟩:=Qu (α:=t.den) (β:=Ty.dens (u::r)) (show ZiQ (Ty.cast y.1 t y.2) (toD (u::r) l)=some x from h)
  obtain⟨e,h3⟩:=QJ h1;obtain⟨u',y⟩:=y;dsimp only at e h3;subst e;have:=Za3 (u::r) l x.2 h2;show(⟨u',x.1⟩:TV)::ofD (u::r) x.2=_;rw[this,h3]
abbrev Slots:=yL (Nat×Sh)
def shs(sl:Slots)(n:Nat):yL Sh:=(yr n).map λi=>(sl.lookup i).getD .junk
def VV(n:Nat)(sl:Slots)(es:yL ESh)(vs:yL TV):yO (yL TD×yL TEnt):=
 (Sh.fills (shs sl n) vs).bind λq=>(ESh.fills es q.2).bind λw=>if w.2.isEmpty then some (q.1,w.1) else none
theorem Zih:∀{l:yL Sh}{vs:yL TV}{q:yL TD×yL TV},Sh.fills l vs=some q->q.1.length=l.length
 |[],vs,q,h=>by simp only[Sh.fills] at h;cases h;rfl
 |s::r,vs,q,h=>by
  simp only[Sh.fills] at h;obtain⟨a,h1,h⟩:=yf.1 h;obtain⟨b,h2,rfl⟩:=Zb h;simp[Zih h2]
theorem Zii{n:Nat}{sl:Slots}{es:yL ESh}{vs:yL TV}{q:yL TD×yL TEnt}(h:VV n sl es vs=some q):q.1.length=n:=by
 unfold VV at h;obtain⟨a,h1,h⟩:=yf.1 h;obtain⟨b,h2,h⟩:=yf.1 h;split at h
 ·cases h;rw[Zih h1];simp[shs]
 ·cases h
structure XSh where
 ex:Ex
 sl:Slots
 es:List ESh
 ty:List Ty
def XSh.sum:yL XSh->Type
 |[]=>Empty
 |[e]=>Ty.dens e.ty
 |e::f::r=>Ty.dens e.ty⊕XSh.sum (f::r)
abbrev Kc(O:Type):=Ex->yL TD->yL TEnt->yO O
def xT{O:Type}(n:Nat):(l:yL XSh)->XSh.sum l->Kc O->yO O
 |[],_,_=>none
 |[e],o,K=>(VV n e.sl e.es (ofD e.ty o)).bind λs=>K e.ex s.1 s.2
 |e::f::r,o,K=>match (o:Ty.dens e.ty⊕XSh.sum (f::r)) with
  |.inl o=>(VV n e.sl e.es (ofD e.ty o)).bind λs=>K e.ex s.1 s.2
  |.inr o=>xT n (f::r) o K
def Zxl:(l:yL XSh)->XSh.sum l->XSh->yL TV->Prop
 |[],_,_,_=>False
 |[e],o,x,vs=>x=e/\vs=ofD e.ty o
 |e::f::r,o,x,vs=>match (o:Ty.dens e.ty⊕XSh.sum (f::r)) with
  |.inl o=>x=e/\vs=ofD e.ty o
  |.inr o=>Zxl (f::r) o x vs
theorem ZoU{O:Type}{n:Nat}{K:Kc O}{out:O}:∀{l:yL XSh}{o:XSh.sum l},xT n l o K=some out->∃e vs s,Zxl l o e vs/\VV n e.sl e.es vs=some s/\K e.ex s.1 s.2=some out
 |[],_,h=>by cases h
 |[e],o,h=>by
  obtain⟨s,h1,h2⟩:=yf.1 (show(VV n e.sl e.es (ofD e.ty o)).bind (λs=>K e.ex s.1 s.2)=some out from h)
  exact⟨e,_,s,⟨rfl,rfl⟩,h1,h2⟩
 |e::f::r,.inl o,h=>by
  obtain⟨s,h1,h2⟩:=yf.1 (show(VV n e.sl e.es (ofD e.ty o)).bind (λs=>K e.ex s.1 s.2)=some out from h)
  exact⟨e,_,s,⟨rfl,rfl⟩,h1,h2⟩
 |e::f::r,.inr o,h=>by
  obtain⟨e',vs,s,h1,h2,h3⟩:=ZoU (l:=f::r) (o:=o) h;exact⟨e',vs,s,h1,h2,h3⟩
mutual
def TD.rn(f:Nat->yO Nat):TD->yO TD
 |.p x=>some (.p x)
 |.elem x=>some (.elem x)
 |.ref id yQ=>(f id).map λi=>.ref i yQ
 |.own id nn t c=>(f id).map λi=>.own i nn t c
 |.view id yQ s lo n=>(f id).map λi=>.view i yQ s lo n
 |.agg xs=>(TD.rns f xs).map .agg
 |.arr n s xs=>(TD.rns f xs).map (.arr n s)
 |.fn g cap=>(TD.rns f cap).map (.fn g)
 |.iface t x=>(TD.rn f x).map (.iface t)
 |.tup xs=>(TD.rns f xs).map .tup
 |.mp id=>(f id).map .mp
 |.rv id v s lo n=>(f id).map λi=>.rv i v s lo n
 |.rref id v yQ=>(f id).map λi=>.rref i v yQ
 |.rw id=>(f id).map .rw
 |.rp id yQ=>(f id).map λi=>.rp i yQ
 |.junk=>some .junk
def TD.rns(f:Nat->yO Nat):yL TD->yO (yL TD)
 |[]=>some []
 |x::r=>match TD.rn f x,TD.rns f r with
  |some y,some ys=>some (y::ys)
  |_,_=>none
end
def TEnt.rn(f:Nat->yO Nat):TEnt->yO TEnt
 |.var d st=>(d.rn f).map λd'=>.var d' st
 |.row v s st e d=>(d.rn f).map λd'=>.row v s st e d'
 |.rowM t np v st e pre d post=>(d.rn f).map λd'=>.rowM t np v st e pre d' post
 |e=>some e
def TEnt.rns(f:Nat->yO Nat):yL TEnt->yO (yL TEnt)
 |[]=>some []
 |x::r=>match TEnt.rn f x,TEnt.rns f r with
  |some y,some ys=>some (y::ys)
  |_,_=>none
def Rc(f:Nat->yO Nat)(L M:Lk):Prop:=∀id j t,f id=some j->ZW L id t none=ZW M j t none
theorem ZG4{f:Nat->yO Nat}{L M:Lk}(h:Rc f L M){id j:Nat}(e:f id=some j)(t:Ty)(c:yO (yL t.den)):ZW L id t c=ZW M j t c:=by
 cases c with
 |none=>exact h id j t e
 |some _=>rfl
mutual
theorem ZcT{f:Nat->yO Nat}{L M:Lk}(h:Rc f L M):∀(d d':TD),d.rn f=some d'->Dv.rn f (d.er L)=some (d'.er M)
 |.p x,d',e=>by cases e;rfl
 |.elem x,d',e=>by cases e;rfl
 |.ref id yQ,d',e=>by
  obtain⟨i,h1,rfl⟩:=Zb e
  simp only[TD.er,Dv.rn,h1,yaa]
 |.own id nn t c,d',e=>by
  obtain⟨i,h1,rfl⟩:=Zb e
  simp only[TD.er,Dv.rn,h1,yaa,ZG4 h h1]
 |.view id yQ s lo n,d',e=>by
  obtain⟨i,h1,rfl⟩:=Zb e
  simp only[TD.er,Dv.rn,h1,yaa]
 |.agg xs,d',e=>by
  obtain⟨i,h1,rfl⟩:=Zb e
  simp only[TD.er,Dv.rn,rns_er h xs i h1,yaa]
 |.arr n s xs,d',e=>by
  obtain⟨i,h1,rfl⟩:=Zb e
  simp only[TD.er,Dv.rn,rns_er h xs i h1,yaa]
 |.fn g xs,d',e=>by
  obtain⟨i,h1,rfl⟩:=Zb e
  simp only[TD.er,Dv.rn,rns_er h xs i h1,yaa]
 |.iface t x,d',e=>by
  obtain⟨i,h1,rfl⟩:=Zb e
  simp only[TD.er,Dv.rn,ZcT h x i h1,yaa]
 |.tup xs,d',e=>by
  obtain⟨i,h1,rfl⟩:=Zb e
  simp only[TD.er,Dv.rn,rns_er h xs i h1,yaa]
 |.mp id,d',e=>by
  obtain⟨i,h1,rfl⟩:=Zb e
  simp only[TD.er,Dv.rn,h1,yaa]
 |.rv id v s lo n,d',e=>by
  obtain⟨i,h1,rfl⟩:=Zb e
  simp only[TD.er,Dv.rn,h1,yaa]
 |.rref id v yQ,d',e=>by
  obtain⟨i,h1,rfl⟩:=Zb e
  simp only[TD.er,Dv.rn,h1,yaa]
 |.rw id,d',e=>by
  obtain⟨i,h1,rfl⟩:=Zb e
  simp only[TD.er,Dv.rn,h1,yaa,Zax,h _ _ _ h1]
 |.rp id yQ,d',e=>by
  obtain⟨i,h1,rfl⟩:=Zb e
  simp only[TD.er,Dv.rn,h1,yaa,Zax,h _ _ _ h1]
 |.junk,d',e=>by cases e;rfl
theorem rns_er{f:Nat->yO Nat}{L M:Lk}(h:Rc f L M):∀(ds es:yL TD),TD.rns f ds=some es->Dv.rns f (TD.ers L ds)=some (TD.ers M es)
 |[],es,e=>by cases e;rfl
 |x::r,es,e=>by
  simp only[TD.rns] at e;split at e
  ·rename_i y ys h1 h2;cases e;simp only[TD.ers,Dv.rns,ZcT h x y h1,rns_er h r ys h2]
  ·cases e
end
theorem ZzN{α:Type}(f:Nat->yO Nat)(g:α->Pl):∀(l:yL α)(m:yL Dv),Dv.rns f ((l.map λx=>.p (g x))++m)=(Dv.rns f m).map λq=>(l.map λx=>.p (g x))++q
 |[],m=>by cases h:Dv.rns f m <;> simp[h]
 |x::l,m=>by
  rw[yad,yab,Dv.rns,Dv.rn,ZzN f g l m];cases Dv.rns f m <;> rfl
theorem ZG5{α β:Type}{f:Nat->yO Nat}{g:α->Pl}{g':β->Pl}{l:yL α}{d d':Dv}{m:yL β}(h:Dv.rn f d=some d'):
 Dv.rns f ((l.map λx=>.p (g x))++d::m.map λx=>.p (g' x))=some ((l.map λx=>.p (g x))++d'::m.map λx=>.p (g' x)):=by
 have e:=ZzN f g' m [];rw[yar] at e;rw[ZzN,Dv.rns,h,e];simp[Dv.rns]
theorem ZEs{f:Nat->yO Nat}{L M:Lk}(h:Rc f L M){e e':TEnt}(k:e.rn f=some e'):Ent.rn f (e.er L)=some (e'.er M):=by
 cases e with
 |var d st=>
  obtain⟨i,h1,rfl⟩:=Zb k
  simp only[TEnt.er,Ent.rn,ZcT h d i h1,yaa]
 |row v s st e d=>
  obtain⟨i,h1,rfl⟩:=Zb k
  simp only[TEnt.er,Ent.rn,ZcT h d i h1,yaa]
 |rowM t np v st e pre d post=>
  obtain⟨i,h1,rfl⟩:=Zb k
  simp only[TEnt.er,Ent.rn,Dv.rn,ZG5 (ZcT h d i h1),yaa]
 |_=>cases k;rfl
theorem ZBd{f:Nat->yO Nat}{L M:Lk}(h:Rc f L M):∀(ds es:yL TEnt),TEnt.rns f ds=some es->Ent.rns f (ds.map (TEnt.er L))=some (es.map (TEnt.er M))
 |[],es,e=>by cases e;rfl
 |x::r,es,e=>by
  simp only[TEnt.rns] at e;split at e
  ·rename_i y ys h1 h2;cases e;simp only[yad,Ent.rns,ZEs h h1,ZBd h r ys h2]
  ·cases e
theorem ZEt{f:Nat->yO Nat}{e e':TEnt}(k:e.rn f=some e'):lkE (some e')=lkE (some e):=by
 cases e with
 |var d st=>obtain⟨i,h1,rfl⟩:=Zb k;rfl
 |row v s st e d=>obtain⟨i,h1,rfl⟩:=Zb k;rfl
 |rowM t np v st e pre d post=>obtain⟨i,h1,rfl⟩:=Zb k;rfl
 |_=>cases k;rfl
theorem Zxm{f:Nat->yO Nat}:∀{ds es:yL TEnt},TEnt.rns f ds=some es->es.length=ds.length/\∀(j:Nat),lkE (es[j]?)=lkE (ds[j]?)
 |[],es,e=>by cases e;exact⟨rfl,λ_=>rfl⟩
 |x::r,es,e=>by
  simp only[TEnt.rns] at e;split at e
  ·rename_i y ys h1 h2;cases e;obtain⟨g1,g2⟩:=Zxm h2;refine⟨by simp[g1],λj=> ?_⟩
   cases j with
   |zero=>exact ZEt h1
   |succ j=>exact g2 j
  ·cases e
def XK(H:yL TEnt)(all:yL Nat):yL Nat->yO (yL TEnt)
 |[]=>some []
 |id::r=>match (H[id]?).bind (TEnt.rn (toIds all)),XK H all r with
  |some e,some es=>some (e::es)
  |_,_=>none
theorem Zb7{H:yL TEnt}{all:yL Nat}:∀{ids:yL Nat}{Hin:yL TEnt},XK H all ids=some Hin->Hin.length=ids.length/\∀(j id:Nat),ids[j]? =some id->id < H.length/\lkE (Hin[j]?)=lkE (H[id]?)
 |[],Hin,h=>by cases h;exact⟨rfl,λj id e=>by simp at e⟩
 |i::r,Hin,h=>by
  simp only[XK] at h;split at h
  ·rename_i e es h1 h2;cases h;obtain⟨g1,g2⟩:=Zb7 h2;obtain⟨e0,h3,h4⟩:=yf.1 h1;refine⟨by simp[g1],λj id hj=> ?_⟩
   cases j with
   |zero=>
    cases hj
    exact⟨(yq.1 h3).1,by rw[h3];exact ZEt h4⟩
   |succ j=>exact g2 j id hj
  ·cases h
theorem Xw{H:yL TEnt}{all:yL Nat}{M:Lk}(h:Rc (toIds all) (lk H) M):∀{ids:yL Nat}{Hin:yL TEnt},XK H all ids=some Hin->subEnts (erH H) all ids=some (Hin.map (TEnt.er M))
 |[],Hin,e=>by cases e;rfl
 |i::r,Hin,e=>by
  simp only[XK] at e;split at e
  ·rename_i e0 es h1 h2;cases e;obtain⟨e1,h3,h4⟩:=yf.1 h1;simp only[subEnts,Z2 h3,ya,ZEs h h4,Xw h h2,yad]
  ·cases e
mutual
def TD.lay(L:Lk)(S:yL Nat):TD->TD
 |.own id nn t c=>if S.contains id then .own id nn t (some (ZW L id t c)) else .own id nn t c
 |.agg xs=>.agg (TD.lays L S xs)
 |.arr m s xs=>.arr m s (TD.lays L S xs)
 |.fn f xs=>.fn f (TD.lays L S xs)
 |.iface t x=>.iface t (TD.lay L S x)
 |.tup xs=>.tup (TD.lays L S xs)
 |.p x=>.p x
 |.elem x=>.elem x
 |.ref id yQ=>.ref id yQ
 |.view id yQ s lo n=>.view id yQ s lo n
 |.mp id=>.mp id
 |.rv id v s lo n=>.rv id v s lo n
 |.rref id v yQ=>.rref id v yQ
 |.rw id=>if S.contains id then .rv id (Zax L id 0) (Zax L id 1) 0 (Zax L id 2) else .rw id
 |.rp id yQ=>if S.contains id then .rref id (Zax L id 0) yQ else .rp id yQ
 |.junk=>.junk
def TD.lays(L:Lk)(S:yL Nat):yL TD->yL TD
 |[]=>[]
 |x::r=>TD.lay L S x::TD.lays L S r
end
mutual
def TD.under(n:Nat):TD->Bool
 |.own id _ _ c=>c.isSome || decide (id < n)
 |.rw id=>decide (id < n)
 |.rp id _=>decide (id < n)
 |.agg xs=>TD.unders n xs
 |.arr _ _ xs=>TD.unders n xs
 |.fn _ xs=>TD.unders n xs
 |.iface _ x=>TD.under n x
 |.tup xs=>TD.unders n xs
 |_=>true
def TD.unders(n:Nat):yL TD->Bool
 |[]=>true
 |x::r=>TD.under n x&&TD.unders n r
end
def TEnt.lay(L:Lk)(S:yL Nat):TEnt->TEnt
 |.var d st=>.var (d.lay L S) st
 |.row v s st e d=>.row v s st e (d.lay L S)
 |.rowM t np v st e pre d post=>.rowM t np v st e pre (d.lay L S) post
 |e=>e
def TEnt.under(n:Nat):TEnt->Bool
 |.var d _=>d.under n
 |.row _ _ _ _ d=>d.under n
 |.rowM _ _ _ _ _ _ d _=>d.under n
 |_=>true
def Lo(S:yL Nat)(n:Nat)(L M:Lk):Prop:=∀id t,S.contains id=false->id < n->ZW L id t none=ZW M id t none
mutual
theorem ZpY{L M:Lk}{S:yL Nat}{n:Nat}(h:Lo S n L M):∀(d:TD),d.under n=true->(d.lay L S).er M=d.er L
 |.p _,_=>rfl
 |.elem _,_=>rfl
 |.ref _ _,_=>rfl
 |.own id nn t c,hf=>by
  rw[TD.lay];split
  ·rfl
  ·rename_i hn
   cases c with
   |none=>
    have:id < n:=by simpa[TD.under] using hf
    rw[TD.er,TD.er,h id t (by simpa using hn) this]
   |some _=>rfl
 |.view _ _ _ _ _,_=>rfl
 |.agg xs,hf=>by rw[TD.lay,TD.er,TD.er,ers_lay h xs hf]
 |.arr _ _ xs,hf=>by rw[TD.lay,TD.er,TD.er,ers_lay h xs hf]
 |.fn _ xs,hf=>by rw[TD.lay,TD.er,TD.er,ers_lay h xs hf]
 |.iface _ x,hf=>by rw[TD.lay,TD.er,TD.er,ZpY h x hf]
 |.tup xs,hf=>by rw[TD.lay,TD.er,TD.er,ers_lay h xs hf]
 |.mp _,_=>rfl
 |.rv _ _ _ _ _,_=>rfl
 |.rref _ _ _,_=>rfl
 |.rw id,hf=>by
  rw[TD.lay];split
  ·rfl
  ·rename_i hn;have:id < n:=by simpa[TD.under] using hf
   simp only[TD.er,Zax,h id _ (by simpa using hn) this]
 |.rp id _,hf=>by
  rw[TD.lay];split
  ·rfl
  ·rename_i hn;have:id < n:=by simpa[TD.under] using hf
   simp only[TD.er,Zax,h id _ (by simpa using hn) this]
 |.junk,_=>rfl
theorem ers_lay{L M:Lk}{S:yL Nat}{n:Nat}(h:Lo S n L M):∀(ds:yL TD),TD.unders n ds=true->TD.ers M (TD.lays L S ds)=TD.ers L ds
 |[],_=>rfl
 |x::r,hf=>by
  simp only[TD.unders,yj] at hf;rw[TD.lays,TD.ers,TD.ers,ZpY h x hf.1,ers_lay h r hf.2]
end
theorem Zxn{L:Lk}{S:yL Nat}:∀(l:yL TD),(TD.lays L S l).length=l.length
 |[]=>rfl
 |_::r=>by rw[TD.lays,yah,yah,Zxn r]
theorem ZG6{L M:Lk}{S:yL Nat}{n:Nat}(h:Lo S n L M){e:TEnt}(hf:e.under n=true):(e.lay L S).er M=e.er L:=by
 cases e with
 |var d st=>rw[TEnt.lay,TEnt.er,TEnt.er,ZpY h d hf]
 |row v s st e d=>rw[TEnt.lay,TEnt.er,TEnt.er,ZpY h d hf]
 |rowM t np v st e pre d post=>rw[TEnt.lay,TEnt.er,TEnt.er,ZpY h d hf]
 |_=>rfl
theorem ZG7{L:Lk}{S:yL Nat}(e:yO TEnt):lkE (e.map (TEnt.lay L S))=lkE e:=by
 cases e with
 |none=>rfl
 |some e=>cases e <;> rfl
theorem ZnD{α β:Type}(f:α->β):∀(ids:yL Nat)(A B:yL α),(putBack A ids B).map f=putBack (A.map f) ids (B.map f)
 |[],A,B=>by simp[putBack]
 |id::r,A,[]=>by simp[putBack]
 |id::r,A,b::B=>by simp only[putBack,yad];rw[ZnD f r,ybm]
def TD.argI(L:Lk)(ids:yL Nat):TD->TD
 |.own id nn t c=>if ids.contains id then .own id nn t c else .p (.sl nn t (ZW L id t c))
 |.agg ds=>if TD.ownss ids ds then .agg ds else TD.melt L ds
 |d=>d
theorem Zu6{L:Lk}{ids:yL Nat}(d:TD):(d.argI L ids).er L=Dv.argI ids (d.er L):=by
 cases d with
 |own id nn t c=>
  rw[TD.argI,TD.er,Dv.argI]
  split <;> rfl
 |p _=>rfl
 |elem _=>rfl
 |ref _ _=>rfl
 |view _ _ _ _ _=>rfl
 |agg ds=>
  rw[TD.argI,TD.er,Dv.argI,ownss_er];split
  ·rw[TD.er]
  ·exact ZAZ _
 |arr _ _ _=>rfl
 |fn _ _=>rfl
 |iface _ _=>rfl
 |tup _=>rfl
 |mp _=>rfl
 |rv _ _ _ _ _=>rfl
 |rref _ _ _=>rfl
 |rw _=>rfl
 |rp _ _=>rfl
 |junk=>rfl
def ZpZ(P:yg)(ts:yL TD):yL yn->yL yc->yO (yL TD)
 |[],_=>some []
 |_,[]=>some []
 |x::r,t::q=>match arT P ts t x,ZpZ P ts r q with
  |some a,some b=>some (a::b)
  |_,_=>none
theorem Zk2{P:yg}{ts:yL TD}{L:Lk}(ids:yL Nat):∀{l:yL yn}{ty:yL yc}{ds:yL TD},ZpZ P ts l ty=some ds->
 ((l.zip ty).map λq=>(Zn P (TD.ers L ts) q.2 q.1).argI ids)=TD.ers L (ds.map (TD.argI L ids))
 |[],ty,ds,h=>by cases h;rfl
 |x::r,[],ds,h=>by cases h;rfl
 |x::r,t::q,ds,h=>by
  simp only[ZpZ] at h;split at h
  ·rename_i a b h1 h2;cases h;simp only[List.zip_cons_cons,yad,TD.ers,Zm (L:=L) h1,Zu6,Zk2 ids h2]
  ·cases h
theorem ZBe{L:Lk}(ids:yL Nat)(ds:yL TD):(TD.ers L ds).map (Dv.argI ids)=TD.ers L (ds.map (TD.argI L ids)):=by
 rw[ZB,ZB,yas,yas];exact ycn λx _=>(Zu6 x).symm
structure Fs(P:yg)where
 g:yu
 ps:List Sh
 es:List ESh
 ins:List Ty
 xs:List XSh
 M:Ty.dens ins->Option (XSh.sum xs)
def Fs.Ok{P:yg}(s:Fs P):Prop:=
 ∀x o,s.M x=some o->∃args R H,Sh.fills s.ps (ofD s.ins x)=some (args,R)/\ESh.fills s.es R=some (H,[])/\
  ∀e vs s',Zxl s.xs o e vs->VV 1 e.sl e.es vs=some s'->∃r,s'.1=[r]/\Con P s.g (TD.ers (lk H) args) (erH H) (r.er (lk s'.2)) (erH s'.2)
def AllOk{P:yg}:yL (Fs P)->Prop
 |[]=>True
 |s::r=>s.Ok/\AllOk r
mutual
def Sh.ids:Sh->TD->yL (Nat×Nat)
 |.own j _,d=>match d with
  |.own id _ _ none=>[(j,id)]
  |_=>[]
 |.ref j _,d=>match d with
  |.ref id _=>[(j,id)]
  |_=>[]
 |.mp j,d=>match d with
  |.mp id=>[(j,id)]
  |_=>[]
 |.rw j,d=>match d with
  |.rw id=>[(j,id)]
  |_=>[]
 |.rp j _ _,d=>match d with
  |.rp id _=>[(j,id)]
  |_=>[]
 |.view j _ _ _ _,d=>match d with
  |.view id _ _ _ _=>[(j,id)]
  |_=>[]
 |.fn _ l,d=>match d with
  |.fn _ ds=>Sh.idsL l ds
  |_=>[]
 |.agg l,d=>match d with
  |.agg ds=>Sh.idsL l ds
  |_=>[]
 |.arr _ _ l,d=>match d with
  |.arr _ _ ds=>Sh.idsL l ds
  |_=>[]
 |.tup l,d=>match d with
  |.tup ds=>Sh.idsL l ds
  |_=>[]
 |.iface _ x,d=>match d with
  |.iface _ y=>Sh.ids x y
  |_=>[]
 |_,_=>[]
def Sh.idsL:yL Sh->yL TD->yL (Nat×Nat)
 |[],_=>[]
 |s::r,ds=>match ds with
  |d::q=>Sh.ids s d++Sh.idsL r q
  |[]=>[]
end
def ZJf(H:yL TEnt):yL ESh->Nat->yL (Nat×Nat)->yL (Nat×Nat)
 |[],_,l=>l
 |e::r,j,l=>ZJf H r (j+1) (match e,(l.lookup j).bind λid=>ZnA H id with
  |.var s _,some d=>l++Sh.ids s d
  |_,_=>l)
def ZEu(H:yL TEnt):yO Nat:=(yr H.length).reverse.find? λi=>match H[i]? with
 |some .gone=>true
 |_=>false
def ZIi(H:yL TEnt)(ps:yL Sh)(es:yL ESh)(ds:yL TD):yO (yL Nat):=
 match ps,es with
 |[],[.gone]=>(ZEu H).map λi=>[i]
 |_,_=>
  let l:=ZJf H es 0 (Sh.idsL ps ds)
  (yr es.length).mapM λj=>l.lookup j
def Zu7{P:yg}(s:Fs P)(H:yL TEnt)(args:yL TD)(ids:yL Nat):yO (Ty.dens s.ins):=
 if once ids then(TD.rns (toIds ids) (args.map (TD.argI (lk H) ids))).bind λa2=>(XK H ids ids).bind λHin=>
  (Sh.mts (lk Hin) s.ps a2).bind λq=>(ESh.mts (lk Hin) s.es Hin).bind λw=>toD s.ins (q.2++w.2)
 else none
theorem V8{H Hin:yL TEnt}{ids:yL Nat}(h:XK H ids ids=some Hin):Rc (toIds ids) (lk H) (lk Hin):=by
 intro id j t e;obtain⟨g1,g2⟩:=Zb7 h;have hj:=idxOf?_some e;have:=(g2 j id hj).2;unfold ZW lk;dsimp only;rw[this]
theorem ZG8{P:yg}{s:Fs P}{H:yL TEnt}{args:yL TD}{ids:yL Nat}{x:Ty.dens s.ins}(h:Zu7 s H args ids=some x):
 once ids=true/\∃Hin a2 a3 H3 R,XK H ids ids=some Hin/\subEnts (erH H) ids ids=some (erH Hin)/\Dv.rns (toIds ids) (TD.ers (lk H) (args.map (TD.argI (lk H) ids)))=some (TD.ers (lk Hin) a2)/\
  Sh.fills s.ps (ofD s.ins x)=some (a3,R)/\ESh.fills s.es R=some (H3,[])/\WkL (TD.ers (lk Hin) a2) (TD.ers (lk H3) a3)/\WkH (erH Hin) (erH H3):=by
 unfold Zu7 at h;split at h
 ·rename_i ho;obtain⟨a2,h1,h⟩:=yf.1 h;obtain⟨Hin,h2,h⟩:=yf.1 h;obtain⟨q,h3,h⟩:=yf.1 h;obtain⟨w,h4,h⟩:=yf.1 h;obtain⟨g1,g2⟩:=ZeS h4;have e:=Za3 _ _ _ h;have hc:∀id t,ZW (lk Hin) id t none=ZW (lk w.1) id t none:=λid t=>by rw[g2]
  refine⟨ho,Hin,a2,q.1,w.1,w.2,h2,Xw (V8 h2) h2,rns_er (V8 h2) _ _ h1, ?_, ?_,mts_wk hc _ _ _ h3,Zig hc h4⟩
  ·rw[e];exact mts_fills _ _ _ h3 _
  ·have:=Qw h4 []
   rwa [yar] at this
 ·cases h
section
variable{P:yg}{o:Oper}{ts all:yL TD}{H:yL TEnt}{O:Type}{K:Kn O}{out:O}
def ZG9(all:yL TD)(H:yL TEnt)(K:Kn O)(ids:yL Nat)(r:TD)(Hn:yL TEnt):yO O:=
 if(ids.isEmpty&&Hn.isEmpty)=true then(r.rn λ_=>none).bind λr'=>K all r' H [.call (r.er (lk [])) [] []] 0 else
 (r.rn (fromIds ids H.length)).bind λr'=>(TEnt.rns (fromIds ids H.length) Hn).bind λHb=>
   if(decide (ids.length<=Hn.length)&&TD.unders H.length all&&H.all (TEnt.under H.length))=true then
    K (TD.lays (lk H) ids all) r' (putBack (H.map (TEnt.lay (lk H) ids)) ids Hb) [.call (r.er (lk Hn)) (erH Hn) ids] 2
   else none
def Zp0(s:Fs P)(all:yL TD)(H:yL TEnt)(K:Kn O)(args:yL TD)(ids:yL Nat)(x:Ty.dens s.ins):yO O:=
 (s.M x).bind λy=>xT 1 s.xs y λ_ rs Hn=>match rs with
   |[r]=>ZG9 all H K ids r Hn
   |_=>none
def Zxo(g:yu)(all:yL TD)(H:yL TEnt)(K:Kn O)(args:yL TD)(yS:yO O):yL (Fs P)->yO O
 |[]=>yS
 |s::yK=>if s.g=g then match (ZIi H s.ps s.es args).bind λids=>(Zu7 s H args ids).map λx=>(ids,x) with
   |some q=>Zp0 s all H K args q.1 q.2
   |none=>Zxo g all H K args yS yK
  else Zxo g all H K args yS yK
mutual
def Sh.exD:Sh->TD->Bool
 |.v t,d=>match d with
  |.p (.v u _)=>match Ty.dec u t with
   |isTrue _=>true
   |isFalse _=>false
  |_=>false
 |.own _ _,d=>match d with
  |.own _ none _ none=>true
  |_=>false
 |.ref _ _,d=>match d with
  |.ref _ _=>true
  |_=>false
 |.mp _,d=>match d with
  |.mp _=>true
  |_=>false
 |.rw _,d=>match d with
  |.rw _=>true
  |_=>false
 |.agg l,d=>match d with
  |.agg ds=>Sh.exDs l ds
  |_=>false
 |.arr _ _ l,d=>match d with
  |.arr _ _ ds=>Sh.exDs l ds
  |_=>false
 |.ptr0,_=>true
 |.fn0,_=>true
 |.if0,_=>true
 |.map0,_=>true
 |_,_=>false
def Sh.exDs:yL Sh->yL TD->Bool
 |[],[]=>true
 |s::r,d::q=>Sh.exD s d&&Sh.exDs r q
 |_,_=>false
end
theorem ZK4{L:Lk}{t:Ty}{d:TD}{q:TD×yL TV}(h:Sh.exD (.v t) d=true)(k:Sh.mt L (.v t) d=some q):q.1=d:=by
 unfold Sh.exD at h;split at h
 ·rename_i u y;split at h
  ·rename_i e _;subst e;unfold Sh.mt TD.toT TP.to at k;dsimp only at k;rw[YA,yaa] at k;cases k;rfl
  ·cases h
 ·cases h
theorem ZJg{L:Lk}{j:Nat}{t:Ty}{d:TD}{q:TD×yL TV}(h:Sh.exD (.own j t) d=true)(k:Sh.mt L (.own j t) d=some q):q.1=d:=by
 unfold Sh.exD at h;split at h
 ·unfold Sh.mt at k;dsimp only at k;split at k
  ·rename_i e;obtain⟨rfl,rfl⟩:=e;cases k;rfl
  ·cases k
 ·cases h
theorem ZJh{L:Lk}{j:Nat}{p:yL Stp}{d:TD}{q:TD×yL TV}(h:Sh.exD (.ref j p) d=true)(k:Sh.mt L (.ref j p) d=some q):q.1=d:=by
 unfold Sh.exD at h;split at h
 ·unfold Sh.mt at k;dsimp only at k;split at k
  ·rename_i e;obtain⟨rfl,e2⟩:=e;have:=ZcS e2;subst this;cases k;rfl
  ·cases k
 ·cases h
theorem ZKw{L:Lk}{j:Nat}{d:TD}{q:TD×yL TV}(h:Sh.exD (.mp j) d=true)(k:Sh.mt L (.mp j) d=some q):q.1=d:=by
 unfold Sh.exD at h;split at h
 ·unfold Sh.mt at k;dsimp only at k;split at k
  ·rename_i e;subst e;cases k;rfl
  ·cases k
 ·cases h
theorem ZKx{L:Lk}{j:Nat}{d:TD}{q:TD×yL TV}(h:Sh.exD (.rw j) d=true)(k:Sh.mt L (.rw j) d=some q):q.1=d:=by
 unfold Sh.exD at h;split at h
 ·unfold Sh.mt at k;dsimp only at k;split at k
  ·rename_i e;subst e;cases k;rfl
  ·cases k
 ·cases h
mutual
theorem ZIj{L:Lk}:∀(s:Sh)(d:TD)(q:TD×yL TV),Sh.exD s d=true->Sh.mt L s d=some q->q.1=d
 |.v t,d,q,h,k=>ZK4 h k
 |.own j t,d,q,h,k=>ZJg h k
 |.ref j p,d,q,h,k=>ZJh h k
 |.mp j,d,q,h,k=>ZKw h k
 |.rw j,d,q,h,k=>ZKx h k
 |.agg l,.agg ds,q,h,k=>by
  have k:(Sh.mts L l ds).map (λq=>(TD.agg q.1,q.2))=some q:=by unfold Sh.mt at k;exact k
  have h:Sh.exDs l ds=true:=by unfold Sh.exD at h;exact h
  obtain⟨w,k1,k2⟩:=Zb k;rw[<-k2]
  exact congrArg TD.agg (exs_mts l ds w h k1)
 |.arr n s l,.arr m s2 ds,q,h,k=>by
  have k:(if m=n/\s2=s then(Sh.mts L l ds).map (λq=>(TD.arr n s q.1,q.2)) else none)=some q:=by unfold Sh.mt at k;exact k
  have h:Sh.exDs l ds=true:=by unfold Sh.exD at h;exact h
  split at k
  ·rename_i e;obtain⟨w,k1,k2⟩:=Zb k;rw[<-k2,e.1,e.2];exact congrArg (TD.arr n s) (exs_mts l ds w h k1)
  ·cases k
 |.ptr0,d,q,h,k=>by
  unfold Sh.mt at k
  split at k <;> first|(cases k;rfl)|cases k
 |.fn0,d,q,h,k=>by
  unfold Sh.mt at k
  split at k <;> first|(cases k;rfl)|cases k
 |.if0,d,q,h,k=>by
  unfold Sh.mt at k
  split at k <;> first|(cases k;rfl)|cases k
 |.map0,d,q,h,k=>by
  unfold Sh.mt at k;split at k <;> first|(cases k;rfl)|cases k
theorem exs_mts{L:Lk}:∀(l:yL Sh)(ds:yL TD)(q:yL TD×yL TV),Sh.exDs l ds=true->Sh.mts L l ds=some q->q.1=ds
 |[],[],q,_,k=>by
  simp only[Sh.mts] at k;cases k
  rfl
 |[],_::_,_,h,_=>by cases h
 |_::_,[],_,h,_=>by cases h
 |s::r,d::ds,q,h,k=>by
  simp only[Sh.exDs,yj] at h;simp only[Sh.mts] at k;split at k
  ·rename_i a b k1 k2;cases k;rw[ZIj s d a h.1 k1,exs_mts r ds b h.2 k2]
  ·cases k
end
def ESh.exE:ESh->TEnt->Bool
 |.var s st,.var d st'=>(st==st')&&s.exD d
 |.log t _,.log u _ _=>match Ty.dec u t with
  |isTrue _=>true
  |isFalse _=>false
 |.gone,.gone=>true
 |_,_=>false
theorem ZJi{L:Lk}{s:ESh}{d:TEnt}{q:TEnt×yL TV}(h:s.exE d=true)(k:s.mt L d=some q):q.1=d:=by
 unfold ESh.exE at h;split at h
 ·simp only[yj,yT] at h;obtain⟨rfl,h⟩:=h;simp only[ESh.mt] at k;split at k
  ·obtain⟨w,k1,rfl⟩:=Zb k;show TEnt.var w.1 _=_;rw[ZIj _ _ w h k1]
  ·cases k
 ·split at h
  ·rename_i e _;subst e;simp only[ESh.mt] at k;split at k
   ·rename_i e;subst e;obtain⟨w,k1,rfl⟩:=Zb k;obtain⟨e1,e2⟩:=Zu k1;cases e1;subst e2;rfl
   ·cases k
  ·cases h
 ·simp only[ESh.mt] at k;cases k;rfl
 ·cases h
def ESh.exs:yL ESh->yL TEnt->Bool
 |[],[]=>true
 |s::r,d::q=>s.exE d&&ESh.exs r q
 |_,_=>false
theorem Zxp{L:Lk}:∀{l:yL ESh}{ds:yL TEnt}{q:yL TEnt×yL TV},ESh.exs l ds=true->ESh.mts L l ds=some q->q.1=ds
 |[],[],q,_,k=>by
  simp only[ESh.mts] at k;cases k
  rfl
 |[],_::_,_,h,_=>by cases h
 |_::_,[],_,h,_=>by cases h
 |s::r,d::ds,q,h,k=>by
  simp only[ESh.exs,yj] at h;simp only[ESh.mts] at k;split at k
  ·rename_i a b k1 k2;cases k;rw[ZJi h.1 k1,Zxp h.2 k2]
  ·cases k
structure Rs(P:yg)where
 g:yu
 ps:List Sh
 es:List ESh
 ins:List Ty
 r:Sh
 t:List Ty
 M:Ty.dens ins->Option (Ty.dens t)
def Rs.Ok{P:yg}(s:Rs P):Prop:=
 ∀x o,s.M x=some o->∃args R H,Sh.fills s.ps (ofD s.ins x)=some (args,R)/\ESh.fills s.es R=some (H,[])/\
  ∀q,Sh.fill s.r (ofD s.t o)=some q->Con P s.g (TD.ers (lk H) args) (erH H) (q.1.er (lk H)) (erH H)
def AllRo{P:yg}:yL (Rs P)->Prop
 |[]=>True
 |s::r=>s.Ok/\AllRo r
mutual
theorem ZoV{f g:Nat->yO Nat}(hfg:∀i j,f i=some j->g j=some i):∀(d d':Dv),d.rn f=some d'->d'.rn g=some d
 |.p x,d',h=>by cases h;rfl
 |.elem x,d',h=>by cases h;rfl
 |.ref id o p,d',h=>by
  simp only[Dv.rn,yp] at h;obtain⟨i,h1,rfl⟩:=h
  simp only[Dv.rn,hfg _ _ h1,yaa]
 |.own id nn s xs,d',h=>by
  simp only[Dv.rn,yp] at h;obtain⟨i,h1,rfl⟩:=h
  simp only[Dv.rn,hfg _ _ h1,yaa]
 |.view id o p s lo n,d',h=>by
  simp only[Dv.rn,yp] at h;obtain⟨i,h1,rfl⟩:=h
  simp only[Dv.rn,hfg _ _ h1,yaa]
 |.agg xs,d',h=>by
  simp only[Dv.rn,yp] at h;obtain⟨i,h1,rfl⟩:=h
  simp only[Dv.rn,rns_back hfg _ _ h1,yaa]
 |.arr n s xs,d',h=>by
  simp only[Dv.rn,yp] at h;obtain⟨i,h1,rfl⟩:=h
  simp only[Dv.rn,rns_back hfg _ _ h1,yaa]
 |.fn k xs,d',h=>by
  simp only[Dv.rn,yp] at h;obtain⟨i,h1,rfl⟩:=h
  simp only[Dv.rn,rns_back hfg _ _ h1,yaa]
 |.iface t x,d',h=>by
  simp only[Dv.rn,yp] at h;obtain⟨i,h1,rfl⟩:=h
  simp only[Dv.rn,ZoV hfg _ _ h1,yaa]
 |.tup xs,d',h=>by
  simp only[Dv.rn,yp] at h;obtain⟨i,h1,rfl⟩:=h
  simp only[Dv.rn,rns_back hfg _ _ h1,yaa]
 |.mp id,d',h=>by
  simp only[Dv.rn,yp] at h;obtain⟨i,h1,rfl⟩:=h
  simp only[Dv.rn,hfg _ _ h1,yaa]
 |.rv id v s lo n,d',h=>by
  simp only[Dv.rn,yp] at h;obtain⟨i,h1,rfl⟩:=h
  simp only[Dv.rn,hfg _ _ h1,yaa]
 |.rref id v o p,d',h=>by
  simp only[Dv.rn,yp] at h;obtain⟨i,h1,rfl⟩:=h
  simp only[Dv.rn,hfg _ _ h1,yaa]
 |.junk,d',h=>by cases h;rfl
theorem rns_back{f g:Nat->yO Nat}(hfg:∀i j,f i=some j->g j=some i):∀(d d':yL Dv),Dv.rns f d=some d'->Dv.rns g d'=some d
 |[],d',h=>by cases h;rfl
 |x::r,d',h=>by
  simp only[Dv.rns] at h;split at h
  ·rename_i y ys h1 h2;cases h;simp only[Dv.rns,ZoV hfg x y h1,rns_back hfg r ys h2]
  ·cases h
end
theorem ZEv{f g:Nat->yO Nat}(hfg:∀i j,f i=some j->g j=some i){e e':Ent}(h:e.rn f=some e'):e'.rn g=some e:=by
 cases e with
 |var d st=>
  simp only[Ent.rn,yp] at h;obtain⟨y,h1,rfl⟩:=h
  simp only[Ent.rn,ZoV hfg _ _ h1,yaa]
 |row v s st t d=>
  simp only[Ent.rn,yp] at h;obtain⟨y,h1,rfl⟩:=h
  simp only[Ent.rn,ZoV hfg _ _ h1,yaa]
 |log _ _ _=>cases h;rfl
 |map _ _=>cases h;rfl
 |gone=>cases h;rfl
theorem ZEw{H:yL Ent}{ids:yL Nat}{Hin:yL Ent}(ho:once ids=true)(h:subEnts H ids ids=some Hin):∃Hb,Ent.rns (fromIds ids H.length) Hin=some Hb/\putBack H ids Hb=H:=by
 have hfg:∀i j,toIds ids i=some j->fromIds ids H.length j=some i:=by
  intro i j e;have hj:=idxOf?_some e;unfold fromIds;rw[yW (yq.1 hj).1,hj]
 have key:∀(l:yL Nat)(A:yL Ent),subEnts H ids l=some A->∃B,Ent.rns (fromIds ids H.length) A=some B/\B.length=l.length/\∀(j id:Nat),l[j]? =some id->B[j]? =H[id]? /\id < H.length:=by
  intro l
  induction l with
  |nil=>
   intro A hA;simp only[subEnts,Option.some.injEq] at hA;subst hA
   exact⟨[],rfl,rfl,λj id hj=>by simp at hj⟩
  |cons x r ih=>
   intro A hA;simp only[subEnts] at hA;split at hA
   ·rename_i e es h1 h2;cases hA;obtain⟨B,b1,b2,b3⟩:=ih es h2;obtain⟨e0,g1,g2⟩:=yf.1 h1;refine⟨e0::B, ?_,by simp[b2],λj id hj=> ?_⟩
    ·simp only[Ent.rns,ZEv hfg g2,b1]
    ·cases j with
     |zero=>
      simp only[ybd,Option.some.injEq] at hj;subst hj
      exact⟨by rw[ybd,g1],(yq.1 g1).1⟩
     |succ j=>exact b3 j id (by simpa using hj)
   ·cases hA
 obtain⟨Hb,b1,b2,b3⟩:=key ids Hin h
 have hlt:∀i,i∈ids->i < H.length:=λi hi=>by
  obtain⟨j,hj⟩:=List.getElem?_of_mem hi;exact(b3 j i hj).2
 refine⟨Hb,b1, ?_⟩;have hle:ids.length<=Hb.length:=by omega
 apply List.ext_getElem?;intro i;have zW:(putBack H ids Hb).length=H.length:=by rw[QW _ _ _ hle];omega
 by_cases hi:i < H.length
 ·by_cases hm:i∈ids
  ·obtain⟨j,hj⟩:=List.getElem?_of_mem hm;rw[ZcI H ids Hb j i ho hle hlt hj,(b3 j i hj).1]
  ·exact W4 H ids Hb i hle hi hm
 ·rw[yat (by omega),yat (by omega)]
structure Sp(P:yg)where
 l:List (Fs P):=[]
 hd:(O:Type)->yu->List TD->List TEnt->(TD->List TEnt->Option O)->Option O:=λ_ _ _ _ _=>none
 mt:List (yc×String×yu):=[]
 ro:List (Rs P):=[]
def HdOk(P:yg)(hd:(O:Type)->yu->yL TD->yL TEnt->(TD->yL TEnt->yO O)->yO O):Prop:=
 ∀(O:Type)(g:yu)(args:yL TD)(H:yL TEnt)(K:TD->yL TEnt->yO O)(out:O),hd O g args H K=some out->
  ∃r H',K r H'=some out/\Con P g (TD.ers (lk H) args) (erH H) (r.er (lk H')) (erH H')
def MtOk(P:yg):yL (yc×String×yu)->Prop
 |[]=>True
 |q::r=>ZB8 P q.1 q.2.1 q.2.2/\MtOk P r
def ZEx:yL (yc×String×yu)->yc->String->yO yu
 |[],_,_=>none
 |q::r,t,n=>if q.1=t then if q.2.1=n then some q.2.2 else ZEx r t n else ZEx r t n
theorem Zu8:∀{l:yL (yc×String×yu)}{t:yc}{n:String}{g:yu},MtOk P l->ZEx l t n=some g->ZB8 P t n g
 |[],_,_,_,_,h=>by cases h
 |q::r,t,n,g,hk,h=>by
  unfold ZEx at h;split at h
  ·rename_i e1;split at h
   ·rename_i e2;cases h;rw[<-e1, <-e2];exact hk.1
   ·exact Zu8 hk.2 h
  ·exact Zu8 hk.2 h
structure SpOk(s:Sp P):Prop where
 l:AllOk s.l
 hd:HdOk P s.hd
 mt:MtOk P s.mt
 ro:AllRo s.ro
theorem ZHa:HdOk P (λ_ _ _ _ _=>none):=λ_ _ _ _ _ _ h=>by cases h
theorem okS{l:yL (Fs P)}(h:AllOk l):SpOk ({ l:=l}:Sp P):=⟨h,ZHa,zP,ytt⟩
mutual
def TD.look:TD->yL Nat
 |.ref id _=>[id]
 |.own id _ _ _=>[id]
 |.view id _ _ _ _=>[id]
 |.mp id=>[id]
 |.rv id _ _ _ _=>[id]
 |.rref id _ _=>[id]
 |.rw id=>[id]
 |.rp id _=>[id]
 |.agg xs=>TD.looks xs
 |.arr _ _ xs=>TD.looks xs
 |.fn _ xs=>TD.looks xs
 |.iface _ x=>TD.look x
 |.tup xs=>TD.looks xs
 |_=>[]
def TD.looks:yL TD->yL Nat
 |[]=>[]
 |x::r=>TD.look x++TD.looks r
end
def TEnt.look:TEnt->yL Nat
 |.var d _=>d.look
 |.row _ _ _ _ d=>d.look
 |.rowM _ _ _ _ _ _ d _=>d.look
 |_=>[]
def ZnE(h:yL TEnt):Nat->yL Nat->yL Nat->yL Nat
 |0,_,got=>got
 |_+1,[],got=>got
 |k+1,id::r,got=>if got.contains id then ZnE h k r got else ZnE h k (((h[id]?).map TEnt.look).getD []++r) (id::got)
def inT(sp:Sp P)(g:yu)(all:yL TD)(H:yL TEnt)(K:Kn O)(args:yL TD):yO O:=
 let ids:=ZnE H 100000 (TD.looks args) []
 if once ids then(TD.rns (toIds ids) (args.map (TD.argI (lk H) ids))).bind λa2=>(XK H ids ids).bind λHin=>
  sp.hd O g a2 Hin λr Hn=>ZG9 all H K ids r Hn
 else none
def ZBf(g:yu)(all:yL TD)(H:yL TEnt)(K:Kn O)(args:yL TD)(yS:yO O):yL (Rs P)->yO O
 |[]=>yS
 |s::yK=>if s.g=g then(ZIi H s.ps s.es args).bind λids=>(XK H ids ids).bind λHin=>if(once ids&& !ids.isEmpty&&ESh.exs s.es Hin)=true then
   (TD.rns (toIds ids) (args.map (TD.argI (lk H) ids))).bind λa2=>(Sh.mts (lk Hin) s.ps a2).bind λq=>(ESh.mts (lk Hin) s.es Hin).bind λw=>(toD s.ins (q.2++w.2)).bind λx=>
     (s.M x).bind λy=>(Sh.fill s.r (ofD s.t y)).bind λq=>(q.1.rn λ_=>none).bind λr'=>K all r' H [.call (q.1.er (lk Hin)) (erH Hin) ids] 3
   else none
  else ZBf g all H K args yS yK
def ZEy(sp:Sp P)(g:yu)(all:yL TD)(H:yL TEnt)(K:Kn O)(args:yL TD):yO O:=ZBf g all H K args (Zxo g all H K args (inT sp g all H K args) sp.l) sp.ro
structure CallOk(P:yg)(g:yu)(all args:List TD)(H:List TEnt)(a':List TD)(d:TD)(H':List TEnt)(hs:List Hint)(cls:Nat):Prop where
 same:TD.ers (lk H') a'=TD.ers (lk H) all
 len:a'.length=all.length
 op:∃(ids:List Nat)(Hin Hn Hb:List Ent)(az:List Dv)(r:Dv),once ids=true/\ids.length<=Hn.length/\subEnts (erH H) ids ids=some Hin/\
  Dv.rns (toIds ids) (TD.ers (lk H) (args.map (TD.argI (lk H) ids)))=some az/\Con P g az Hin r Hn/\r.rn (fromIds ids H.length)=some (d.er (lk H'))/\Ent.rns (fromIds ids H.length) Hn=some Hb/\
  erH H'=putBack (erH H) ids Hb/\hs=[.call r Hn ids]/\(cls=2/\¬(ids=[]/\Hn=[])\/(cls=3/\erH H'=erH H/\¬(ids=[]/\Hn=[]))\/cls=0/\ids=[]/\Hn=[]/\H'=H/\a'=all/\r=d.er (lk H')/\r.rn (λ_=>none)=some r)
theorem Ztn{g:yu}{args:yL TD}{ids:yL Nat}{Hin:yL TEnt}{az:yL Dv}{r4:TD}{Hn:yL TEnt}(honce:once ids=true)(p1:XK H ids ids=some Hin)(p2:subEnts (erH H) ids ids=some (erH Hin))
 (p3:Dv.rns (toIds ids) (TD.ers (lk H) (args.map (TD.argI (lk H) ids)))=some az) (hcon':Con P g az (erH Hin) (r4.er (lk Hn)) (erH Hn)) (h9:ZG9 all H K ids r4 Hn=some out):
 ∃a d H' hs c,K a d H' hs c=some out/\CallOk P g all args H a d H' hs c:=by
 unfold ZG9 at h9;split at h9
 ·rename_i hem;rw[yj] at hem;have i1:ids=[]:=by simpa using hem.1
  have i2:Hn=[]:=by simpa using hem.2
  subst i1;subst i2;obtain⟨r',hr',h9⟩:=yf.1 h9;have f1:=ZcT (L:=lk []) (M:=lk H) (λid j t e=>by cases e) _ _ hr';have f2:=Qt (f:=λ_=>none) _ _ f1;have f3:r4.er (lk [])=r'.er (lk H):=Option.some.inj (f2.symm.trans f1);have hin0:Hin=[]:=by cases p1;rfl
  subst hin0;refine⟨_,_,_,_,_,h9,rfl,rfl,[],[],[],[],az,r4.er (lk []),rfl,ym _,rfl,p3,hcon', ?_,rfl, ?_,rfl,.inr (.inr ⟨rfl,rfl,rfl,rfl,rfl,f3,f2⟩)⟩
  ·rw[<-f3];exact Qt _ _ f1
  ·rw[Zns]
 rename_i hne;obtain⟨r',hr',h9⟩:=yf.1 h9;obtain⟨Hb,hHb,h9⟩:=yf.1 h9;obtain⟨hk,h9⟩:=Za h9;simp only[yj,yP] at hk;obtain⟨⟨k1,k2⟩,k3⟩:=hk;obtain⟨b1,b2⟩:=Zxm hHb;obtain⟨s1,s2⟩:=Zb7 p1
 have hlt:∀i,i∈ids->i < H.length:=λi hi=>by
  obtain⟨j,hj⟩:=List.getElem?_of_mem hi;exact(s2 j i hj).1
 have hlo:Lo ids H.length (lk H) (lk (putBack (H.map (TEnt.lay (lk H) ids)) ids Hb)):=by
  intro id t hn hl;unfold ZW lk;dsimp only
  rw[W4 _ _ _ id (by rw[b1];exact k1) (by rw[yy];exact hl) (λhm=>by
   rw[List.contains_eq_any_beq] at hn;simp at hn;exact hn id hm rfl),yaj,ZG7]
 have hrc:Rc (fromIds ids H.length) (lk Hn) (lk (putBack (H.map (TEnt.lay (lk H) ids)) ids Hb)):=by
  intro j i t e
  have key:lk (putBack (H.map (TEnt.lay (lk H) ids)) ids Hb) i=lk Hn j:=by
   show lkE ((putBack (H.map (TEnt.lay (lk H) ids)) ids Hb)[i]?)=lkE (Hn[j]?);rw[<-b2 j];unfold fromIds at e;split at e
   ·rw[ZcI _ _ _ j i honce (by rw[b1];exact k1) (λi hi=>by rw[yy];exact hlt i hi) e]
   ·rename_i hj;cases e;have:=ZdJ (H.map (TEnt.lay (lk H) ids)) ids Hb j (by rw[b1];exact k1) (by omega);rw[yy] at this;rw[this]
  unfold ZW;rw[key]
 have e2:(putBack (H.map (TEnt.lay (lk H) ids)) ids Hb).map (TEnt.er (lk (putBack (H.map (TEnt.lay (lk H) ids)) ids Hb)))=putBack (erH H) ids (Hb.map (TEnt.er (lk (putBack (H.map (TEnt.lay (lk H) ids)) ids Hb)))):=by
  rw[ZnD,yas];congr 1;refine ycn λe he=> ?_;exact ZG6 hlo (yba.1 k3 e he)
 have f1:=ZcT hrc _ _ hr';have f2:=ZBd hrc _ _ hHb;refine⟨_,_,_,_,_,h9,ers_lay hlo all k2,Zxn all,ids,erH Hin,erH Hn,_,az,r4.er (lk Hn),honce,by rw[ZC];exact k1,p2,p3,hcon',f1,f2,e2,rfl,.inl ⟨rfl,λhh=>hne ?_⟩⟩;have i2:Hn=[]:=by have:=hh.2;unfold erH at this;simpa using this
 rw[i2,hh.1];rfl
theorem Zr6{args:yL TD}{s:Fs P}{ids:yL Nat}{x:Ty.dens s.ins}(ok:s.Ok)(hp:Zu7 s H args ids=some x)(h:Zp0 s all H K args ids x=some out):
 ∃a d H' hs c,K a d H' hs c=some out/\CallOk P s.g all args H a d H' hs c:=by
 unfold Zp0 at h;obtain⟨y,hM,h0⟩:=yf.1 h;obtain⟨e,vs,s',hsel,hfs,h9⟩:=ZoU h0;clear h0 h;obtain⟨honce,Hin,a2,a3,H3,R,p1,p2,p3,p4,p5,p6,p7⟩:=ZG8 hp;obtain⟨args,R1,H4,q1,q2,hcon⟩:=ok x y hM;obtain⟨r4,hr4,hcon⟩:=hcon e vs s' hsel hfs;rw[hr4] at h9;dsimp only at h9;rw[p4] at q1;cases q1;rw[p5] at q2;cases q2;generalize s'.2=Hn at h9 hcon;exact Ztn honce p1 p2 p3 (ZAQ hcon p6 p7) h9
theorem Zj2{g:yu}{args:yL TD}{yS:yO O}(ho:yS=some out->∃a d H' hs c,K a d H' hs c=some out/\CallOk P g all args H a d H' hs c):∀{l:yL (Fs P)},AllOk l->Zxo g all H K args yS l=some out->
 ∃a d H' hs c,K a d H' hs c=some out/\CallOk P g all args H a d H' hs c
 |[],_,h=>ho h
 |s::r,ok,h=>by
  unfold Zxo at h;split at h
  ·rename_i hg;split at h
   ·rename_i q hq;obtain⟨ids,h1,hq⟩:=yf.1 hq;obtain⟨x,h2,rfl⟩:=Zb hq;exact hg ▸ Zr6 ok.1 h2 h
   ·exact Zj2 ho ok.2 h
  ·exact Zj2 ho ok.2 h
theorem ZEz{sp:Sp P}{g:yu}{args:yL TD}(ok:SpOk sp)(h:inT sp g all H K args=some out):∃a d H' hs c,K a d H' hs c=some out/\CallOk P g all args H a d H' hs c:=by
 unfold inT at h;dsimp only at h;generalize ZnE H 100000 (TD.looks args) []=ids at h;obtain⟨ho,h⟩:=Za h;obtain⟨a2,h1,h⟩:=yf.1 h;obtain⟨Hin,h2,h⟩:=yf.1 h;obtain⟨r,Hn,h3,h4⟩:=ok.hd _ _ _ _ _ _ h;exact Ztn ho h2 (Xw (V8 h2) h2) (rns_er (V8 h2) _ _ h1) h4 h3
theorem Zp1{g:yu}{args:yL TD}{yS:yO O}(ho:yS=some out->∃a d H' hs c,K a d H' hs c=some out/\CallOk P g all args H a d H' hs c):∀{l:yL (Rs P)},AllRo l->ZBf g all H K args yS l=some out->
 ∃a d H' hs c,K a d H' hs c=some out/\CallOk P g all args H a d H' hs c
 |[],_,h=>ho h
 |s::r,ok,h=>by
  unfold ZBf at h;split at h
  ·rename_i hg;obtain⟨ids,_,h⟩:=yf.1 h;obtain⟨Hin,h2,h⟩:=yf.1 h;obtain⟨hk,h⟩:=Za h;simp only[yj,Bool.not_eq_true',List.isEmpty_eq_false_iff] at hk;obtain⟨⟨k1,k2⟩,k3⟩:=hk;obtain⟨a2,h3,h⟩:=yf.1 h;obtain⟨q,h4,h⟩:=yf.1 h;obtain⟨⟨w1,w2⟩,h5,h⟩:=yf.1 h;obtain⟨x,h6,h⟩:=yf.1 h;obtain⟨y,h7,h⟩:=yf.1 h;obtain⟨z,h8,h⟩:=yf.1 h;obtain⟨r',h9,h⟩:=yf.1 h;have hw:w1=Hin:=Zxp k3 h5;subst hw;obtain⟨az,R,H3,q1,q2,hcon⟩:=ok.1 x y h7;have e:=Za3 _ _ _ h6;rw[e,mts_fills _ _ _ h4 _] at q1;cases q1;have q3:=Qw h5 [];rw[yar] at q3;rw[q3] at q2;cases q2;have hcon:=hcon z h8;have p2:=Xw (V8 h2) h2;have p3:=rns_er (V8 h2) _ _ h3;have hcon:=ZAQ hcon (mts_wk (λ_ _=>rfl) _ _ _ h4) (WkH.refl _);have f1:=ZcT (f:=λ_=>none) (L:=lk w1) (M:=lk H) (λid j t e=>by cases e) _ _ h9;have f2:=Qt (f:=λ_=>none) _ _ f1;have f3:z.1.er (lk w1)=r'.er (lk H):=Option.some.inj (f2.symm.trans f1);obtain⟨Hb,b1,b2⟩:=ZEw k1 p2;have zW:=(Zb7 h2).1;refine⟨_,_,_,_,_,h,rfl,rfl,ids,erH w1,erH w1,Hb,TD.ers (lk w1) a2,z.1.er (lk w1),k1,by rw[ZC];omega,p2,p3,hg ▸ hcon, ?_,by rw[<-ZC H];exact b1,b2.symm,rfl,.inr (.inl ⟨rfl,rfl,λhh=>k2 hh.1⟩)⟩;rw[<-f3];exact Qt _ _ f1
  ·exact Zp1 ho ok.2 h
theorem Zxq{sp:Sp P}{g:yu}{args:yL TD}(ok:SpOk sp)(h:ZEy sp g all H K args=some out):∃a d H' hs c,K a d H' hs c=some out/\CallOk P g all args H a d H' hs c:=
 Zp1 (λh=>Zj2 (λh=>ZEz ok h) ok.l h) ok.ro h
theorem ZCH{c:Call}{f:yn}{g:yu}{cap az:yL TD}{a:yL TD}{d:TD}{H':yL TEnt}{hs:yL Hint}{cls:Nat}(ho:o.op=.call c)(hc:c.callee=.value f)(hf:arT P ts 0 f=some (.fn g cap))
 (hb:(ZaF P (Zfg g)&&c.args.size==c.argTypes.size)=true) (ha:ZpZ P ts c.args.toList c.argTypes.toList=some az) (h:CallOk P (Zfg g) all (if g < big then az++cap else cap++az) H a d H' hs cls):Good P o ts all H a d H' hs cls:=by
 have hfv:=Zm (L:=lk H) hf;obtain⟨ids,Hin,Hn,Hb,az',r,honce,hle,p2,p3,hcon,f1,f2,e2,rfl,hcl⟩:=h.op
 have ea:YI P ids (TD.ers (lk H) ts) c g (TD.ers (lk H) cap)=TD.ers (lk H) ((if g < big then az++cap else cap++az).map (TD.argI (lk H) ids)):=by
  unfold YI;split
  ·rw[Zk2 ids ha,ZBe,yai,ZB,ZB,ZB,yai]
  ·rw[Zk2 ids ha,ZBe,yai,ZB,ZB,ZB,yai]
 have ge:¬(ids=[]/\Hn=[])->GoodE P o ts H d H' [.call r Hn ids]:=λhne=>by
  refine⟨λyK=> ?_,λyK=> ?_,[Con P (Zfg g) az' Hin r Hn],⟨hcon,ytt⟩,λyK=> ?_⟩
  ·unfold evN;rw[ho];dsimp only;rw[hc];dsimp only;rw[hfv];dsimp only[TD.er];rw[yab,yx];split
   ·rename_i e1 e2;exfalso;simp only[List.cons.injEq,Hint.call.injEq] at e2;exact hne ⟨e2.1.2.2,e2.1.2.1⟩
   ·rename_i e2;cases e2
   ·rfl
  ·unfold evR;rw[ho];dsimp only;rw[hc]
  ·unfold evE;rw[ho];dsimp only;rw[hc];dsimp only;rw[hfv];dsimp only[TD.er];rw[yab,yx];dsimp only;rw[yW (by simp only[yj,yP] at hb ⊢;exact⟨⟨hb,honce⟩,hle⟩)];rw[ea,p3,p2,ZC,f1,f2];dsimp only;rw[e2]
 rcases hcl with⟨rfl,hne⟩|⟨rfl,hsm,hne⟩|⟨rfl,rfl,rfl,rfl,rfl,rfl,hrn⟩
 ·exact⟨h.same,h.len,or3 ⟨rfl,ge hne⟩⟩
 ·exact⟨h.same,h.len,.inr (.inr (.inr ⟨rfl,hsm,ge hne⟩))⟩
 ·refine⟨h.same,h.len,.inl ⟨rfl,rfl,[Con P (Zfg g) az' [] (d.er (lk H')) []],⟨?_,ytt⟩,λyK=> ?_⟩⟩
  ·cases p2;exact hcon
  ·unfold evN;rw[ho];dsimp only;rw[hc];dsimp only;rw[hfv];dsimp only[TD.er];rw[yab,yx];dsimp only;rw[yW hb,ea, <-ZjJ,p3,ZjJ,hrn]
theorem ZCI{c:Call}{recv:yn}{name:String}{t:yc}{x:TD}{g:yu}{az:yL TD}{a:yL TD}{d:TD}{H':yL TEnt}{hs:yL Hint}{cls:Nat}(ho:o.op=.call c)(hc:c.callee=.invoke recv name)(hf:arT P ts 0 recv=some (.iface t x))
 (hm:ZB8 P t name g) (hb:(ZaF P g&&c.args.size==c.argTypes.size)=true) (ha:ZpZ P ts c.args.toList c.argTypes.toList=some az) (h:CallOk P g all (x::az) H a d H' hs cls):Good P o ts all H a d H' (.meth g::hs) 2:=by
 have hfv:=Zm (L:=lk H) hf;obtain⟨ids,Hin,Hn,Hb,az',r,honce,hle,p2,p3,hcon,f1,f2,e2,rfl,hcl⟩:=h.op
 have ea:(x.er (lk H)).argI ids::YI P ids (TD.ers (lk H) ts) c 0 []=TD.ers (lk H) ((x::az).map (TD.argI (lk H) ids)):=by
  unfold YI;rw[yW (by decide),Zk2 ids ha,List.map_nil,yar,yad,TD.ers,Zu6]
 refine⟨h.same,h.len,or3 (⟨rfl,λyK=> ?_,λyK=> ?_,[ZB8 P t name g,Con P g az' Hin r Hn],⟨hm,hcon,ytt⟩,λyK=> ?_⟩)⟩
 ·unfold evN;rw[ho];dsimp only;rw[hc]
 ·unfold evR;rw[ho];dsimp only;rw[hc]
 ·unfold evE;rw[ho];dsimp only;rw[hc];dsimp only;rw[hfv];dsimp only[TD.er];rw[yab,yab,yx];dsimp only;rw[yW (by simp only[yj,yP] at hb ⊢;exact⟨⟨hb,honce⟩,hle⟩)];rw[ea,p3,p2,ZC,f1,f2];dsimp only;rw[e2]
end
end Go.Ev
end
section
namespace Go.Ev
section
variable{P:yg}{o:Oper}{ts all:yL TD}{H:yL TEnt}{O:Type}{K:Kn O}{out:O}
def TD.isView:TD->Bool
 |.view _ _ _ _ _=>true
 |_=>false
def TD.isNilSl:TD->Bool
 |.p (.sl (some false) _ [])=>true
 |_=>false
def TD.isRef:TD->Bool
 |.ref _ _=>true
 |_=>false
def TD.isRref:TD->Bool
 |.rref _ _ _=>true
 |_=>false
def TD.isRv:TD->Bool
 |.rv _ _ _ _ _=>true
 |_=>false
def ZHb(a:TD)(lo hi:yO Int):Bool:=
 match a with
 |.rv _ _ _ _ n=> !ZdA n lo hi
 |_=>false
def TD.isOwn:TD->Bool
 |.own _ _ _ _=>true
 |_=>false
def TD.isMp:TD->Bool
 |.mp _=>true
 |_=>false
def Zj3(l:yL Tmp):yO Tmp->Bool
 |some t=>l.contains t
 |none=>false
def Zga(P:yg)(o:Oper)(ts all:yL TD)(H:yL TEnt)(K:Kn O):yO O:=opN (lk H) P o ts λd hs=>K all d H hs 0
theorem XL(h:Zga P o ts all H K=some out):∃a d H' hs c,K a d H' hs c=some out/\Good P o ts all H a d H' hs c:=by
 obtain⟨d,hs,h1,h2⟩:=ZEd h;exact⟨_,_,_,_,_,h1,rfl,rfl,.inl ⟨rfl,rfl,h2⟩⟩
def ZBg(P:yg)(hi:HI)(o:Oper)(x:yn)(asg:Bool)(ts all:yL TD)(H:yL TEnt)(K:Kn O):yO O:=
 match o.dst,arT P ts o.type x with
 |some t,some d=>if hi.still.contains t&&(d.isView || d.isRv) then ZuU t all H K d else if hi.still.contains t&&d.isRw then ZuZ t all H K d else if asg&&(hi.rowt.contains t&&d.isNilSl) then Zu3 P o.type t all H K d else if asg&&(hi.own.contains t&&d.isNilSl) then ZzA P o.type t all H K d else Zga P o ts all H K
 |_,_=>Zga P o ts all H K
def TD.numI(d:TD):yO Num:=
 match d.num with
 |some a=>if a.k=.i64 then some a else none
 |none=>none
def opT(P:yg)(hi:HI)(specs:Sp P)(o:Oper)(ts all:yL TD)(H:yL TEnt)(K:Kn O):yO O:=
 match o.op with
 |.move x=>ZBg P hi o x false ts all H K
 |.assign x=>ZBg P hi o x true ts all H K
 |.slice t x lo h none=>if Zj3 hi.frz o.dst then(arT P ts t x).bind λa=>(ZdC P ts lo).bind λl=>(ZdC P ts h).bind λr=>ZI9 P t l r all H K a
  else(arT P ts t x).bind λa=>(ZdC P ts lo).bind λl=>(ZdC P ts h).bind λr=>if(Zj3 hi.rowt o.dst&&a.isRw)=true then ZpW P t l r all H K a else if ZHb a l r=true then Zzy P t l r all H K a else Zga P o ts all H K
 |.load t x=>(arT P ts 0 x).bind λd=>if d.isRef || d.isRref then ZEg P t all H K d else if d.isRp then ZzJ P t all H K d else Zga P o ts all H K
 |.lookup t x ix ok=>(arT P ts t x).bind λd=>ZuF P t all H ok K (λkt=>arT P ts kt ix) d
 |.makeMap t none=>ZpS P t all H K
 |.makeSlice t l c=>((arT P ts 0 l).bind TD.numI).bind λn=>((arT P ts 0 c).bind TD.numI).bind λn'=>if Zj3 hi.mkn o.dst then Zu1 P t n.n n'.n all H K else if Zj3 hi.rowt o.dst then ZzM P t n.n n'.n all H K else ZjY P t (Zj3 hi.own o.dst) (Zj3 hi.row o.dst) n.n n'.n all H K
 |.mapUpdate t x k v=>(arT P ts t x).bind λd=>Zib P t all H K (λkt=>arT P ts kt k) (λet=>arT P ts et v) d
 |.insert t x k v=>(arT P ts t x).bind λd=>Zib P t all H K (λkt=>arT P ts kt k) (λet=>arT P ts et v) d
 |.alloc t=>ZzB P hi o.dst t all H K
 |.box t x=>(arT P ts t x).bind (ZI8 hi o.dst all H K)
 |.store t x y=>(arT P ts 0 x).bind λa=>(arT P ts t y).bind λv=>if a.isRp then ZuX P t all H K v a else ZzC P (ZKt hi x) t all H K v a
 |.buildSlice t len parts=>if Zj3 hi.rowt o.dst then(match (o.dst.bind λd=>hi.rew.lookup d).bind λs=>all[s]? with
  |some (.rw id)=>ZzL P ts t len parts.toList id all H K
  |_=>ZEo P ts t len parts.toList all H K) else if Zj3 hi.row o.dst then(if ZKu P ts t (lk H) parts.toList=true then ZuO P ts t len parts.toList all H K else ZpU P ts t len parts.toList all H K) else if Zj3 hi.own o.dst then ZuQ P ts t len parts.toList all H K else Zga P o ts all H K
 |.indexAddr t x ix=>(arT P ts t x).bind λa=>if a.isRw then(arT P ts 0 ix).bind λb=>b.inner.bind λip=>(Zut ip).bind λq=>ZuV P t q.2 all H K a else Zga P o ts all H K
 |.call c=>match c.callee with
  |.builtin .len=>match c.args.toList,c.argTypes.toList with
   |[x],[t]=>(arT P ts t x).bind λd=>if d.isMp then ZuH P t all H K d else if d.isRw then ZEn P t all H K d else Zga P o ts all H K
   |_,_=>none
  |.builtin .max=>Zga P o ts all H K
  |.builtin .append=>match c.args.toList,c.argTypes.toList with
   |[x,y],[t,u]=>(arT P ts t x).bind λa=>(arT P ts u y).bind λb=>if a.isRw || (a.isNilSl&&Zj3 hi.rowt o.dst) then ZpV P true t u all H K b a else if a.isOwn || a.isRv || (a.isNilSl&&(Zj3 hi.own o.dst || Zj3 hi.row o.dst)) then ZuS P (Zj3 hi.own o.dst) (Zj3 hi.row o.dst) t u all H K b (if hi.eqs=true then ZzE H a else a) else Zga P o ts all H K
   |_,_=>none
  |.builtin .copy=>match c.args.toList,c.argTypes.toList with
   |[x,y],[t,u]=>(arT P ts t x).bind λa=>(arT P ts u y).bind λb=>ZEm P t u all H K b a
   |_,_=>none
  |.builtin .clear=>match c.args.toList,c.argTypes.toList with
   |[x],[t]=>(arT P ts t x).bind λa=>ZzF P t all H K a
   |_,_=>none
  |.builtin .delete=>match c.args.toList,c.argTypes.toList with
   |[x,y],[t,u]=>(arT P ts t x).bind λa=>ZuL P t all H K (arT P ts u y) a
   |_,_=>none
  |.value f=>match arT P ts 0 f with
   |some (.fn g cap)=>if(ZaF P (Zfg g)&&c.args.size==c.argTypes.size)=true then(ZpZ P ts c.args.toList c.argTypes.toList).bind λaz=>ZEy specs (Zfg g) all H K (if g < big then az++cap else cap++az) else Zga P o ts all H K
   |_=>none
  |.invoke recv name=>match arT P ts 0 recv with
   |some (.iface t x)=>(ZEx specs.mt t name).bind λg=>if(ZaF P g&&c.args.size==c.argTypes.size)=true then(ZpZ P ts c.args.toList c.argTypes.toList).bind λaz=>ZEy specs g all H (λa d H' hs _=>K a d H' (.meth g::hs) 2) (x::az) else none
   |_=>none
  |_=>none
 |_=>Zga P o ts all H K
theorem XU{d:TD}{n:Num}(h:d.numI=some n):d.num=some n/\n.k=.i64:=by
 unfold TD.numI at h;split at h
 ·rename_i a hn;split at h
  ·rename_i e;cases h;exact⟨hn,e⟩
  ·cases h
 ·cases h
theorem Zp2{hi:HI}{x:yn}{asg:Bool}(ho:if asg=true then o.op=.assign x else o.op=.move x)(h:ZBg P hi o x asg ts all H K=some out):∃a d H' hs c,K a d H' hs c=some out/\Good P o ts all H a d H' hs c:=by
 unfold ZBg at h;split at h
 ·rename_i t d hd hx;split at h
  ·refine Zxg (x:=x) ?_ hd hx h;cases asg
   ·exact .inr ho
   ·exact .inl ho
  split at h
  ·refine Zu0 (x:=x) ?_ hd hx h;cases asg
   ·exact .inr ho
   ·exact .inl ho
  split at h
  ·rename_i ha;rw[yj] at ha;rw[yW ha.1] at ho;exact Zu4 ho hd hx h
  ·split at h
   ·rename_i ha;rw[yj] at ha;rw[yW ha.1] at ho;exact Zw9 ho hd hx h
   ·exact XL h
 ·exact XL h
theorem Zp3{hi:HI}{specs:Sp P}(ok:SpOk specs)(h:opT P hi specs o ts all H K=some out):∃a d H' hs c,K a d H' hs c=some out/\Good P o ts all H a d H' hs c:=by
 unfold opT at h;split at h
 ·rename_i x ho;exact Zp2 (asg:=false) ho h
 ·rename_i x ho;exact Zp2 (asg:=true) ho h
 ·rename_i t x lo hi' ho;split at h
  ·obtain⟨a,h1,h⟩:=yf.1 h;obtain⟨l,h2,h⟩:=yf.1 h;obtain⟨r,h3,h⟩:=yf.1 h;exact ZCG ho h1 h2 h3 h
  ·obtain⟨a,h1,h⟩:=yf.1 h;obtain⟨l,h2,h⟩:=yf.1 h;obtain⟨r,h3,h⟩:=yf.1 h;split at h
   ·exact Zr5 ho h1 h2 h3 h
   split at h
   ·exact Zw7 ho h1 h2 h3 h
   ·exact XL h
 ·rename_i t x ho;obtain⟨d,h1,h⟩:=yf.1 h;split at h
  ·exact Zzx ho h1 h
  split at h
  ·exact Zxh ho h1 h
  ·exact XL h
 ·rename_i t x ix okk ho;obtain⟨d,h1,h⟩:=yf.1 h;exact ZuG ho h1 h
 ·rename_i t ho;exact Zr2 ho h
 ·rename_i t l c ho;obtain⟨n,h1,h⟩:=yf.1 h;obtain⟨n',h2,h⟩:=yf.1 h;obtain⟨d1,g1,g2⟩:=yf.1 h1;obtain⟨d2,g3,g4⟩:=yf.1 h2;split at h
  ·exact Zu2 ho (by rw[g1];exact(XU g2).1) (by rw[g3];exact(XU g4).1) (XU g2).2 (XU g4).2 h
  split at h
  ·exact Zxk ho (by rw[g1];exact(XU g2).1) (by rw[g3];exact(XU g4).1) (XU g2).2 (XU g4).2 h
  exact Zoh ho (by rw[g1];exact(XU g2).1) (by rw[g3];exact(XU g4).1) (XU g2).2 (XU g4).2 h
 ·rename_i t x k v ho;obtain⟨d,h1,h⟩:=yf.1 h;exact ZuJ ho h1 h
 ·rename_i t x k v ho;obtain⟨d,h1,h⟩:=yf.1 h;exact ZuK ho h1 h
 ·rename_i t ho;exact Zxb ho h
 ·rename_i t x ho;obtain⟨d,h1,h⟩:=yf.1 h;exact ZCE ho h1 h
 ·rename_i t x y ho;obtain⟨a,h1,h⟩:=yf.1 h;obtain⟨v,h2,h⟩:=yf.1 h;split at h
  ·exact ZuY ho h1 h2 h
  ·exact Zxc ho h1 h2 h
 ·rename_i t len parts ho;split at h
  ·split at h
   ·exact Zxj ho h
   ·exact ZzK ho h
  split at h
  ·split at h
   ·exact ZuP ho h
   ·exact Zr3 ho h
  split at h
  ·exact ZuR ho h
  ·exact XL h
 ·rename_i t x ix ho;obtain⟨a,h1,h⟩:=yf.1 h;split at h
  ·obtain⟨b,h2,h⟩:=yf.1 h;obtain⟨ip,h3,h⟩:=yf.1 h;obtain⟨q,h4,h⟩:=yf.1 h;rw[YJ h3] at h2;exact ZuW ho h1 h2 h4 h
  ·exact XL h
 ·rename_i c ho;split at h
  ·rename_i hc;split at h
   ·rename_i x t ha ht;obtain⟨d,h1,h⟩:=yf.1 h;split at h
    ·exact ZuI ho hc ha ht h1 h
    split at h
    ·exact ZzI ho hc ha ht h1 h
    ·exact XL h
   ·cases h
  ·exact XL h
  ·rename_i hc;split at h
   ·rename_i x y t u ha ht;obtain⟨a,h1,h⟩:=yf.1 h;obtain⟨b,h2,h⟩:=yf.1 h;split at h
    ·exact Zr4 ho hc ha ht (Zm h1) h2 h
    split at h
    ·refine ZuT ho hc ha ht ?_ h2 h;split
     ·rw[ZCF];exact Zm h1
     ·exact Zm h1
    ·exact XL h
   ·cases h
  ·rename_i hc;split at h
   ·rename_i x y t u ha ht;obtain⟨a,h1,h⟩:=yf.1 h;obtain⟨b,h2,h⟩:=yf.1 h;exact ZzG ho hc ha ht h1 h2 h
   ·cases h
  ·rename_i hc;split at h
   ·rename_i x t ha ht;obtain⟨a,h1,h⟩:=yf.1 h;exact Zxe ho hc ha ht h1 h
   ·cases h
  ·rename_i hc;split at h
   ·rename_i x y t u ha ht;obtain⟨a,h1,h⟩:=yf.1 h;exact ZuM ho hc ha ht h1 h
   ·cases h
  ·rename_i f hc;split at h
   ·rename_i g cap hf;split at h
    ·rename_i hb;obtain⟨az,h1,h⟩:=yf.1 h;obtain⟨a,d,H',hs,cc,k1,k2⟩:=Zxq ok h;exact⟨a,d,H',hs,cc,k1,ZCH ho hc hf hb h1 k2⟩
    ·exact XL h
   ·cases h
  ·rename_i recv name hc;split at h
   ·rename_i t x hf;obtain⟨g,hg,h⟩:=yf.1 h;obtain⟨hb,h⟩:=Za h;obtain⟨az,h1,h⟩:=yf.1 h;obtain⟨a,d,H',hs,cc,k1,k2⟩:=Zxq ok h;exact⟨a,d,H',_,_,k1,ZCI ho hc hf (Zu8 ok.mt hg) hb h1 k2⟩
   ·cases h
  ·cases h
 ·exact XL h
def ZzO(ops:Array Oper)(j:Nat):yO Tmp:=(ops[j]?).bind (·.dst)
def Zr7(b:Bool):TD:=.p (.v .bool b)
def ZEA:TD->Bool
 |.tup []=>true
 |_=>false
def gT(P:yg)(hi:HI)(specs:Sp P)(ops:Array Oper)(o:Oper)(ts all:yL TD)(H:yL TEnt)(K:Kn O):yO O:=
 match o.guard with
 |none=>opT P hi specs o ts all H K
 |some (j,want)=>(ZzO ops j).bind λt=>match (ts.getD t .junk).boolT with
  |some b=>
   if b=true then
    if true=want then opT P hi specs o (ts.set t (Zr7 true)) (all.set t (Zr7 true)) H λa d H' hs c=>K a d H' (.b true::hs) c
    else K (all.set t (Zr7 true)) (.tup []) H [.b true] 0
   else
    if false=want then opT P hi specs o (ts.set t (Zr7 false)) (all.set t (Zr7 false)) H λa d H' hs c=>K a d H' (.b false::hs) c
    else K (all.set t (Zr7 false)) (.tup []) H [.b false] 0
  |none=>if ZEA (ts.getD t .junk) then K all (.tup []) H [.raw] 0 else none
structure GoodG(P:yg)(ops:Array Oper)(o:Oper)(ts all:List TD)(H:List TEnt)(all':List TD)(d:TD)(H':List TEnt)(hs:List Hint)(cls:Nat):Prop where
 same:TD.ers (lk H') all'=TD.ers (lk H) all
 len:all'.length=all.length
 op:∃C,AllP C/\∀yK,evG P ops o (TD.ers (lk H) ts) (erH H) (hs++yK)=some (C,d.er (lk H'),erH H',yK)
 sam:cls=3->erH H'=erH H
 cls:∀yK,clsOf P o (TD.ers (lk H) ts) (erH H) (hs++yK)<=cls
theorem Zu9{d:TD}{a:yL TD}{H':yL TEnt}{hs:yL Hint}{c:Nat}(h:Good P o ts all H a d H' hs c):∃C,AllP C/\(∀yK,Zdz P o (TD.ers (lk H) ts) (erH H) (hs++yK)=some (C,d.er (lk H'),erH H',yK))/\
 ∀yK,(if(evN P o (TD.ers (lk H) ts) (hs++yK)).isSome then 0 else if(evR P o (TD.ers (lk H) ts) (erH H) (hs++yK)).isSome then 1 else 2)<=c:=by
 rcases h.op with⟨rfl,rfl,C,h1,h2⟩|⟨rfl,rfl,h0,C,h1,h2⟩|⟨rfl,h0,h00,C,h1,h2⟩|⟨rfl,_,h0,h00,C,h1,h2⟩
 ·exact⟨C,h1,λyK=>by unfold Zdz;rw[h2 yK],λyK=>by rw[h2 yK];simp⟩
 ·exact⟨C,h1,λyK=>by unfold Zdz;rw[h0 yK];dsimp only;rw[h2 yK],λyK=>by rw[h0 yK,h2 yK];simp⟩
 ·exact⟨C,h1,λyK=>by unfold Zdz;rw[h0 yK];dsimp only;rw[h00 yK];exact h2 yK,λyK=>by rw[h0 yK,h00 yK];simp⟩
 ·exact⟨C,h1,λyK=>by unfold Zdz;rw[h0 yK];dsimp only;rw[h00 yK];exact h2 yK,λyK=>by rw[h0 yK,h00 yK];simp⟩
theorem Zp4{d:TD}{a:yL TD}{H':yL TEnt}{hs:yL Hint}{c:Nat}(h:Good P o ts all H a d H' hs c)(hc:c=3):erH H'=erH H:=by
 subst hc;rcases h.op with⟨e,_⟩|⟨e,_⟩|⟨e,_⟩|⟨_,e,_⟩
 ·cases e
 ·cases e
 ·cases e
 ·exact e
theorem Zxr{l:yL TD}{t:Nat}{b:Bool}(h:(l.getD t .junk).boolT=some b):l.getD t .junk=Zr7 b:=by
 unfold TD.boolT at h;split at h
 ·rename_i x hx;unfold TP.boolB at h;split at h
  ·cases h;exact hx
  ·cases h
 ·cases h
theorem set_same{l:yL TD}{t:Nat}{d:TD}(h:l.getD t .junk=d):(l.set t d)=l:=by
 apply List.ext_getElem?;intro i;rw[List.getElem?_set];split
 ·rename_i e;subst e;split
  ·rename_i hl;rw[<-h,ycz,yz hl];rfl
  ·rename_i hl;rw[yat (by omega)]
 ·rfl
theorem ZBh{hi:HI}{specs:Sp P}{ops:Array Oper}(ok:SpOk specs)(hg:∀j want t,o.guard=some (j,want)->ZzO ops j=some t->ts.getD t .junk=all.getD t .junk)(h:gT P hi specs ops o ts all H K=some out):
 ∃a d H' hs c,K a d H' hs c=some out/\GoodG P ops o ts all H a d H' hs c:=by
 unfold gT at h;split at h
 ·rename_i hgd;obtain⟨a,d,H',hs,c,h1,h2⟩:=Zp3 ok h;obtain⟨C,g1,g2,g3⟩:=Zu9 h2;refine⟨a,d,H',hs,c,h1,h2.same,h2.len,⟨C++[],Zj.2 ⟨g1,ytt⟩,λyK=> ?_⟩,Zp4 h2,λyK=> ?_⟩
  ·unfold evG;rw[hgd];dsimp only;rw[g2 yK];rfl
  ·unfold clsOf;rw[hgd];exact g3 yK
 ·rename_i j want hgd;obtain⟨t,ht,h9⟩:=yf.1 h;clear h;have eall:=hg j want t hgd ht
  have eslot:((ops[j]?).bind (·.dst)).map (λt=>(TD.ers (lk H) ts).getD t .junk)=some ((ts.getD t .junk).er (lk H)):=by
   rw[show(ops[j]?).bind (·.dst)=some t from ht,yaa,ZkN]
  split at h9
  ·rename_i b hb;have e1:=Zxr hb;have e2:all.getD t .junk=Zr7 b:=by rw[<-eall];exact e1
   have e3:(ts.getD t .junk).er (lk H)=.p (.bool b):=ZeP hb;split at h9
   ·rename_i hbt;subst hbt;rw[set_same e1,set_same e2] at h9;split at h9
    ·rename_i hw;subst hw;obtain⟨a,d,H',hs,c,h1,h2⟩:=Zp3 ok h9;obtain⟨C,g1,g2,g3⟩:=Zu9 h2;refine⟨a,d,H',_,c,h1,h2.same,h2.len,⟨(true=true)::C++[],Zj.2 ⟨⟨rfl,g1⟩,ytt⟩,λyK=> ?_⟩,Zp4 h2,λyK=> ?_⟩
     ·unfold evG;rw[hgd];dsimp only;rw[eslot,e3];simp only[yab,if_true,g2 yK];rfl
     ·unfold clsOf;rw[hgd];simp only[yab,if_true];exact g3 yK
    ·rename_i hw;refine⟨_,_,_,_,_,h9,rfl,rfl,⟨[true=true],⟨rfl,ytt⟩,λyK=> ?_⟩,λ_=>rfl,λyK=> ?_⟩
     ·unfold evG;rw[hgd];dsimp only;rw[eslot,e3];simp only[yab,yx,yX hw];rfl
     ·unfold clsOf;rw[hgd];simp only[yab,yX hw];exact ym _
   ·rename_i hbt;have hbt:b=false:=by simpa using hbt
    subst hbt;rw[set_same e1,set_same e2] at h9;split at h9
    ·rename_i hw;subst hw;obtain⟨a,d,H',hs,c,h1,h2⟩:=Zp3 ok h9;obtain⟨C,g1,g2,g3⟩:=Zu9 h2;refine⟨a,d,H',_,c,h1,h2.same,h2.len,⟨(false=false)::C++[],Zj.2 ⟨⟨rfl,g1⟩,ytt⟩,λyK=> ?_⟩,Zp4 h2,λyK=> ?_⟩
     ·unfold evG;rw[hgd];dsimp only;rw[eslot,e3];simp only[yab,if_true,g2 yK];rfl
     ·unfold clsOf;rw[hgd];simp only[yab,if_true];exact g3 yK
    ·rename_i hw;refine⟨_,_,_,_,_,h9,rfl,rfl,⟨[false=false],⟨rfl,ytt⟩,λyK=> ?_⟩,λ_=>rfl,λyK=> ?_⟩
     ·unfold evG;rw[hgd];dsimp only;rw[eslot,e3];simp only[yab,yx,yX hw];rfl
     ·unfold clsOf;rw[hgd];simp only[yab,yX hw];exact ym _
  ·obtain⟨h1,h9⟩:=Za h9
   have e3:(ts.getD t .junk).er (lk H)=.tup []:=by
    unfold ZEA at h1;split at h1
    ·rename_i hx;rw[hx];rfl
    ·cases h1
   refine⟨_,_,_,_,_,h9,rfl,rfl,⟨[],zP,λyK=> ?_⟩,λ_=>rfl,λyK=> ?_⟩
   ·unfold evG;rw[hgd];dsimp only;rw[eslot,e3];rfl
   ·unfold clsOf;rw[hgd];exact ym _
def Zto(ts:yL TD)(dst:yO Tmp)(d:TD):yL TD:=
 match dst with
 |some i=>ts.set i d
 |none=>ts
theorem Zxs{L:Lk}(dst:yO Tmp)(d:TD):TD.ers L (Zto ts dst d)=ZgA (TD.ers L ts) dst (d.er L):=by
 cases dst with
 |none=>rfl
 |some i=>simp only[Zto,ZgA,ZB,ybm]
theorem Ztp(dst:yO Tmp)(d:TD):(Zto ts dst d).length=ts.length:=by
 cases dst <;> simp[Zto]
def ZEB(P:yg)(hi:HI)(specs:Sp P)(ops:Array Oper):yL Oper->yL TD->yL TEnt->(yL TD->yL TEnt->yL Hint->yO O)->yO O
 |[],all,H,K=>K all H []
 |o::r,all,H,K=>gT P hi specs ops o all all H λa d H' hs _=>ZEB P hi specs ops r (Zto a o.dst d) H' λa' h' hs'=>K a' h' (hs++hs')
theorem Ztq{hi:HI}{specs:Sp P}{ops:Array Oper}(ok:SpOk specs):∀(l:yL Oper)(all:yL TD)(H:yL TEnt)(K:yL TD->yL TEnt->yL Hint->yO O),ZEB P hi specs ops l all H K=some out->
 ∃a h hs C,K a h hs=some out/\a.length=all.length/\AllP C/\∀yK,Zo5 P ops l (TD.ers (lk H) all) (erH H) (hs++yK)=some (C,TD.ers (lk h) a,erH h,yK)
 |[],all,H,K,h=>⟨all,H,[],[],h,rfl,zP,λ_=>rfl⟩
 |o::r,all,H,K,h=>by
  unfold ZEB at h;obtain⟨a,d,H',hs,c,h1,h2⟩:=ZBh ok (λ_ _ _ _ _=>rfl) h;obtain⟨a',h',hs',C',k1,k0,k2,k3⟩:=Ztq ok r _ _ _ h1;obtain⟨C,g1,g2⟩:=h2.op;refine⟨a',h',_,C++C',k1,by rw[k0,Ztp,h2.len],Zj.2 ⟨g1,k2⟩,λyK=> ?_⟩;unfold Zo5;rw[yac,g2 (hs'++yK)];dsimp only;rw[<-h2.same, <-Zxs,k3 yK]
end
end Go.Ev
end
section
namespace Go.Ev
section
variable{P:yg}{o:Oper}{ts all:yL TD}{H:yL TEnt}{O:Type}{out:O}
def Zgb(keep:yL Nat):Nat->yL TD->yL TD
 |_,[]=>[]
 |i,d::r=>(if keep.contains i then d else .junk)::Zgb keep (i+1) r
theorem Zk3{L:Lk}(keep:yL Nat):∀(l:yL TD)(k:Nat),TD.ers L (Zgb keep k l)=ZF keep k (TD.ers L l)
 |[],_=>rfl
 |d::r,k=>by
  rw[Zgb,TD.ers,TD.ers,ZF,Zk3 keep r];split <;> rfl
theorem Ztr(keep:yL Nat):∀(l:yL TD)(k t:Nat),keep.contains (k+t)=true->(Zgb keep k l).getD t .junk=l.getD t .junk
 |[],_,_,_=>rfl
 |d::r,k,0,h=>by
  have h':keep.contains k=true:=h
  simp only[Zgb,h',if_true,List.getD_cons_zero]
 |d::r,k,t+1,h=>by
  simp only[Zgb,List.getD_cons_succ];exact Ztr keep r (k+1) t (by rw[show k+1+t=k+(t+1) by omega];exact h)
mutual
def Pl.sameB:Pl->Pl->Bool
 |.int k n,.int l m=>decide (k=l)&&decide (n=m)
 |.bool a,.bool b=>a==b
 |.str a,.str b=>decide (a=b)
 |.ptr0,.ptr0=>true
 |.fn0,.fn0=>true
 |.if0,.if0=>true
 |.map0,.map0=>true
 |.fnv f,.fnv g=>Nat.beq f g
 |.agg xs,.agg ys=>Pl.samesB xs ys
 |.arr n s xs,.arr m u ys=>Nat.beq n m&&Nat.beq s u&&Pl.samesB xs ys
 |.sl a s xs,.sl b u ys=>a==b&&Nat.beq s u&&Pl.samesB xs ys
 |.iface t x,.iface u y=>Nat.beq t u&&Pl.sameB x y
 |_,_=>false
def Pl.samesB:yL Pl->yL Pl->Bool
 |[],[]=>true
 |x::r,y::q=>Pl.sameB x y&&Pl.samesB r q
 |_,_=>false
end
mutual
theorem Pl.sameB_eq:∀(a b:Pl),Pl.sameB a b=true->a=b
 |.int k n,b,h=>by cases b <;> simp_all[Pl.sameB]
 |.bool k,b,h=>by cases b <;> simp_all[Pl.sameB]
 |.str k,b,h=>by cases b <;> simp_all[Pl.sameB]
 |.ptr0,b,h=>by cases b <;> simp_all[Pl.sameB]
 |.fn0,b,h=>by cases b <;> simp_all[Pl.sameB]
 |.if0,b,h=>by cases b <;> simp_all[Pl.sameB]
 |.map0,b,h=>by cases b <;> simp_all[Pl.sameB]
 |.fnv f,b,h=>by cases b <;> simp_all[Pl.sameB]
 |.agg xs,b,h=>by cases b <;> simp_all[Pl.sameB];exact Pl.samesB_eq _ _ h
 |.arr n s xs,b,h=>by cases b <;> simp_all[Pl.sameB];exact Pl.samesB_eq _ _ h.2
 |.sl n s xs,b,h=>by cases b <;> simp_all[Pl.sameB];exact Pl.samesB_eq _ _ h.2
 |.iface t x,b,h=>by cases b <;> simp_all[Pl.sameB];exact Pl.sameB_eq _ _ h.2
theorem Pl.samesB_eq:∀(a b:yL Pl),Pl.samesB a b=true->a=b
 |[],[],_=>rfl
 |[],_::_,h=>by cases h
 |_::_,[],h=>by cases h
 |x::r,y::q,h=>by
  simp only[Pl.samesB,yj] at h;rw[Pl.sameB_eq x y h.1,Pl.samesB_eq r q h.2]
end
def Zts:yL Nat->yL Nat->Bool
 |[],[]=>true
 |x::r,y::q=>Nat.beq x y&&Zts r q
 |_,_=>false
theorem Zk4:∀(a b:yL Nat),Zts a b=true->a=b
 |[],[],_=>rfl
 |[],_::_,h=>by cases h
 |_::_,[],h=>by cases h
 |x::r,y::q,h=>by
  simp only[Zts,yj] at h;rw[Nat.eq_of_beq_eq_true h.1,Zk4 r q h.2]
mutual
def Dv.sameB:Dv->Dv->Bool
 |.p x,.p y=>Pl.sameB x y
 |.elem x,.elem y=>Pl.sameB x y
 |.ref i o l,.ref j q m=>Nat.beq i j&&Nat.beq o q&&Zts l m
 |.own i a s xs,.own j b u ys=>Nat.beq i j&&a==b&&Nat.beq s u&&Pl.samesB xs ys
 |.view i o l a b c,.view i' o' l' a' b' c'=>Nat.beq i i'&&Nat.beq o o'&&Zts l l'&&Nat.beq a a'&&Nat.beq b b'&&Nat.beq c c'
 |.agg xs,.agg ys=>Dv.samesB xs ys
 |.arr n s xs,.arr m u ys=>Nat.beq n m&&Nat.beq s u&&Dv.samesB xs ys
 |.fn f xs,.fn g ys=>Nat.beq f g&&Dv.samesB xs ys
 |.iface t x,.iface u y=>Nat.beq t u&&Dv.sameB x y
 |.tup xs,.tup ys=>Dv.samesB xs ys
 |.mp i,.mp j=>Nat.beq i j
 |.rv a b c d e,.rv a' b' c' d' e'=>Nat.beq a a'&&Nat.beq b b'&&Nat.beq c c'&&Nat.beq d d'&&Nat.beq e e'
 |.rref a b c l,.rref a' b' c' l'=>Nat.beq a a'&&Nat.beq b b'&&Nat.beq c c'&&Zts l l'
 |.junk,.junk=>true
 |_,_=>false
def Dv.samesB:yL Dv->yL Dv->Bool
 |[],[]=>true
 |x::r,y::q=>Dv.sameB x y&&Dv.samesB r q
 |_,_=>false
end
theorem ZdD{a b:Nat}(h:Nat.beq a b=true):a=b:=Nat.eq_of_beq_eq_true h
mutual
theorem Dv.sameB_eq:∀(a b:Dv),Dv.sameB a b=true->a=b
 |.p x,b,h=>by
  cases b <;> simp only[Dv.sameB,ybw] at h
  rw[Pl.sameB_eq _ _ h]
 |.elem x,b,h=>by
  cases b <;> simp only[Dv.sameB,ybw] at h
  rw[Pl.sameB_eq _ _ h]
 |.ref i o l,b,h=>by
  cases b <;> simp only[Dv.sameB,ybw,yj] at h
  rw[ZdD h.1.1,ZdD h.1.2,Zk4 _ _ h.2]
 |.own i a s xs,b,h=>by
  cases b <;> simp only[Dv.sameB,ybw,yj,yT] at h
  rw[ZdD h.1.1.1,h.1.1.2,ZdD h.1.2,Pl.samesB_eq _ _ h.2]
 |.view i o l a k c,b,h=>by
  cases b <;> simp only[Dv.sameB,ybw,yj] at h
  rw[ZdD h.1.1.1.1.1,ZdD h.1.1.1.1.2,Zk4 _ _ h.1.1.1.2,ZdD h.1.1.2,ZdD h.1.2,ZdD h.2]
 |.agg xs,b,h=>by
  cases b <;> simp only[Dv.sameB,ybw] at h
  rw[Dv.samesB_eq _ _ h]
 |.arr n s xs,b,h=>by
  cases b <;> simp only[Dv.sameB,ybw,yj] at h
  rw[ZdD h.1.1,ZdD h.1.2,Dv.samesB_eq _ _ h.2]
 |.fn f xs,b,h=>by
  cases b <;> simp only[Dv.sameB,ybw,yj] at h
  rw[ZdD h.1,Dv.samesB_eq _ _ h.2]
 |.iface t x,b,h=>by
  cases b <;> simp only[Dv.sameB,ybw,yj] at h
  rw[ZdD h.1,Dv.sameB_eq _ _ h.2]
 |.tup xs,b,h=>by
  cases b <;> simp only[Dv.sameB,ybw] at h
  rw[Dv.samesB_eq _ _ h]
 |.mp i,b,h=>by
  cases b <;> simp only[Dv.sameB,ybw] at h
  rw[ZdD h]
 |.rv a k c d e,b,h=>by
  cases b <;> simp only[Dv.sameB,ybw,yj] at h
  rw[ZdD h.1.1.1.1,ZdD h.1.1.1.2,ZdD h.1.1.2,ZdD h.1.2,ZdD h.2]
 |.rref a k c l,b,h=>by
  cases b <;> simp only[Dv.sameB,ybw,yj] at h
  rw[ZdD h.1.1.1,ZdD h.1.1.2,ZdD h.1.2,Zk4 _ _ h.2]
 |.junk,b,h=>by
  cases b <;> simp only[Dv.sameB,ybw] at h;rfl
theorem Dv.samesB_eq:∀(a b:yL Dv),Dv.samesB a b=true->a=b
 |[],[],_=>rfl
 |[],_::_,h=>by cases h
 |_::_,[],h=>by cases h
 |x::r,y::q,h=>by
  simp only[Dv.samesB,yj] at h;rw[Dv.sameB_eq x y h.1,Dv.samesB_eq r q h.2]
end
def Ent.sameB:yO Ent->yO Ent->Bool
 |some (.var d _),some (.var e _)=>Dv.sameB d e
 |_,_=>false
theorem Ent.sameB_rd{a b:yO Ent}(h:Ent.sameB a b=true):rdE a=rdE b:=by
 unfold Ent.sameB at h;split at h
 ·rw[Dv.sameB_eq _ _ h];rfl
 ·cases h
structure TR where
 cls:Nat
 rd:Option Nat
 tc:Option (List Nat)
 n:Nat
 push:Bool
 loc:Bool
 m:Nat
 sm:Nat->Bool
def ZBi(P:yg)(hi:HI)(specs:Sp P)(ops:Array Oper):yL Oper->yL TD->yL TEnt->(yL TD->yL TEnt->yL TR->yL Hint->yO O)->yO O
 |[],all,H,K=>K all H [] []
 |o::r,all,H,K=>gT P hi specs ops o (Zgb (looks ops o) 0 all) all H λa d H' hs c=>ZBi P hi specs ops r (Zto a o.dst d) H' λa' h' rs hs'=>
   K a' h' (⟨c,ZDs P o (TD.ers (lk H) (Zgb (looks ops o) 0 all)),Zua P o (TD.ers (lk H) (Zgb (looks ops o) 0 all)) hs,H.length,Zfi o,Zkt o hs,H'.length,λid=>(c==3) || Ent.sameB ((erH H')[id]?) ((erH H)[id]?)⟩::rs) (hs++hs')
def RecOk(R:Rec)(r:TR):Prop:=R.cls<=r.cls/\R.rd=r.rd/\(∀l,r.tc=some l->R.tc=some l)/\R.H.length=r.n/\R.push=r.push/\(r.loc=true->R.loc=true)/\R.H'.length=r.m/\∀id,r.sm id=true->rdE (R.H'[id]?)=rdE (R.H[id]?)
inductive RecsOk:List Rec->List TR->Prop where
 |nil:RecsOk [] []
 |cons {R:Rec} {r:TR} {Rs:List Rec} {rs:List TR} (h:RecOk R r) (k:RecsOk Rs rs):RecsOk (R::Rs) (r::rs)
theorem ZzP{ts:yL Dv}{hs yK:yL Hint}{l:yL Nat}(h:ZbW P o ts hs=some l):ZbW P o ts (hs++yK)=some l:=by
 unfold ZbW at h ⊢;split at h <;> first|exact h|skip
 ·cases hs with
  |nil=>cases h
  |cons x r=>rw[yab];cases x <;> exact h
 split at h <;> first|exact h|skip
 all_goals
  split at h
  ·exact h
  ·cases h
theorem ZHc{ts:yL Dv}{hs yK:yL Hint}{l:yL Nat}(h:Zua P o ts hs=some l):Zua P o ts (hs++yK)=some l:=by
 unfold Zua at h ⊢;split at h
 ·rename_i hg;rw[yW hg];exact ZzP h
 ·cases h
theorem ZEC{hs yK:yL Hint}(h:Zkt o hs=true):Zkt o (hs++yK)=true:=by
 unfold Zkt at h ⊢;rw[yj] at h ⊢;refine⟨h.1, ?_⟩;have h:=h.2;split at h
 ·split at h
  ·split at h
   ·exact h
   ·cases h
  ·split at h
   ·exact h
   ·cases h
  ·cases h
 ·cases h
theorem Zp5{hi:HI}{specs:Sp P}{ops:Array Oper}(ok:SpOk specs):∀(l:yL Oper)(all:yL TD)(H:yL TEnt)(K:yL TD->yL TEnt->yL TR->yL Hint->yO O),ZBi P hi specs ops l all H K=some out->
 ∃a h rs hs C,K a h rs hs=some out/\a.length=all.length/\AllP C/\∀yK,∃RS,evD P ops l (TD.ers (lk H) all) (erH H) (hs++yK)=some (C,RS,TD.ers (lk h) a,erH h,yK)/\RecsOk RS rs
 |[],all,H,K,h=>⟨all,H,[],[],[],h,rfl,zP,λ_=>⟨[],rfl,.nil⟩⟩
 |o::r,all,H,K,h=>by
  unfold ZBi at h
  have hgd:∀j want t,o.guard=some (j,want)->ZzO ops j=some t->(Zgb (looks ops o) 0 all).getD t .junk=all.getD t .junk:=by
   intro j want t hg hs;refine Ztr _ _ _ _ ?_;rw[Nat.zero_add];unfold looks;rw[hg];dsimp only;rw[show(ops[j]?).bind (·.dst)=some t from hs]
   simp
  obtain⟨a,d,H',hs,c,h1,h2⟩:=ZBh ok hgd h;obtain⟨a',h',rs,hs',C',k1,k0,k2,k3⟩:=Zp5 ok r _ _ _ h1;obtain⟨C,g1,g2⟩:=h2.op;refine⟨a',h',_,_,C++C',k1,by rw[k0,Ztp,h2.len],Zj.2 ⟨g1,k2⟩,λyK=> ?_⟩;obtain⟨RS,e1,e2⟩:=k3 yK;unfold evD;rw[<-Zk3,yac,g2 (hs'++yK)];dsimp only;rw[<-h2.same, <-Zxs,e1]
  refine⟨_,rfl,.cons ⟨h2.cls _,rfl,λl hl=> ?_,ZC _,rfl,λhl=>ZEC hl,ZC _,λid hs=>by
   have hs:(c==3 || Ent.sameB ((erH H')[id]?) ((erH H)[id]?))=true:=hs;rw[ycd] at hs;rcases hs with h5|h5
   ·rw[h2.sam (by simpa using h5)]
   ·exact Ent.sameB_rd h5⟩ e2⟩
  exact ZHc hl
def ZBj(ops:Array Oper)(cls:yL Nat)(free comm:Nat->Nat->Bool):Bool:=
 let l:=ops.toList;let A:=ZDt l;let n:=l.length
 (cls.length==n)&&Zcn l 0&&
 ((yr n).all λi=>match l[i]? with|some o=>A.getD i 0==Zfj A i o|none=>true)&&
 ((yr n).all λi=>(yr n).all λj=>i==j || Xu l i==none || !(Xu l i==Xu l j))&&
 ((yr n).all λi=>match l[i]? with
   |some o=>let k:=looks ops o
    (yr n).all λj=>match Xu l j with
      |some t=>i==j || !(k.contains t) || (if j < i then(A.getD i 0).testBit j else(A.getD j 0).testBit i)
      |none=>true
   |none=>true)&&
 ((yr n).all λi=>cls.getD i 0==0 || (yr n).all λj=>i==j || decide (cls.getD j 0 < 2) || (if j < i then(A.getD i 0).testBit j else(A.getD j 0).testBit i) || (decide (cls.getD i 0<=1)&&free i j) || comm i j)
def ZED(rs:yL TR)(i j:Nat):Bool:=
 match rs[i]?,rs[j]? with
 |some r,some q=>match r.rd with
  |some id=>decide (id < q.n)&&decide (id < r.n)&&((match q.tc with|some l=> !l.contains id|none=>false) || q.sm id)
  |none=>false
 |_,_=>false
def cT(rs:yL TR)(c:Nat)(r:TR):Bool:=r.loc || (r.push&&r.m==r.n+1&&(rs.take c).all λq=>decide (q.n<=r.n))
def cI(rs:yL TR):Nat:=match rs.findIdx? (λr=>r.loc&&r.cls==2) with
 |some c=>c
 |none=>(rs.findIdx? (λr=>r.push)).getD 0
def ZBk(rs:yL TR)(i j:Nat):Bool:=
 let c:=cI rs
 ((rs[c]?).map (cT rs c)).getD false&&((i==c&&decide (c < j)&&((rs[j]?).map (·.push)).getD false) || (j==c&&decide (c < i)&&((rs[i]?).map (·.push)).getD false))
theorem Zp6{RS:yL Rec}{rs:yL TR}(h:RecsOk RS rs):RS.length=rs.length:=by
 induction h with
 |nil=>rfl
 |cons _ _ ih=>simp[ih]
theorem Zg1{RS:yL Rec}{rs:yL TR}(h:RecsOk RS rs):∀{i:Nat}{r:TR},rs[i]? =some r->∃R,RS[i]? =some R/\RecOk R r:=by
 induction h with
 |nil=>intro i r h;simp at h
 |cons h k ih=>
  intro i r hi
  cases i with
  |zero=>cases hi;exact⟨_,rfl,h⟩
  |succ i=>exact ih hi
theorem ZCJ{RS:yL Rec}{rs:yL TR}(h:RecsOk RS rs):∀{i:Nat}{R:Rec},RS[i]? =some R->∃r,rs[i]? =some r/\RecOk R r:=by
 induction h with
 |nil=>intro i r h;simp at h
 |cons h k ih=>
  intro i r hi
  cases i with
  |zero=>cases hi;exact⟨_,rfl,h⟩
  |succ i=>exact ih hi
theorem Zxt{RS:yL Rec}{rs:yL TR}(h:RecsOk RS rs)(i:Nat):(RS.map (·.cls)).getD i 0<=(rs.map (·.cls)).getD i 0:=by
 simp only[ycz,yaj]
 cases hi:rs[i]? with
 |none=>
  have:RS[i]? =none:=by rw[List.getElem?_eq_none_iff] at hi ⊢;rw[Zp6 h];exact hi
  rw[this]
  exact ym _
 |some r=>
  obtain⟨R,e,k⟩:=Zg1 h hi;rw[e];exact k.1
theorem ZHd{ops:Array Oper}{RS:yL Rec}{rs:yL TR}(h:RecsOk RS rs)(k:ZBj ops (rs.map (·.cls)) (ZED rs) (ZBk rs)=true)(hn:rs.length=ops.size):Zub ops RS=true:=by
 unfold ZBj at k;unfold Zub;simp only[yj] at k ⊢;obtain⟨⟨⟨⟨⟨k1,k2⟩,k3⟩,k4⟩,k5⟩,k6⟩:=k;refine⟨⟨⟨⟨⟨?_,k2⟩,k3⟩,k4⟩,k5⟩, ?_⟩
 ·simpa[Zp6 h] using k1
 ·have hcm:∃c,c∈yr (ops.toList.length+1)/\∀i j,ZBk rs i j=true->Zej RS c i j=true:=by
   have hget:∀(k:Nat),((rs[k]?).map (·.push)).getD false=true->((RS[k]?).map (·.push)).getD false=true:=by
    intro k hk
    cases hr:rs[k]? with
    |none=>rw[hr] at hk;cases hk
    |some r=>
     obtain⟨R,e1,e2⟩:=Zg1 h hr;rw[hr] at hk;rw[e1];show R.push=true;rw[e2.2.2.2.2.1];exact hk
   refine⟨if cI rs < rs.length then cI rs else 0, ?_,λi j hij=> ?_⟩
   ·rw[List.mem_range];split
    ·rename_i hlt;rw[hn] at hlt;have:ops.toList.length=ops.size:=by simp
     omega
    ·omega
   ·unfold ZBk at hij;dsimp only at hij;generalize cI rs=c at hij ⊢;rw[yj] at hij;obtain⟨h1,h2⟩:=hij
    cases hr:rs[c]? with
    |none=>rw[hr] at h1;cases h1
    |some r=>
     have hlt:=(yq.1 hr).1;rw[yW hlt];obtain⟨R,e1,e2⟩:=Zg1 h hr;rw[hr] at h1;unfold Zej;rw[yj];refine⟨?_, ?_⟩
     ·rw[e1];show cOk RS c R=true;have h1:cT rs c r=true:=h1;unfold cT at h1;unfold cOk;rw[ycd] at h1 ⊢;rcases h1 with h1|h1
      ·exact .inl (e2.2.2.2.2.2.1 h1)
      ·simp only[yj,yT,yba,yP] at h1 ⊢;obtain⟨⟨b1,b2⟩,b3⟩:=h1;refine .inr ⟨⟨by rw[e2.2.2.2.2.1];exact b1,by rw[e2.2.2.2.2.2.2.1,e2.2.2.2.1];exact b2⟩,λq hq=> ?_⟩;obtain⟨k,hk⟩:=List.mem_iff_getElem?.1 hq;rw[List.getElem?_take] at hk;split at hk
       ·rename_i hkc;obtain⟨q2,f1,f2⟩:=ZCJ h hk;rw[f2.2.2.2.1,e2.2.2.2.1];refine b3 q2 (List.mem_iff_getElem?.2 ⟨k, ?_⟩);rw[List.getElem?_take,yW hkc];exact f1
       ·cases hk
     ·simp only[ycd,yj] at h2 ⊢;rcases h2 with⟨⟨a1,a2⟩,a3⟩|⟨⟨a1,a2⟩,a3⟩
      ·exact .inl ⟨⟨a1,a2⟩,hget _ a3⟩
      ·exact .inr ⟨⟨a1,a2⟩,hget _ a3⟩
  obtain⟨c,hc1,hc2⟩:=hcm;rw[List.any_eq_true];refine⟨c,hc1, ?_⟩;rw[yba] at k6 ⊢;intro i hi;have:=k6 i hi;have hc:=Zxt h i;simp only[ycd] at this ⊢;rcases this with h0|h1
  ·left;have h0:(rs.map (·.cls)).getD i 0=0:=by simpa using h0
   have:(RS.map (·.cls)).getD i 0=0:=by omega
   simpa using this
  ·by_cases hz:(RS.map (·.cls)).getD i 0=0
   ·left;simpa using hz
   ·right;rw[yba] at h1 ⊢;intro j hj;have h2:=h1 j hj;have hd:=Zxt h j;simp only[ycd,yj,yP] at h2 ⊢;rcases h2 with(((h2|h2)|h2)|h2)|h2
    ·exact .inl (.inl (.inl (.inl h2)))
    ·refine .inl (.inl (.inl (.inr ?_)));have:(RS.map (·.cls)).getD j 0≠2:=by omega
     simpa using this
    ·exact .inl (.inl (.inr h2))
    ·refine .inl (.inr ⟨?_, ?_⟩)
     ·have:(RS.map (·.cls)).getD i 0=1:=by omega
      simpa using this
     ·have hf:=h2.2;unfold ZED at hf;unfold ZgL;split at hf
      ·rename_i r q hr hq;obtain⟨R,e1,e2⟩:=Zg1 h hr;obtain⟨Q,e3,e4⟩:=Zg1 h hq;rw[e1,e3];dsimp only;split at hf
       ·rename_i id hrd;rw[e2.2.1,hrd];dsimp only;rw[e4.2.2.2.1,e2.2.2.2.1];rw[yj] at hf ⊢;refine⟨hf.1, ?_⟩;rw[ycd] at hf ⊢;rcases hf.2 with h5|h5
        ·left;split at h5
         ·rename_i l htc;rw[e4.2.2.1 l htc];exact h5
         ·cases h5
        ·right;exact@decide_eq_true _ (Classical.propDecidable _) (e4.2.2.2.2.2.2.2 id h5)
       ·cases hf
      ·cases hf
    ·exact .inr (hc2 i j h2)
theorem ZzQ{A B:yL Ent}(hl:A.length=B.length)(h:∀(i:Nat)(a b:Ent),A[i]? =some a->B[i]? =some b->WkE a b):WkH A B:=by
 induction A generalizing B with
 |nil=>cases B with
  |nil=>exact .nil
  |cons _ _=>simp at hl
 |cons a A ih=>cases B with
  |nil=>simp at hl
  |cons b B=>exact .cons (h 0 a b rfl rfl) (ih (by simpa using hl) λi a b h1 h2=>h (i+1) a b h1 h2)
def ZEE:TEnt->TEnt
 |.var d _=>.var d false
 |e=>e
def Zmw(ids:yL Nat)(H:yL TEnt):yL TEnt:=(yr H.length).zipWith (λi e=>if ids.contains i then ZEE e else e) H
theorem ZHe(e:TEnt):lkE (some (ZEE e))=lkE (some e):=by cases e <;> rfl
theorem Zp7(ids:yL Nat)(H:yL TEnt)(i:Nat):(Zmw ids H)[i]? =(H[i]?).map λe=>if ids.contains i then ZEE e else e:=by
 unfold Zmw;rw[List.getElem?_zipWith];rcases Nat.lt_or_ge i H.length with h|h
 ·rw[List.getElem?_range h,yz h];rfl
 ·rw[yat (by simpa using h),yat h];rfl
theorem Ztt(ids:yL Nat)(H:yL TEnt):lk (Zmw ids H)=lk H:=by
 funext i;unfold lk;rw[Zp7]
 cases H[i]? with
 |none=>rfl
 |some e=>
  show lkE (some (if ids.contains i=true then ZEE e else e))=_
  split
  ·exact ZHe e
  ·rfl
theorem ZCK(ids:yL Nat)(H:yL TEnt):WkH (erH H) (erH (Zmw ids H)):=by
 refine ZzQ (by rw[ZC,ZC];unfold Zmw;simp) λi a b h1 h2=> ?_;unfold erH at h1 h2;rw[yaj] at h1 h2;rw[Ztt,Zp7] at h2
 cases he:H[i]? with
 |none=>rw[he] at h1;cases h1
 |some e=>
  rw[he] at h1 h2;cases h1;cases h2;show WkE (e.er (lk H)) (TEnt.er (lk H) (if ids.contains i=true then ZEE e else e))
  split
  ·cases e <;> first|exact .refl _|exact .frz
  ·exact .refl _
theorem ZEF{c:Code}{ts ts1:yL Dv}{H0 H1 H2:yL Ent}{ex:Ex}(h:WkH H0 H1)(r:XD P c ts H1 ex ts1 H2):XD P c ts H0 ex ts1 H2:=by
 intro σ a ok hH yM;obtain⟨to,ok2⟩:=ZiO ok (H':=H1) (by rw[hH];exact h);refine wp_mono (r { σ with H:=H1} a ok2 rfl (yM.to to.leaf)) ?_;rintro e a' w' ⟨rfl,σ2,q1,q2,q3,q4,q5⟩;exact⟨rfl,σ2,q1,q2,to.trans q3,q4,q5⟩
def ZEG(ops:yL Oper)(all:yL TD):Nat->Tmp->yO Nat
 |0,_=>none
 |n+1,x=>match ops.find? λo=>o.dst==some x with
  |some o=>match o.op with
   |.fieldAddr _ (.tmp y) _=>ZEG ops all n y
   |_=>none
  |none=>match all.getD x .junk with
   |.ref id _=>some id
   |_=>none
def ZKy(hi:HI)(ops:yL Oper)(all:yL TD)(o:Oper):yO Nat:=
 match o.op with
 |.slice _ (.tmp x) _ _ none=>if Zj3 hi.frz o.dst then ZEG ops all 4 x else none
 |_=>none
def Zp8(hi:HI)(ops:Array Oper)(all:yL TD)(H:yL TEnt):yL TEnt:=
 match hi.frz with
 |[]=>H
 |_=>match ops.toList.filterMap (ZKy hi ops.toList all) with
  |[]=>H
  |ids=>Zmw ids H
theorem ZCL(hi:HI)(ops:Array Oper)(all:yL TD)(H:yL TEnt):WkH (erH H) (erH (Zp8 hi ops all H))/\lk (Zp8 hi ops all H)=lk H:=by
 unfold Zp8;split
 ·exact⟨WkH.refl _,rfl⟩
 ·split
  ·exact⟨WkH.refl _,rfl⟩
  ·exact⟨ZCK _ _,Ztt _ _⟩
def ZJj(P:yg)(hi:HI)(specs:Sp P)(ops:Array Oper)(all:yL TD)(H:yL TEnt)(K:yL TD->yL TEnt->yO O):yO O:=
 if P.follows .mixedOrders then ZBi P hi specs ops ops.toList all (Zp8 hi ops all H) λa h rs _=>if ZBj ops (rs.map (·.cls)) (ZED rs) (ZBk rs)=true then K a h else none else none
theorem ZCM{hi:HI}{specs:Sp P}{ops:Array Oper}{K:yL TD->yL TEnt->yO O}(ok:SpOk specs)(h:ZJj P hi specs ops all H K=some out):∃a h,K a h=some out/\a.length=all.length/\∀id,XD P (.region id ops true) (TD.ers (lk H) all) (erH H) .normal (TD.ers (lk h) a) (erH h):=by
 unfold ZJj at h;split at h
 ·rename_i hf;obtain⟨w1,w2⟩:=ZCL hi ops all H;generalize Zp8 hi ops all H=H0 at h w1 w2;obtain⟨a,h',rs,hs,C,k1,k0,k2,k3⟩:=Zp5 ok _ _ _ _ h;obtain⟨k4,k5⟩:=Za k1;refine⟨a,h',k5,k0,λid=> ?_⟩;obtain⟨RS,e1,e2⟩:=k3 [];rw[<-w2];refine ZEF w1 (ZjQ (hs:=hs) (hs':=[]) (C:=C) ?_ k2);simp only[ev,if_true];unfold Zuc;rw[yW hf];rw[yar] at e1;rw[e1];dsimp only;rw[yW (ZHd e2 k4 (by have:=Zp6 e2;unfold ZBj at k4;simp only[yj] at k4;simpa using k4.1.1.1.1.1))];rfl
 ·cases h
theorem ZCN{hi:HI}{specs:Sp P}{ops:Array Oper}{K:yL TD->yL TEnt->yL Hint->yO O}(ok:SpOk specs)(h:ZEB P hi specs ops ops.toList all H K=some out):∃a h hs,K a h hs=some out/\a.length=all.length/\∀id,XD P (.region id ops false) (TD.ers (lk H) all) (erH H) .normal (TD.ers (lk h) a) (erH h):=by
 obtain⟨a,h',hs,C,k1,k0,k2,k3⟩:=Ztq ok _ _ _ _ h;refine⟨a,h',hs,k1,k0,λid=> ?_⟩;refine ZjQ (hs:=hs) (hs':=[]) (C:=C) ?_ k2;have:=k3 [];rw[yar] at this;simp only[ev,ybw,if_false,this];rfl
end
end Go.Ev
end
