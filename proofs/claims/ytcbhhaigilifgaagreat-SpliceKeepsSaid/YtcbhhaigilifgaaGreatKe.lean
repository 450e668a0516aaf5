/- Parts of the proof, in one file. -/
import Derived.Test.YtcbhhaigilifgaaGreatKd
open Option renaming some → ab, none → ad
open Bool renaming true → ae, false → af
open Decidable renaming decide → ag
open Bool renaming and_eq_true → yi, false_eq_true → yce, or_eq_true → yck
open Go renaming TypeId → yc, Program → yg, Value → yh, Oper → yj, Operand → yp, World → yr, FuncId → yw
open Go.Proofs.Tryz renaming prog → yb
open List renaming length_append → yl, range → yo, getElem?_eq_some_iff → yu, replicate → yx, nil_append → yz, getElem?_eq_getElem → yab, append_assoc → yac, length_map → yad, length_cons → yaf, cons_append → yag, map_cons → yah, getElem?_cons_succ → yak, all_eq_true → yal, getElem?_cons_zero → yam, getElem?_map → yao, getElem?_append_right → yaq, mem_cons_self → yau, mem_cons_of_mem → yav, map_append → yaw, map_map → ybd, getElem?_append_left → ybe, append_nil → ybf, mem_of_getElem? → ybk, map_set → ybn, ext_getElem? → ybq, map_congr_left → yci, getD_eq_getElem?_getD → ycx
open Nat renaming le_refl → ym, zero_add → yar, mod_eq_of_lt → yas, add_mul → yba, mul_comm → ybo, mul_le_mul_right → ycb
open Option renaming bind_some → ya, bind_eq_some_iff → yf, map_eq_some_iff → yv, map_some → yae
open Option.some renaming injEq → yn
open Prod.mk renaming injEq → yq
open UInt32 renaming ofNat → ych
open UInt64 renaming ofNat → yan, toNat_ofNat' → ybi, toNat_lt → ybv, le_iff_toNat_le → ycp, lt_iff_toNat_lt → ycs
set_option linter.unusedVariables false
set_option linter.unusedSimpArgs false
section
namespace Go.Ev
mutual
def TD.rn(f:Nat->yO Nat):TD->yO TD
 |.p x=>ab (.p x)
 |.elem x=>ab (.elem x)
 |.aj id h=>(f id).map λi=>.aj i h
 |.own id m t c=>(f id).map λi=>.own i m t c
 |.view id h s lo n=>(f id).map λi=>.view i h s lo n
 |.agg j=>(TD.bC f j).map .agg
 |.arr n s j=>(TD.bC f j).map (.arr n s)
 |.fn g l=>(TD.bC f l).map (.fn g)
 |.iface t x=>(TD.rn f x).map (.iface t)
 |.bp j=>(TD.bC f j).map .bp
 |.mp id=>(f id).map .mp
 |.rv id v s lo n=>(f id).map λi=>.rv i v s lo n
 |.aZ id v h=>(f id).map λi=>.aZ i v h
 |.rw id=>(f id).map .rw
 |.rp id h=>(f id).map λi=>.rp i h
 |.an=>ab .an
def TD.bC(f:Nat->yO Nat):yL TD->yO (yL TD)
 |[]=>ab []
 |x::r=>match TD.rn f x,TD.bC f r with
  |some y,ab g=>ab (y::g)
  |_,_=>ad
end
def ah.rn(f:Nat->yO Nat):ah->yO ah
 |.var d st=>(d.rn f).map λg=>.var g st
 |.row v s st e d=>(d.rn f).map λg=>.row v s st e g
 |.bL t l v st e j d h=>(d.rn f).map λg=>.bL t l v st e j g h
 |e=>ab e
def ah.bC(f:Nat->yO Nat):yL ah->yO (yL ah)
 |[]=>ab []
 |x::r=>match ah.rn f x,ah.bC f r with
  |some y,ab g=>ab (y::g)
  |_,_=>ad
def Rc(f:Nat->yO Nat)(L M:Lk):Prop:=∀id j t,f id=ab j->Yh L id t ad=Yh M j t ad
theorem ZIH{f:Nat->yO Nat}{L M:Lk}(h:Rc f L M){id j:Nat}(e:f id=ab j)(t:Ty)(c:yO (yL t.aU)):Yh L id t c=Yh M j t c:=by
 cases c with
 |none=>exact h id j t e
 |some _=>rfl
mutual
theorem jR{f:Nat->yO Nat}{L M:Lk}(h:Rc f L M):∀(d d':TD),d.rn f=ab d'->Dv.rn f (d.er L)=ab (d'.er M)
 |.p x,d',e=>by cases e;rfl
 |.elem x,d',e=>by cases e;rfl
 |.aj id m,d',e=>by
  obtain⟨i,j,rfl⟩:=Ze e
  simp only[TD.er,Dv.rn,j,yae]
 |.own id y t c,d',e=>by
  obtain⟨i,j,rfl⟩:=Ze e
  simp only[TD.er,Dv.rn,j,yae,ZIH h j]
 |.view id m s lo n,d',e=>by
  obtain⟨i,j,rfl⟩:=Ze e
  simp only[TD.er,Dv.rn,j,yae]
 |.agg l,d',e=>by
  obtain⟨i,j,rfl⟩:=Ze e
  simp only[TD.er,Dv.rn,dz h l i j,yae]
 |.arr n s l,d',e=>by
  obtain⟨i,j,rfl⟩:=Ze e
  simp only[TD.er,Dv.rn,dz h l i j,yae]
 |.fn g l,d',e=>by
  obtain⟨i,j,rfl⟩:=Ze e
  simp only[TD.er,Dv.rn,dz h l i j,yae]
 |.iface t x,d',e=>by
  obtain⟨i,j,rfl⟩:=Ze e
  simp only[TD.er,Dv.rn,jR h x i j,yae]
 |.bp l,d',e=>by
  obtain⟨i,j,rfl⟩:=Ze e
  simp only[TD.er,Dv.rn,dz h l i j,yae]
 |.mp id,d',e=>by
  obtain⟨i,j,rfl⟩:=Ze e
  simp only[TD.er,Dv.rn,j,yae]
 |.rv id v s lo n,d',e=>by
  obtain⟨i,j,rfl⟩:=Ze e
  simp only[TD.er,Dv.rn,j,yae]
 |.aZ id v m,d',e=>by
  obtain⟨i,j,rfl⟩:=Ze e
  simp only[TD.er,Dv.rn,j,yae]
 |.rw id,d',e=>by
  obtain⟨i,j,rfl⟩:=Ze e
  simp only[TD.er,Dv.rn,j,yae,eQ,h _ _ _ j]
 |.rp id m,d',e=>by
  obtain⟨i,j,rfl⟩:=Ze e
  simp only[TD.er,Dv.rn,j,yae,eQ,h _ _ _ j]
 |.an,d',e=>by cases e;rfl
theorem dz{f:Nat->yO Nat}{L M:Lk}(h:Rc f L M):∀(g es:yL TD),TD.bC f g=ab es->Dv.bC f (TD.aG L g)=ab (TD.aG M es)
 |[],es,e=>by cases e;rfl
 |x::r,es,e=>by
  simp only[TD.bC]at e;split at e
  .rename_i y j l m;cases e;simp only[TD.aG,Dv.bC,jR h x y l,dz h r j m]
  .cases e
end
theorem HM{α:Type}(f:Nat->yO Nat)(g:α->Pl):∀(l:yL α)(m:yL Dv),Dv.bC f ((l.map λx=>.p (g x))++m)=(Dv.bC f m).map λq=>(l.map λx=>.p (g x))++q
 |[],m=>by cases h:Dv.bC f m <;> simp[h]
 |x::l,m=>by
  rw[yah,yag,Dv.bC,Dv.rn,HM f g l m];cases Dv.bC f m <;> rfl
theorem ZII{α β:Type}{f:Nat->yO Nat}{g:α->Pl}{j:β->Pl}{l:yL α}{d d':Dv}{m:yL β}(h:Dv.rn f d=ab d'):
 Dv.bC f ((l.map λx=>.p (g x))++d::m.map λx=>.p (j x))=ab ((l.map λx=>.p (g x))++d'::m.map λx=>.p (j x)):=by
 have e:=HM f j m [];rw[ybf]at e;rw[HM,Dv.bC,h,e];simp[Dv.bC]
theorem ZFY{f:Nat->yO Nat}{L M:Lk}(h:Rc f L M){e j:ah}(k:e.rn f=ab j):aq.rn f (e.er L)=ab (j.er M):=by
 cases e with
 |var d st=>
  obtain⟨i,g,rfl⟩:=Ze k
  simp only[ah.er,aq.rn,jR h d i g,yae]
 |row v s st e d=>
  obtain⟨i,g,rfl⟩:=Ze k
  simp only[ah.er,aq.rn,jR h d i g,yae]
 |bL t y v st e m d l=>
  obtain⟨i,g,rfl⟩:=Ze k
  simp only[ah.er,aq.rn,Dv.rn,ZII (jR h d i g),yae]
 |_=>cases k;rfl
theorem ZCc{f:Nat->yO Nat}{L M:Lk}(h:Rc f L M):∀(g es:yL ah),ah.bC f g=ab es->aq.bC f (g.map (ah.er L))=ab (es.map (ah.er M))
 |[],es,e=>by cases e;rfl
 |x::r,es,e=>by
  simp only[ah.bC]at e;split at e
  .rename_i y j l m;cases e;simp only[yah,aq.bC,ZFY h l,ZCc h r j m]
  .cases e
theorem ZFZ{f:Nat->yO Nat}{e g:ah}(k:e.rn f=ab g):eR (ab g)=eR (ab e):=by
 cases e with
 |var d st=>obtain⟨i,h,rfl⟩:=Ze k;rfl
 |row v s st e d=>obtain⟨i,h,rfl⟩:=Ze k;rfl
 |bL t m v st e l d j=>obtain⟨i,h,rfl⟩:=Ze k;rfl
 |_=>cases k;rfl
theorem ZyH{f:Nat->yO Nat}:∀{g es:yL ah},ah.bC f g=ab es->es.length=g.length/\∀(j:Nat),eR (es[j]?)=eR (g[j]?)
 |[],es,e=>by cases e;exact⟨rfl,λ_=>rfl⟩
 |x::r,es,e=>by
  simp only[ah.bC]at e;split at e
  .rename_i y A h l;cases e;obtain⟨m,z⟩:=ZyH l;refine⟨by simp[m],λj=> ?_⟩
   cases j with
   |zero=>exact ZFZ h
   |succ j=>exact z j
  .cases e
def W5(H:yL ah)(all:yL Nat):yL Nat->yO (yL ah)
 |[]=>ab []
 |id::r=>match (H[id]?).bind (ah.rn (bc all)),W5 H all r with
  |some e,ab f=>ab (e::f)
  |_,_=>ad
theorem HN{H:yL ah}{all:yL Nat}:∀{ids:yL Nat}{Hin:yL ah},W5 H all ids=ab Hin->Hin.length=ids.length/\∀(j id:Nat),ids[j]? =ab id->id < H.length/\eR (Hin[j]?)=eR (H[id]?)
 |[],Hin,h=>by cases h;exact⟨rfl,λj id e=>by simp at e⟩
 |i::r,Hin,h=>by
  simp only[W5]at h;split at h
  .rename_i e E l m;cases h;obtain⟨y,z⟩:=HN m;obtain⟨F,f,A⟩:=yf.1 l;refine⟨by simp[y],λj id g=> ?_⟩
   cases j with
   |zero=>
    cases g
    exact⟨(yu.1 f).1,by rw[f];exact ZFZ A⟩
   |succ j=>exact z j id g
  .cases h
theorem Qq{H:yL ah}{all:yL Nat}{M:Lk}(h:Rc (bc all) (lk H) M):∀{ids:yL Nat}{Hin:yL ah},W5 H all ids=ab Hin->aP (aJ H) all ids=ab (Hin.map (ah.er M))
 |[],Hin,e=>by cases e;rfl
 |i::r,Hin,e=>by
  simp only[W5]at e;split at e
  .rename_i m y f g;cases e;obtain⟨z,j,l⟩:=yf.1 f;simp only[aP,Z9 j,ya,ZFY h l,Qq h g,yah]
  .cases e
mutual
def TD.lay(L:Lk)(S:yL Nat):TD->TD
 |.own id j t c=>if S.contains id then .own id j t (ab (Yh L id t c)) else .own id j t c
 |.agg h=>.agg (TD.lays L S h)
 |.arr m s h=>.arr m s (TD.lays L S h)
 |.fn f h=>.fn f (TD.lays L S h)
 |.iface t x=>.iface t (TD.lay L S x)
 |.bp h=>.bp (TD.lays L S h)
 |.p x=>.p x
 |.elem x=>.elem x
 |.aj id g=>.aj id g
 |.view id g s lo n=>.view id g s lo n
 |.mp id=>.mp id
 |.rv id v s lo n=>.rv id v s lo n
 |.aZ id v g=>.aZ id v g
 |.rw id=>if S.contains id then .rv id (eQ L id 0) (eQ L id 1) 0 (eQ L id 2) else .rw id
 |.rp id g=>if S.contains id then .aZ id (eQ L id 0) g else .rp id g
 |.an=>.an
def TD.lays(L:Lk)(S:yL Nat):yL TD->yL TD
 |[]=>[]
 |x::r=>TD.lay L S x::TD.lays L S r
end
mutual
def TD.under(n:Nat):TD->Bool
 |.own id _ _ c=>c.isSome || decide (id < n)
 |.rw id=>ag (id < n)
 |.rp id _=>ag (id < n)
 |.agg f=>TD.dN n f
 |.arr _ _ f=>TD.dN n f
 |.fn _ f=>TD.dN n f
 |.iface _ x=>TD.under n x
 |.bp f=>TD.dN n f
 |_=>ae
def TD.dN(n:Nat):yL TD->Bool
 |[]=>ae
 |x::r=>TD.under n x&&TD.dN n r
end
def ah.lay(L:Lk)(S:yL Nat):ah->ah
 |.var d st=>.var (d.lay L S) st
 |.row v s st e d=>.row v s st e (d.lay L S)
 |.bL t h v st e g d f=>.bL t h v st e g (d.lay L S) f
 |e=>e
def ah.under(n:Nat):ah->Bool
 |.var d _=>d.under n
 |.row _ _ _ _ d=>d.under n
 |.bL _ _ _ _ _ _ d _=>d.under n
 |_=>ae
def Lo(S:yL Nat)(n:Nat)(L M:Lk):Prop:=∀id t,S.contains id=af->id < n->Yh L id t ad=Yh M id t ad
mutual
theorem sv{L M:Lk}{S:yL Nat}{n:Nat}(h:Lo S n L M):∀(d:TD),d.under n=ae->(d.lay L S).er M=d.er L
 |.p _,_=>rfl
 |.elem _,_=>rfl
 |.aj _ _,_=>rfl
 |.own id l t c,f=>by
  rw[TD.lay];split
  .rfl
  .rename_i j
   cases c with
   |none=>
    have:id < n:=by simpa[TD.under] using f
    rw[TD.er,TD.er,h id t (by simpa using j) this]
   |some _=>rfl
 |.view _ _ _ _ _,_=>rfl
 |.agg g,f=>by rw[TD.lay,TD.er,TD.er,dQ h g f]
 |.arr _ _ g,f=>by rw[TD.lay,TD.er,TD.er,dQ h g f]
 |.fn _ g,f=>by rw[TD.lay,TD.er,TD.er,dQ h g f]
 |.iface _ x,f=>by rw[TD.lay,TD.er,TD.er,sv h x f]
 |.bp g,f=>by rw[TD.lay,TD.er,TD.er,dQ h g f]
 |.mp _,_=>rfl
 |.rv _ _ _ _ _,_=>rfl
 |.aZ _ _ _,_=>rfl
 |.rw id,f=>by
  rw[TD.lay];split
  .rfl
  .rename_i j;have:id < n:=by simpa[TD.under] using f
   simp only[TD.er,eQ,h id _ (by simpa using j) this]
 |.rp id _,f=>by
  rw[TD.lay];split
  .rfl
  .rename_i j;have:id < n:=by simpa[TD.under] using f
   simp only[TD.er,eQ,h id _ (by simpa using j) this]
 |.an,_=>rfl
theorem dQ{L M:Lk}{S:yL Nat}{n:Nat}(h:Lo S n L M):∀(f:yL TD),TD.dN n f=ae->TD.aG M (TD.lays L S f)=TD.aG L f
 |[],_=>rfl
 |x::r,g=>by
  simp only[TD.dN,yi]at g;rw[TD.lays,TD.aG,TD.aG,sv h x g.1,dQ h r g.2]
end
theorem ZyI{L:Lk}{S:yL Nat}:∀(l:yL TD),(TD.lays L S l).length=l.length
 |[]=>rfl
 |_::r=>by rw[TD.lays,yaf,yaf,ZyI r]
theorem ZIJ{L M:Lk}{S:yL Nat}{n:Nat}(h:Lo S n L M){e:ah}(f:e.under n=ae):(e.lay L S).er M=e.er L:=by
 cases e with
 |var d st=>rw[ah.lay,ah.er,ah.er,sv h d f]
 |row v s st e d=>rw[ah.lay,ah.er,ah.er,sv h d f]
 |bL t l v st e j d g=>rw[ah.lay,ah.er,ah.er,sv h d f]
 |_=>rfl
theorem ZIK{L:Lk}{S:yL Nat}(e:yO ah):eR (e.map (ah.lay L S))=eR e:=by
 cases e with
 |none=>rfl
 |some e=>cases e <;> rfl
theorem Zpp{α β:Type}(f:α->β):∀(ids:yL Nat)(A B:yL α),(aA A ids B).map f=aA (A.map f) ids (B.map f)
 |[],A,B=>by simp[aA]
 |id::r,A,[]=>by simp[aA]
 |id::r,A,b::B=>by simp only[aA,yah];rw[Zpp f r,ybn]
def TD.cr(L:Lk)(ids:yL Nat):TD->TD
 |.own id g t c=>if ids.contains id then .own id g t c else .p (.sl g t (Yh L id t c))
 |.agg f=>if TD.dI ids f then .agg f else TD.dJ L f
 |d=>d
theorem HO{L:Lk}{ids:yL Nat}(d:TD):(d.cr L ids).er L=Dv.cr ids (d.er L):=by
 cases d with
 |own id f t c=>
  rw[TD.cr,TD.er,Dv.cr]
  split <;> rfl
 |p _=>rfl
 |elem _=>rfl
 |aj _ _=>rfl
 |view _ _ _ _ _=>rfl
 |agg g=>
  rw[TD.cr,TD.er,Dv.cr,fF];split
  .rw[TD.er]
  .exact ZBX _
 |arr _ _ _=>rfl
 |fn _ _=>rfl
 |iface _ _=>rfl
 |bp _=>rfl
 |mp _=>rfl
 |rv _ _ _ _ _=>rfl
 |aZ _ _ _=>rfl
 |rw _=>rfl
 |rp _ _=>rfl
 |an=>rfl
def oh(P:yg)(ts:yL TD):yL yp->yL yc->yO (yL TD)
 |[],_=>ab []
 |_,[]=>ab []
 |x::r,t::q=>match bq P ts t x,oh P ts r q with
  |some a,ab b=>ab (a::b)
  |_,_=>ad
theorem wu{P:yg}{ts:yL TD}{L:Lk}(ids:yL Nat):∀{l:yL yp}{ty:yL yc}{f:yL TD},oh P ts l ty=ab f->
 ((l.zip ty).map λq=>(aF P (TD.aG L ts) q.2 q.1).cr ids)=TD.aG L (f.map (TD.cr L ids))
 |[],ty,f,h=>by cases h;rfl
 |x::r,[],f,h=>by cases h;rfl
 |x::r,t::q,f,h=>by
  simp only[oh]at h;split at h
  .rename_i a b g j;cases h;simp only[List.zip_cons_cons,yah,TD.aG,Zu (L:=L) g,HO,wu ids j]
  .cases h
theorem ZCd{L:Lk}(ids:yL Nat)(f:yL TD):(TD.aG L f).map (Dv.cr ids)=TD.aG L (f.map (TD.cr L ids)):=by
 rw[ZO,ZO,ybd,ybd];exact yci λx _=>(HO x).symm
structure Fs(P:yg)where
 g:yw
 ps:List Sh
 es:List bG
 ins:List Ty
 xs:List cw
 M:Ty.aO ins->Option (cw.sum xs)
def Fs.Ok{P:yg}(s:Fs P):Prop:=
 ∀x o,s.M x=ab o->∃f R H,Sh.fills s.ps (dD s.ins x)=ab (f,R)/\bG.fills s.es R=ab (H,[])/\
  ∀e vs h,og s.xs o e vs->V6 1 e.sl e.es vs=ab h->∃r,h.1=[r]/\ce P s.g (TD.aG (lk H) f) (aJ H) (r.er (lk h.2)) (aJ h.2)
def dC{P:yg}:yL (Fs P)->Prop
 |[]=>True
 |s::r=>s.Ok/\dC r
mutual
def Sh.ids:Sh->TD->yL (Nat×Nat)
 |.own j _,d=>match d with
  |.own id _ _ ad=>[(j,id)]
  |_=>[]
 |.aj j _,d=>match d with
  |.aj id _=>[(j,id)]
  |_=>[]
 |.mp j,d=>match d with
  |.mp id=>[(j,id)]
  |_=>[]
 |.rw j,d=>match d with
  |.rw id=>[(j,id)]
  |_=>[]
 |.rp j _ _,d=>match d with
  |.rp id _=>[(j,id)]
  |_=>[]
 |.view j _ _ _ _,d=>match d with
  |.view id _ _ _ _=>[(j,id)]
  |_=>[]
 |.rv j _ _ _ _,d=>match d with
  |.rv id _ _ _ _=>[(j,id)]
  |_=>[]
 |.fn _ l,d=>match d with
  |.fn _ f=>Sh.ia l f
  |_=>[]
 |.agg l,d=>match d with
  |.agg f=>Sh.ia l f
  |_=>[]
 |.arr _ _ l,d=>match d with
  |.arr _ _ f=>Sh.ia l f
  |_=>[]
 |.bp l,d=>match d with
  |.bp f=>Sh.ia l f
  |_=>[]
 |.iface _ x,d=>match d with
  |.iface _ y=>Sh.ids x y
  |_=>[]
 |_,_=>[]
def Sh.ia:yL Sh->yL TD->yL (Nat×Nat)
 |[],_=>[]
 |s::r,f=>match f with
  |d::q=>Sh.ids s d++Sh.ia r q
  |[]=>[]
end
def HP(H:yL ah):yL bG->Nat->yL (Nat×Nat)->yL (Nat×Nat)
 |[],_,l=>l
 |e::r,j,l=>HP H r (j+1) (match e,(l.lookup j).bind λid=>H[id]? with
  |.var s _,ab (.var d _)=>l++Sh.ids s d
  |.oe _ _ _ _ _ sl,ab (.row _ _ _ _ (.arr _ _ f))=>l++Sh.ia sl f
  |_,_=>l)
def ZF0(H:yL ah):yO Nat:=(yo H.length).reverse.find? λi=>match H[i]? with
 |some .gone=>ae
 |_=>af
def ZMv(H:yL ah)(f:yL Sh)(es:yL bG)(g:yL TD):yO (yL Nat):=
 match f,es with
 |[],[.gone]=>(ZF0 H).map λi=>[i]
 |_,_=>
  let l:=HP H es 0 (Sh.ia f g)
  (yo es.length).mapM λj=>l.lookup j
def wv{P:yg}(s:Fs P)(H:yL ah)(args:yL TD)(ids:yL Nat):yO (Ty.aO s.ins):=
 if once ids then(TD.bC (bc ids) (args.map (TD.cr (lk H) ids))).bind λf=>(W5 H ids ids).bind λHin=>
  (Sh.eU (lk Hin) s.ps f).bind λq=>(bG.eU (lk Hin) s.es Hin).bind λw=>jQ s.ins (q.2++w.2)
 else ad
theorem iw{H Hin:yL ah}{ids:yL Nat}(h:W5 H ids ids=ab Hin):Rc (bc ids) (lk H) (lk Hin):=by
 intro id j t e;obtain⟨l,f⟩:=HN h;have g:=cB e;have:=(f j id g).2;unfold Yh lk;grind
theorem ZIL{P:yg}{s:Fs P}{H:yL ah}{args:yL TD}{ids:yL Nat}{x:Ty.aO s.ins}(h:wv s H args ids=ab x):
 once ids=ae/\∃Hin a2 j H3 R,W5 H ids ids=ab Hin/\aP (aJ H) ids ids=ab (aJ Hin)/\Dv.bC (bc ids) (TD.aG (lk H) (args.map (TD.cr (lk H) ids)))=ab (TD.aG (lk Hin) a2)/\
  Sh.fills s.ps (dD s.ins x)=ab (j,R)/\bG.fills s.es R=ab (H3,[])/\cR (TD.aG (lk Hin) a2) (TD.aG (lk H3) j)/\bZ (aJ Hin) (aJ H3):=by
 unfold wv at h;split at h
 .rename_i y;obtain⟨a2,z,h⟩:=yf.1 h;obtain⟨Hin,f,h⟩:=yf.1 h;obtain⟨q,l,h⟩:=yf.1 h;obtain⟨w,g,h⟩:=yf.1 h;obtain⟨E,A⟩:=so g;have e:=mK _ _ _ h;have m:∀id t,Yh (lk Hin) id t ad=Yh (lk w.1) id t ad:=λid t=>by rw[A]
  refine⟨y,Hin,a2,q.1,w.1,w.2,f,Qq (iw f) f,dz (iw f) _ _ z, ?_, ?_,dh m _ _ _ l,sq m g⟩
  .rw[e];exact bN _ _ _ l _
  .have:=sn g [];grind
 .cases h
section
variable{P:yg}{o:yj}{ts all:yL TD}{H:yL ah}{O:Type}{K:Kn O}{out:O}
def ww(all:yL TD)(H:yL ah)(K:Kn O)(ids:yL Nat)(r:TD)(Hn:yL ah):yO O:=
 if(ids.isEmpty&&Hn.isEmpty)=ae then(r.rn λ_=>ad).bind λf=>K all f H [.call (r.er (lk [])) [] []] 0 else
 (r.rn (aV ids H.length)).bind λf=>(ah.bC (aV ids H.length) Hn).bind λHb=>
   if(ag (ids.length<=Hn.length)&&TD.dN H.length all&&H.all (ah.under H.length))=ae then
    K (TD.lays (lk H) ids all) f (aA (H.map (ah.lay (lk H) ids)) ids Hb) [.call (r.er (lk Hn)) (aJ Hn) ids] 2
   else ad
def HQ(s:Fs P)(all:yL TD)(H:yL ah)(K:Kn O)(args:yL TD)(ids:yL Nat)(x:Ty.aO s.ins):yO O:=
 (s.M x).bind λy=>xT 1 s.xs y λ_ rs Hn=>match rs with
   |[r]=>ww all H K ids r Hn
   |_=>ad
def sw(g:yw)(all:yL TD)(H:yL ah)(K:Kn O)(args:yL TD)(f:yO O):yL (Fs P)->yO O
 |[]=>f
 |s::h=>if s.g=g then match (ZMv H s.ps s.es args).bind λids=>(wv s H args ids).map λx=>(ids,x) with
   |some q=>HQ s all H K args q.1 q.2
   |none=>sw g all H K args f h
  else sw g all H K args f h
structure Rs(P:yg)where
 g:yw
 ps:List Sh
 es:List bG
 ins:List Ty
 r:Sh
 t:List Ty
 M:Ty.aO ins->Option (Ty.aO t)
def Rs.Ok{P:yg}(s:Rs P):Prop:=
 ∀x o,s.M x=ab o->∃f R H,Sh.fills s.ps (dD s.ins x)=ab (f,R)/\bG.fills s.es R=ab (H,[])/\
  ∀q,Sh.fill s.r (dD s.t o)=ab q->ce P s.g (TD.aG (lk H) f) (aJ H) (q.1.er (lk H)) (aJ H)
def mL{P:yg}:yL (Rs P)->Prop
 |[]=>True
 |s::r=>s.Ok/\mL r
structure Sp(P:yg)where
 l:List (Fs P):=[]
 hd:(O:Type)->yw->List TD->List ah->(TD->List ah->Option O)->Option O:=λ_ _ _ _ _=>ad
 mt:List (yc×String×yw):=[]
 ro:List (Rs P):=[]
def oi(P:yg)(hd:(O:Type)->yw->yL TD->yL ah->(TD->yL ah->yO O)->yO O):Prop:=
 ∀(O:Type)(g:yw)(f:yL TD)(H:yL ah)(K:TD->yL ah->yO O)(out:O),hd O g f H K=ab out->
  ∃r H',K r H'=ab out/\ce P g (TD.aG (lk H) f) (aJ H) (r.er (lk H')) (aJ H')
def ib(P:yg):yL (yc×String×yw)->Prop
 |[]=>True
 |q::r=>oQ P q.1 q.2.1 q.2.2/\ib P r
def sx:yL (yc×String×yw)->yc->String->yO yw
 |[],_,_=>ad
 |q::r,t,n=>if q.1=t then if q.2.1=n then ab q.2.2 else sx r t n else sx r t n
theorem HR:∀{l:yL (yc×String×yw)}{t:yc}{n:String}{g:yw},ib P l->sx l t n=ab g->oQ P t n g
 |[],_,_,_,_,h=>by cases h
 |q::r,t,n,g,f,h=>by
  unfold sx at h;split at h
  .rename_i j;split at h
   .rename_i m;cases h;rw[<-j, <-m];exact f.1
   .exact HR f.2 h
  .exact HR f.2 h
structure eL(s:Sp P):Prop where
 l:dC s.l
 hd:oi P s.hd
 mt:ib P s.mt
 ro:mL s.ro
theorem ZIN:oi P (λ_ _ _ _ _=>ad):=λ_ _ _ _ _ _ h=>by cases h
theorem oj{l:yL (Fs P)}(h:dC l):eL ({ l:=l}:Sp P):=⟨h,ZIN,zP,aw⟩
mutual
def TD.look:TD->yL Nat
 |.aj id _=>[id]
 |.own id _ _ _=>[id]
 |.view id _ _ _ _=>[id]
 |.mp id=>[id]
 |.rv id _ _ _ _=>[id]
 |.aZ id _ _=>[id]
 |.rw id=>[id]
 |.rp id _=>[id]
 |.agg f=>TD.looks f
 |.arr _ _ f=>TD.looks f
 |.fn _ f=>TD.looks f
 |.iface _ x=>TD.look x
 |.bp f=>TD.looks f
 |_=>[]
def TD.looks:yL TD->yL Nat
 |[]=>[]
 |x::r=>TD.look x++TD.looks r
end
def ah.look:ah->yL Nat
 |.var d _=>d.look
 |.row _ _ _ _ d=>d.look
 |.bL _ _ _ _ _ _ d _=>d.look
 |_=>[]
def sy(h:yL ah):Nat->yL Nat->yL Nat->yL Nat
 |0,_,f=>f
 |_+1,[],f=>f
 |k+1,id::r,f=>if f.contains id then sy h k r f else sy h k (((h[id]?).map ah.look).getD []++r) (id::f)
def HT(sp:Sp P)(g:yw)(all:yL TD)(H:yL ah)(K:Kn O)(args:yL TD):yO O:=
 let ids:=sy H 100000 (TD.looks args) []
 if once ids then(TD.bC (bc ids) (args.map (TD.cr (lk H) ids))).bind λf=>(W5 H ids ids).bind λHin=>
  sp.hd O g f Hin λr Hn=>ww all H K ids r Hn
 else ad
def HU(sp:Sp P)(g:yw)(all:yL TD)(H:yL ah)(K:Kn O)(args:yL TD):yO O:=sw g all H K args (HT sp g all H K args) sp.l
structure eB(P:yg)(g:yw)(all args:List TD)(H:List ah)(a':List TD)(d:TD)(H':List ah)(hs:List ao)(bP:Nat):Prop where
 same:TD.aG (lk H') a'=TD.aG (lk H) all
 len:a'.length=all.length
 op:∃(ids:List Nat)(Hin Hn Hb:List aq)(az:List Dv)(r:Dv),once ids=ae/\ids.length<=Hn.length/\aP (aJ H) ids ids=ab Hin/\
  Dv.bC (bc ids) (TD.aG (lk H) (args.map (TD.cr (lk H) ids)))=ab az/\ce P g az Hin r Hn/\r.rn (aV ids H.length)=ab (d.er (lk H'))/\aq.bC (aV ids H.length) Hn=ab Hb/\
  aJ H'=aA (aJ H) ids Hb/\hs=[.call r Hn ids]/\(bP=2/\¬(ids=[]/\Hn=[])\/(bP=3/\aJ H'=aJ H/\¬(ids=[]/\Hn=[]))\/bP=0/\ids=[]/\Hn=[]/\H'=H/\a'=all/\r=d.er (lk H')/\r.rn (λ_=>ad)=ab r)
theorem ZAW(n:Nat):once (yo n)=ae:=by
 have f:∀(l:yL Nat),l.Nodup->once l=ae:=by
  intro l
  induction l with
  |nil=>intro _;rfl
  |cons x r g=>
   intro h;rw[List.nodup_cons]at h;simp only[once,yi,Bool.not_eq_true',g h.2,and_true];simpa using h.1
 grind
theorem ZuK{g:yw}{args:yL TD}{ids:yL Nat}{Hin:yL ah}{az:yL Dv}{A:TD}{Hn:yL ah}(l:once ids=ae)(p1:W5 H ids ids=ab Hin)(p2:aP (aJ H) ids ids=ab (aJ Hin))
 (p3:Dv.bC (bc ids) (TD.aG (lk H) (args.map (TD.cr (lk H) ids)))=ab az) (m:ce P g az (aJ Hin) (A.er (lk Hn)) (aJ Hn)) (h:ww all H K ids A Hn=ab out):
 ∃a d H' hs c,K a d H' hs c=ab out/\eB P g all args H a d H' hs c:=by
 unfold ww at h;split at h
 .rename_i y;rw[yi]at y;have i1:ids=[]:=by simpa using y.1
  have Q:Hn=[]:=by simpa using y.2
  subst i1;subst Q;obtain⟨Y,z,h⟩:=yf.1 h;have f1:=jR (L:=lk []) (M:=lk H) (λid j t e=>by cases e) _ _ z;have f2:=qV (f:=λ_=>ad) _ _ f1;have f3:A.er (lk [])=Y.er (lk H):=Option.some.inj (f2.symm.trans f1);have E:Hin=[]:=by cases p1;rfl
  subst E;refine⟨_,_,_,_,_,h,rfl,rfl,[],[],[],[],az,A.er (lk []),rfl,ym _,rfl,p3,m, ?_,rfl, ?_,rfl,.inr (.inr ⟨rfl,rfl,rfl,rfl,rfl,f3,f2⟩)⟩
  .rw[<-f3];exact qV _ _ f1
  .rw[TZ]
 rename_i R;obtain⟨Y,z,h⟩:=yf.1 h;obtain⟨Hb,F,h⟩:=yf.1 h;obtain⟨Z,h⟩:=Za h;simp only[yi,yP]at Z;obtain⟨⟨J,k2⟩,k3⟩:=Z;obtain⟨S,b2⟩:=ZyH F;obtain⟨s1,s2⟩:=HN p1
 have T:∀i,i∈ids->i < H.length:=λi U=>by
  obtain⟨j,hj⟩:=List.getElem?_of_mem U;grind
 have G:Lo ids H.length (lk H) (lk (aA (H.map (ah.lay (lk H) ids)) ids Hb)):=by
  intro id t W hl;unfold Yh lk;dsimp only
  rw[qS _ _ _ id (by rw[S];exact J) (by rw[yad];exact hl) (λhm=>by
   rw[List.contains_eq_any_beq]at W;simp at W;exact W id hm rfl),yao,ZIK]
 have I:Rc (aV ids H.length) (lk Hn) (lk (aA (H.map (ah.lay (lk H) ids)) ids Hb)):=by
  intro j i t e
  have X:lk (aA (H.map (ah.lay (lk H) ids)) ids Hb) i=lk Hn j:=by
   show eR ((aA (H.map (ah.lay (lk H) ids)) ids Hb)[i]?)=eR (Hn[j]?);rw[<-b2 j];unfold aV at e;split at e
   .rw[va _ _ _ j i l (by rw[S];exact J) (λi U=>by rw[yad];exact T i U) e]
   .rename_i hj;cases e;have:=ve (H.map (ah.lay (lk H) ids)) ids Hb j (by rw[S];exact J) (by omega);grind
  unfold Yh;rw[X]
 have e2:(aA (H.map (ah.lay (lk H) ids)) ids Hb).map (ah.er (lk (aA (H.map (ah.lay (lk H) ids)) ids Hb)))=aA (aJ H) ids (Hb.map (ah.er (lk (aA (H.map (ah.lay (lk H) ids)) ids Hb)))):=by
  rw[Zpp,ybd];congr 1;refine yci λe he=> ?_;exact ZIJ G (yal.1 k3 e he)
 have f1:=jR I _ _ z;have f2:=ZCc I _ _ F;refine⟨_,_,_,_,_,h,dQ G all k2,ZyI all,ids,aJ Hin,aJ Hn,_,az,A.er (lk Hn),l,by rw[Z2];exact J,p2,p3,m,f1,f2,e2,rfl,.inl ⟨rfl,λhh=>R ?_⟩⟩;have Q:Hn=[]:=by have:=hh.2;unfold aJ at this;simpa using this
 rw[Q,hh.1];rfl
theorem ZtE{args:yL TD}{s:Fs P}{ids:yL Nat}{x:Ty.aO s.ins}(ok:s.Ok)(hp:wv s H args ids=ab x)(h:HQ s all H K args ids x=ab out):
 ∃a d H' hs c,K a d H' hs c=ab out/\eB P s.g all args H a d H' hs c:=by
 unfold HQ at h;obtain⟨y,J,E⟩:=yf.1 h;obtain⟨e,vs,F,l,z,m⟩:=wt E;clear E h;obtain⟨j,Hin,Y,Z,H3,R,M,Q,S,T,U,W,X⟩:=ZIL hp;obtain⟨args,R1,H4,G,I,f⟩:=ok x y J;obtain⟨r4,A,f⟩:=f e vs F l z;rw[A]at m;dsimp only at m;rw[T]at G;cases G;rw[U]at I;cases I;generalize F.2=Hn at m f;exact ZuK j M Q S (ZIe f W X) m
theorem HV{Q:yL TD->TD->yL ah->yL ao->Nat->Prop}{g:yw}{args:yL TD}{m:yO O}(y:∀{a d H' hs c},eB P g all args H a d H' hs c->Q a d H' hs c)(ho:m=ab out->∃a d H' hs c,K a d H' hs c=ab out/\Q a d H' hs c):∀{l:yL (Fs P)},dC l->sw g all H K args m l=ab out->
 ∃a d H' hs c,K a d H' hs c=ab out/\Q a d H' hs c
 |[],_,h=>ho h
 |s::r,f,h=>by
  unfold sw at h;split at h
  .rename_i A;split at h
   .rename_i q j;obtain⟨ids,E,j⟩:=yf.1 j;obtain⟨x,z,rfl⟩:=Ze j;obtain⟨a,d,H',hs,c,F,G⟩:=ZtE f.1 z h;grind
   .exact HV y ho f.2 h
  .exact HV y ho f.2 h
theorem ZF3{sp:Sp P}{g:yw}{args:yL TD}(ok:eL sp)(h:HT sp g all H K args=ab out):∃a d H' hs c,K a d H' hs c=ab out/\eB P g all args H a d H' hs c:=by
 unfold HT at h;dsimp only at h;generalize sy H 100000 (TD.looks args) []=ids at h;obtain⟨j,h⟩:=Za h;obtain⟨z,l,h⟩:=yf.1 h;obtain⟨Hin,f,h⟩:=yf.1 h;obtain⟨r,Hn,m,y⟩:=ok.hd _ _ _ _ _ _ h;exact ZuK j f (Qq (iw f) f) (dz (iw f) _ _ l) y m
theorem ZyL{sp:Sp P}{g:yw}{args:yL TD}(ok:eL sp)(h:HU sp g all H K args=ab out):∃a d H' hs c,K a d H' hs c=ab out/\eB P g all args H a d H' hs c:=
 HV (λh=>h) (λh=>ZF3 ok h) ok.l h
theorem ZDI{c:Call}{f:yp}{g:yw}{cap az:yL TD}{a:yL TD}{d:TD}{H':yL ah}{hs:yL ao}{M:Nat}(ho:o.op=.call c)(hc:c.callee=.value f)(U:bq P ts 0 f=ab (.fn g cap))
 (hb:(iL P (fV g)&&c.args.size==c.argTypes.size)=ae) (ha:oh P ts c.args.toList c.argTypes.toList=ab az) (h:eB P (fV g) all (if g < big then az++cap else cap++az) H a d H' hs M):Good P o ts all H a d H' hs M:=by
 have m:=Zu (L:=lk H) U;obtain⟨ids,Hin,Hn,Hb,A,r,y,E,Q,R,l,f1,f2,z,rfl,F⟩:=h.op
 have S:YR P ids (TD.aG (lk H) ts) c g (TD.aG (lk H) cap)=TD.aG (lk H) ((if g < big then az++cap else cap++az).map (TD.cr (lk H) ids)):=by
  unfold YR;split
  .rw[wu ids ha,ZCd,yaw,ZO,ZO,ZO,yaw]
  .rw[wu ids ha,ZCd,yaw,ZO,ZO,ZO,yaw]
 have T:¬(ids=[]/\Hn=[])->jM P o ts H d H' [.call r Hn ids]:=λj=>by
  refine⟨λG=> ?_,λG=> ?_,[ce P (fV g) A Hin r Hn],⟨l,aw⟩,λG=> ?_⟩
  .unfold bj;rw[ho];dsimp only;rw[hc];dsimp only;rw[m];dsimp only[TD.er];rw[yag,yz];split
   .rename_i W z;exfalso;simp only[List.cons.injEq,ao.call.injEq]at z;exact j ⟨z.1.2.2,z.1.2.1⟩
   .rename_i z;cases z
   .rfl
  .unfold bH;rw[ho];dsimp only;rw[hc]
  .unfold cX;rw[ho];dsimp only;rw[hc];dsimp only;rw[m];dsimp only[TD.er];rw[yag,yz];dsimp only;rw[yW (by simp only[yi,yP]at hb ⊢;exact⟨⟨hb,y⟩,E⟩)];rw[S,R,Q,Z2,f1,f2];dsimp only;rw[z]
 rcases F with⟨rfl,j⟩|⟨rfl,I,j⟩|⟨rfl,rfl,rfl,rfl,rfl,rfl,J⟩
 .exact⟨h.same,h.len,dY ⟨rfl,T j⟩⟩
 .exact⟨h.same,h.len,.inr (.inr (.inr ⟨rfl,I,T j⟩))⟩
 .refine⟨h.same,h.len,.inl ⟨rfl,rfl,[ce P (fV g) A [] (d.er (lk H')) []],⟨?_,aw⟩,λG=> ?_⟩⟩
  .cases Q;exact l
  .unfold bj;rw[ho];dsimp only;rw[hc];dsimp only;rw[m];dsimp only[TD.er];rw[yag,yz];dsimp only;rw[yW hb,S, <-qU,R,qU,J]
theorem ZDJ{c:Call}{j:yp}{f:String}{t:yc}{x:TD}{g:yw}{az:yL TD}{a:yL TD}{d:TD}{H':yL ah}{hs:yL ao}{F:Nat}(ho:o.op=.call c)(hc:c.callee=.invoke j f)(G:bq P ts 0 j=ab (.iface t x))
 (hm:oQ P t f g) (hb:(iL P g&&c.args.size==c.argTypes.size)=ae) (ha:oh P ts c.args.toList c.argTypes.toList=ab az) (h:eB P g all (x::az) H a d H' hs F):Good P o ts all H a d H' (.iI g::hs) 2:=by
 have y:=Zu (L:=lk H) G;obtain⟨ids,Hin,Hn,Hb,z,r,l,A,I,J,m,f1,f2,R,rfl,M⟩:=h.op
 have Q:(x.er (lk H)).cr ids::YR P ids (TD.aG (lk H) ts) c 0 []=TD.aG (lk H) ((x::az).map (TD.cr (lk H) ids)):=by
  unfold YR;rw[yW (by decide),wu ids ha,List.map_nil,ybf,yah,TD.aG,HO]
 refine⟨h.same,h.len,dY (⟨rfl,λE=> ?_,λE=> ?_,[oQ P t f g,ce P g z Hin r Hn],⟨hm,m,aw⟩,λE=> ?_⟩)⟩
 .unfold bj;grind
 .unfold bH;grind
 .unfold cX;rw[ho];dsimp only;rw[hc];dsimp only;rw[y];dsimp only[TD.er];rw[yag,yag,yz];dsimp only;rw[yW (by simp only[yi,yP]at hb ⊢;exact⟨⟨hb,l⟩,A⟩)];rw[Q,J,I,Z2,f1,f2];grind
end
end Go.Ev
end
section
namespace Go.Ev
section
variable{P:yg}{o:yj}{ts all:yL TD}{H:yL ah}{O:Type}{K:Kn O}{out:O}
def TD.om:TD->Bool
 |.view _ _ _ _ _=>ae
 |_=>af
def TD.fx:TD->Bool
 |.p (.sl (ab af) _ [])=>ae
 |_=>af
def TD.sA:TD->Bool
 |.aj _ _=>ae
 |_=>af
def TD.oo:TD->Bool
 |.aZ _ _ _=>ae
 |_=>af
def TD.sB:TD->Bool
 |.rv _ _ _ _ _=>ae
 |_=>af
def ZIO(a:TD)(lo hi:yO Int):Bool:=
 match a with
 |.rv _ _ _ _ n=> !dX n lo hi
 |_=>af
def TD.sC:TD->Bool
 |.own _ _ _ _=>ae
 |_=>af
def TD.HW:TD->Bool
 |.mp _=>ae
 |_=>af
def iP(l:yL Tmp):yO Tmp->Bool
 |some t=>l.contains t
 |none=>af
def iQ(P:yg)(o:yj)(ts all:yL TD)(H:yL ah)(K:Kn O):yO O:=FC (lk H) P o ts λd hs=>K all d H hs 0
theorem XW(h:iQ P o ts all H K=ab out):∃a d H' hs c,K a d H' hs c=ab out/\Good P o ts all H a d H' hs c:=by
 obtain⟨d,hs,f,g⟩:=ZFC h;exact⟨_,_,_,_,_,f,rfl,rfl,.inl ⟨rfl,rfl,g⟩⟩
def wz(P:yg)(hi:HI)(o:yj)(x:yp)(asg:Bool)(ts all:yL TD)(H:yL ah)(K:Kn O):yO O:=
 match o.dst,bq P ts o.type x with
 |some t,ab d=>if hi.still.contains t&&(d.om || d.sB) then wj t all H K d else if hi.still.contains t&&d.iO then GR t all H K d else if asg&&(hi.cO.contains t&&d.fx) then GX P o.type t all H K d else if asg&&(hi.own.contains t&&d.fx) then FS P o.type t all H K d else iQ P o ts all H K
 |_,_=>iQ P o ts all H K
def TD.lE(d:TD):yO Num:=
 match d.num with
 |some a=>if a.k=.i64 then ab a else ad
 |none=>ad
def sD(P:yg)(hi:HI)(aK:Sp P)(o:yj)(ts all:yL TD)(H:yL ah)(K:Kn O):yO O:=
 if rnT P hi o ts H=ae then HF P hi o ts all H K else
 match o.op with
 |.move x=>wz P hi o x af ts all H K
 |.assign x=>wz P hi o x ae ts all H K
 |.slice t x lo h ad=>if iP hi.eD o.dst then(bq P ts t x).bind λa=>(fw P ts lo).bind λl=>(fw P ts h).bind λr=>GL P t l r all H K a
  else(bq P ts t x).bind λa=>(fw P ts lo).bind λl=>(fw P ts h).bind λr=>if(iP hi.cO o.dst&&a.iO)=ae then GY P t l r all H K a else if a.iO=ae then GN P t l r all H K a else if ZIO a l r=ae then FJ P t l r all H K a else iQ P o ts all H K
 |.load t x=>(bq P ts 0 x).bind λd=>if d.sA || d.oo then FH P t all H K d else if d.sh then GP P t all H K d else iQ P o ts all H K
 |.lookup t x ix G=>(bq P ts t x).bind λd=>FQ P t all H G K (λE=>bq P ts E ix) d
 |.makeMap t ad=>FT P t all H K
 |.makeSlice t l c=>((bq P ts 0 l).bind TD.lE).bind λn=>((bq P ts 0 c).bind TD.lE).bind λF=>if iP hi.cO o.dst then GW P t n.n F.n all H K else FU P t (iP hi.own o.dst) (iP hi.row o.dst) n.n F.n all H K
 |.mapUpdate t x k v=>(bq P ts t x).bind λd=>FV P t all H K (λE=>bq P ts E k) (λI=>bq P ts I v) d
 |.alloc t=>ZAG P hi o.dst t all H K
 |.box t x=>(bq P ts t x).bind (FZ hi o.dst all H K)
 |.store t x y=>(bq P ts 0 x).bind λa=>(bq P ts t y).bind λv=>if a.sh then GQ P t all H K v a else GC P (ZMs hi x) t all H K v a
 |.buildSlice t len parts=>if iP hi.cO o.dst then(match (o.dst.bind λd=>hi.rew.lookup d).bind λs=>all[s]? with
  |some (.rw id)=>GV P ts t len parts.toList id all H K
  |_=>GU P ts t len parts.toList all H K) else if iP hi.own o.dst then GD P ts t len parts.toList all H K else iQ P o ts all H K
 |.indexAddr t x ix=>(bq P ts t x).bind λa=>if a.iO then(bq P ts 0 ix).bind λb=>b.inner.bind λJ=>(jl J).bind λq=>GM P t q.2 all H K a else iQ P o ts all H K
 |.call c=>match c.callee with
  |.builtin .len=>match c.args.toList,c.argTypes.toList with
   |[x],[t]=>(bq P ts t x).bind λd=>if d.HW then FR P t all H K d else if d.iO then GO P t all H K d else iQ P o ts all H K
   |_,_=>ad
  |.builtin .max=>iQ P o ts all H K
  |.builtin .min=>iQ P o ts all H K
  |.builtin .append=>match c.args.toList,c.argTypes.toList with
   |[x,y],[t,u]=>(bq P ts t x).bind λa=>(bq P ts u y).bind λb=>if a.iO || (a.fx&&iP hi.cO o.dst) then GS P ae t u all H K b a else if a.sC || a.sB || (a.fx&&(iP hi.own o.dst || iP hi.row o.dst)) then GH P (iP hi.own o.dst) (iP hi.row o.dst) t u all H K b (if hi.eqs=ae then GI H a else a) else iQ P o ts all H K
   |_,_=>ad
  |.builtin .copy=>match c.args.toList,c.argTypes.toList with
   |[x,y],[t,u]=>(bq P ts t x).bind λa=>(bq P ts u y).bind λb=>GJ P t u all H K b a
   |_,_=>ad
  |.value f=>match bq P ts 0 f with
   |some (.fn g j)=>if(iL P (fV g)&&c.args.size==c.argTypes.size)=ae then(oh P ts c.args.toList c.argTypes.toList).bind λA=>HU aK (fV g) all H K (if g < big then A++j else j++A) else iQ P o ts all H K
   |_=>ad
  |.invoke m z=>match bq P ts 0 m with
   |some (.iface t x)=>(sx aK.mt t z).bind λg=>if(iL P g&&c.args.size==c.argTypes.size)=ae then(oh P ts c.args.toList c.argTypes.toList).bind λA=>HU aK g all H (λa d H' hs _=>K a d H' (.iI g::hs) 2) (x::A) else ad
   |_=>ad
  |_=>ad
 |_=>iQ P o ts all H K
theorem mM{d:TD}{n:Num}(h:d.lE=ab n):d.num=ab n/\n.k=.i64:=by
 unfold TD.lE at h
 all_goals grind
theorem ZrL{hi:HI}{x:yp}{asg:Bool}(ho:if asg=ae then o.op=.assign x else o.op=.move x)(h:wz P hi o x asg ts all H K=ab out):∃a d H' hs c,K a d H' hs c=ab out/\Good P o ts all H a d H' hs c:=by
 unfold wz at h;split at h
 .rename_i t d g j;split at h
  .refine Zyw (x:=x) ?_ g j h
   all_goals grind
  split at h
  .refine Zwn (x:=x) ?_ g j h
   all_goals grind
  split at h
  .rename_i f;rw[yi]at f;rw[yW f.1]at ho;exact Zwp ho g j h
  .split at h
   .rename_i f;rw[yi]at f;rw[yW f.1]at ho;exact Zyq ho g j h
   .exact XW h
 .exact XW h
theorem HY{hi:HI}{aK:Sp P}(ok:eL aK)(h:sD P hi aK o ts all H K=ab out):∃a d H' hs c,K a d H' hs c=ab out/\Good P o ts all H a d H' hs c:=by
 unfold sD at h;split at h
 .exact ZDH h
 split at h
 .rename_i x j;exact ZrL (asg:=af) j h
 .rename_i x j;exact ZrL (asg:=ae) j h
 .rename_i t x lo Z j;split at h
  .obtain⟨a,m,h⟩:=yf.1 h;obtain⟨l,z,h⟩:=yf.1 h;obtain⟨r,E,h⟩:=yf.1 h;exact ZDF j m z E h
  .obtain⟨a,m,h⟩:=yf.1 h;obtain⟨l,z,h⟩:=yf.1 h;obtain⟨r,E,h⟩:=yf.1 h;split at h
   .exact ZtC j m z E h
   split at h
   .exact ZAM j m z E h
   split at h
   .exact Zyl j m z E h
   .exact XW h
 .rename_i t x j;obtain⟨d,m,h⟩:=yf.1 h;split at h
  .exact ZAB j m h
  split at h
  .exact Zyx j m h
  .exact XW h
 .rename_i t x ix okk j;obtain⟨d,m,h⟩:=yf.1 h;exact Zv6 j m h
 .rename_i t j;exact ZtA j h
 .rename_i t l c j;obtain⟨n,m,h⟩:=yf.1 h;obtain⟨n',z,h⟩:=yf.1 h;obtain⟨d1,T,I⟩:=yf.1 m;obtain⟨d2,U,J⟩:=yf.1 z;split at h
  .exact ZyA j (by rw[T];exact(mM I).1) (by rw[U];exact(mM J).1) (mM I).2 (mM J).2 h
  exact Zqa j (by rw[T];exact(mM I).1) (by rw[U];exact(mM J).1) (mM I).2 (mM J).2 h
 .rename_i t x k v j;obtain⟨d,m,h⟩:=yf.1 h;exact Zwa j m h
 .rename_i t j;exact Zys j h
 .rename_i t x j;obtain⟨d,m,h⟩:=yf.1 h;exact ZDD j m h
 .rename_i t x y j;obtain⟨a,m,h⟩:=yf.1 h;obtain⟨v,z,h⟩:=yf.1 h;split at h
  .exact Zwl j m z h
  .exact Zyt j m z h
 .rename_i t len parts j;split at h
  .split at h
   .exact Zyz j h
   .exact ZAP j h
  split at h
  .exact Zwe j h
  .exact XW h
 .rename_i t x ix j;obtain⟨a,m,h⟩:=yf.1 h;split at h
  .obtain⟨b,z,h⟩:=yf.1 h;obtain⟨ip,E,h⟩:=yf.1 h;obtain⟨q,h4,h⟩:=yf.1 h;rw[Xb E]at z;exact Zwj j m z h4 h
  .exact XW h
 .rename_i c j;split at h
  .rename_i A;split at h
   .rename_i x t F G;obtain⟨d,m,h⟩:=yf.1 h;split at h
    .exact Zv8 j A F G m h
    split at h
    .exact ZAN j A F G m h
    .exact XW h
   .cases h
  .exact XW h
  .exact XW h
  .rename_i A;split at h
   .rename_i x y t u F G;obtain⟨a,m,h⟩:=yf.1 h;obtain⟨b,z,h⟩:=yf.1 h;split at h
    .exact ZtB j A F G (Zu m) z h
    split at h
    .refine Zwg j A F G ?_ z h;split
     .rw[ZDE];exact Zu m
     .exact Zu m
    .exact XW h
   .cases h
  .rename_i A;split at h
   .rename_i x y t u F G;obtain⟨a,m,h⟩:=yf.1 h;obtain⟨b,z,h⟩:=yf.1 h;exact ZAK j A F G m z h
   .cases h
  .rename_i f A;split at h
   .rename_i g cap M;split at h
    .rename_i Q;obtain⟨az,m,h⟩:=yf.1 h;obtain⟨a,d,H',hs,W,R,S⟩:=ZyL ok h;exact⟨a,d,H',hs,W,R,ZDI j A M Q m S⟩
    .exact XW h
   .cases h
  .rename_i X Y A;split at h
   .rename_i t x M;obtain⟨g,hg,h⟩:=yf.1 h;obtain⟨Q,h⟩:=Za h;obtain⟨az,m,h⟩:=yf.1 h;obtain⟨a,d,H',hs,W,R,S⟩:=ZyL ok h;exact⟨a,d,H',_,_,R,ZDJ j A M (HR ok.mt hg) Q m S⟩
   .cases h
  .cases h
 .exact XW h
def HZ(ops:Array yj)(j:Nat):yO Tmp:=(ops[j]?).bind (·.dst)
def kJ(b:Bool):TD:=.p (.v .bool b)
def ZF4:TD->Bool
 |.bp []=>ae
 |_=>af
def gT(P:yg)(hi:HI)(aK:Sp P)(ops:Array yj)(o:yj)(ts all:yL TD)(H:yL ah)(K:Kn O):yO O:=
 match o.guard with
 |none=>sD P hi aK o ts all H K
 |some (j,f)=>(HZ ops j).bind λt=>match (ts.getD t .an).boolT with
  |some b=>
   if b=ae then
    if ae=f then sD P hi aK o (ts.set t (kJ ae)) (all.set t (kJ ae)) H λa d H' hs c=>K a d H' (.b ae::hs) c
    else K (all.set t (kJ ae)) (.bp []) H [.b ae] 0
   else
    if af=f then sD P hi aK o (ts.set t (kJ af)) (all.set t (kJ af)) H λa d H' hs c=>K a d H' (.b af::hs) c
    else K (all.set t (kJ af)) (.bp []) H [.b af] 0
  |none=>if ZF4 (ts.getD t .an) then K all (.bp []) H [.raw] 0 else ad
structure sE(P:yg)(ops:Array yj)(o:yj)(ts all:List TD)(H:List ah)(all':List TD)(d:TD)(H':List ah)(hs:List ao)(bP:Nat):Prop where
 same:TD.aG (lk H') all'=TD.aG (lk H) all
 len:all'.length=all.length
 op:∃C,aX C/\∀yK,dk P ops o (TD.aG (lk H) ts) (aJ H) (hs++yK)=ab (C,d.er (lk H'),aJ H',yK)
 sam:bP=3->aJ H'=aJ H
 bP:∀yK,bM P o (TD.aG (lk H) ts) (aJ H) (hs++yK)<=bP
theorem IA{d:TD}{a:yL TD}{H':yL ah}{hs:yL ao}{c:Nat}(h:Good P o ts all H a d H' hs c):∃C,aX C/\(∀yK,cD P o (TD.aG (lk H) ts) (aJ H) (hs++yK)=ab (C,d.er (lk H'),aJ H',yK))/\
 ∀yK,(if(bj P o (TD.aG (lk H) ts) (hs++yK)).isSome then 0 else if(bH P o (TD.aG (lk H) ts) (aJ H) (hs++yK)).isSome then 1 else 2)<=c:=by
 rcases h.op with⟨rfl,rfl,C,l,g⟩|⟨rfl,rfl,j,C,l,g⟩|⟨rfl,j,f,C,l,g⟩|⟨rfl,_,j,f,C,l,g⟩
 .exact⟨C,l,λyK=>by unfold cD;rw[g yK],λyK=>by rw[g yK];simp⟩
 .exact⟨C,l,λyK=>by unfold cD;rw[j yK];dsimp only;rw[g yK],λyK=>by rw[j yK,g yK];simp⟩
 .exact⟨C,l,λyK=>by unfold cD;rw[j yK];dsimp only;rw[f yK];exact g yK,λyK=>by rw[j yK,f yK];simp⟩
 .exact⟨C,l,λyK=>by unfold cD;rw[j yK];dsimp only;rw[f yK];exact g yK,λyK=>by rw[j yK,f yK];simp⟩
theorem IB{d:TD}{a:yL TD}{H':yL ah}{hs:yL ao}{c:Nat}(h:Good P o ts all H a d H' hs c)(hc:c=3):aJ H'=aJ H:=by
 subst hc;rcases h.op with⟨e,_⟩|⟨e,_⟩|⟨e,_⟩|⟨_,e,_⟩
 all_goals grind
theorem ZyM{l:yL TD}{t:Nat}{b:Bool}(h:(l.getD t .an).boolT=ab b):l.getD t .an=kJ b:=by
 unfold TD.boolT at h;split at h
 .rename_i x f;unfold TP.iv at h;split at h
  .cases h;exact f
  .cases h
 .cases h
theorem bE{l:yL TD}{t:Nat}{d:TD}(h:l.getD t .an=d):(l.set t d)=l:=by
 apply ybq
 all_goals grind
theorem ZCf{hi:HI}{aK:Sp P}{ops:Array yj}(ok:eL aK)(W:∀j z t,o.guard=ab (j,z)->HZ ops j=ab t->ts.getD t .an=all.getD t .an)(h:gT P hi aK ops o ts all H K=ab out):
 ∃a d H' hs c,K a d H' hs c=ab out/\sE P ops o ts all H a d H' hs c:=by
 unfold gT at h;split at h
 .rename_i g;obtain⟨a,d,H',hs,c,E,l⟩:=HY ok h;obtain⟨C,I,J,R⟩:=IA l;refine⟨a,d,H',hs,c,E,l.same,l.len,⟨C++[],Zl.2 ⟨I,aw⟩,λm=> ?_⟩,IB l,λm=> ?_⟩
  .unfold dk;rw[g];dsimp only;rw[J m];rfl
  .unfold bM;grind
 .rename_i j z g;obtain⟨t,S,y⟩:=yf.1 h;clear h;have M:=W j z t g S
  have f:((ops[j]?).bind (·.dst)).map (λt=>(TD.aG (lk H) ts).getD t .an)=ab ((ts.getD t .an).er (lk H)):=by
   rw[show(ops[j]?).bind (·.dst)=ab t from S,yae,vQ]
  split at y
  .rename_i b T;have Q:=ZyM T;have U:all.getD t .an=kJ b:=by rw[<-M];exact Q
   have G:(ts.getD t .an).er (lk H)=.p (.bool b):=px T;split at y
   .rename_i A;subst A;rw[bE Q,bE U]at y;split at y
    .rename_i F;subst F;obtain⟨a,d,H',hs,c,E,l⟩:=HY ok y;obtain⟨C,I,J,R⟩:=IA l;refine⟨a,d,H',_,c,E,l.same,l.len,⟨(ae=ae)::C++[],Zl.2 ⟨⟨rfl,I⟩,aw⟩,λm=> ?_⟩,IB l,λm=> ?_⟩
     .unfold dk;rw[g];dsimp only;rw[f,G];simp only[yag,if_true,J m];rfl
     .unfold bM;grind
    .rename_i F;refine⟨_,_,_,_,_,y,rfl,rfl,⟨[ae=ae],⟨rfl,aw⟩,λm=> ?_⟩,λ_=>rfl,λm=> ?_⟩
     .unfold dk;rw[g];dsimp only;rw[f,G];simp only[yag,yz,yX F];rfl
     .unfold bM;grind
   .rename_i A;have A:b=af:=by simpa using A
    subst A;rw[bE Q,bE U]at y;split at y
    .rename_i F;subst F;obtain⟨a,d,H',hs,c,E,l⟩:=HY ok y;obtain⟨C,I,J,R⟩:=IA l;refine⟨a,d,H',_,c,E,l.same,l.len,⟨(af=af)::C++[],Zl.2 ⟨⟨rfl,I⟩,aw⟩,λm=> ?_⟩,IB l,λm=> ?_⟩
     .unfold dk;rw[g];dsimp only;rw[f,G];simp only[yag,if_true,J m];rfl
     .unfold bM;grind
    .rename_i F;refine⟨_,_,_,_,_,y,rfl,rfl,⟨[af=af],⟨rfl,aw⟩,λm=> ?_⟩,λ_=>rfl,λm=> ?_⟩
     .unfold dk;rw[g];dsimp only;rw[f,G];simp only[yag,yz,yX F];rfl
     .unfold bM;grind
  .obtain⟨E,y⟩:=Za y
   have G:(ts.getD t .an).er (lk H)=.bp []:=by
    unfold ZF4 at E;split at E
    .rename_i X;rw[X];rfl
    .cases E
   refine⟨_,_,_,_,_,y,rfl,rfl,⟨[],zP,λm=> ?_⟩,λ_=>rfl,λm=> ?_⟩
   .unfold dk;rw[g];dsimp only;rw[f,G];rfl
   .unfold bM;grind
def pG(ts:yL TD)(dst:yO Tmp)(d:TD):yL TD:=
 match dst with
 |some i=>ts.set i d
 |none=>ts
theorem ZyN{L:Lk}(dst:yO Tmp)(d:TD):TD.aG L (pG ts dst d)=fS (TD.aG L ts) dst (d.er L):=by
 cases dst with
 |none=>rfl
 |some i=>simp only[pG,fS,ZO,ybn]
theorem ZuM(dst:yO Tmp)(d:TD):(pG ts dst d).length=ts.length:=by
 cases dst <;> simp[pG]
def sF(P:yg)(hi:HI)(aK:Sp P)(ops:Array yj):yL yj->yL TD->yL ah->(yL TD->yL ah->yL ao->yO O)->yO O
 |[],all,H,K=>K all H []
 |o::r,all,H,K=>gT P hi aK ops o all all H λa d H' hs _=>sF P hi aK ops r (pG a o.dst d) H' λf g hs'=>K f g (hs++hs')
theorem ZuN{hi:HI}{aK:Sp P}{ops:Array yj}(ok:eL aK):∀(l:yL yj)(all:yL TD)(H:yL ah)(K:yL TD->yL ah->yL ao->yO O),sF P hi aK ops l all H K=ab out->
 ∃a h hs C,K a h hs=ab out/\a.length=all.length/\aX C/\∀yK,cA P ops l (TD.aG (lk H) all) (aJ H) (hs++yK)=ab (C,TD.aG (lk h) a,aJ h,yK)
 |[],all,H,K,h=>⟨all,H,[],[],h,rfl,zP,λ_=>rfl⟩
 |o::r,all,H,K,h=>by
  unfold sF at h;obtain⟨a,d,H',hs,c,g,f⟩:=ZCf ok (λ_ _ _ _ _=>rfl) h;obtain⟨j,m,hs',C',y,z,A,E⟩:=ZuN ok r _ _ _ g;obtain⟨C,F,G⟩:=f.op;refine⟨j,m,_,C++C',y,by rw[z,ZuM,f.len],Zl.2 ⟨F,A⟩,λyK=> ?_⟩;unfold cA;rw[yac,G (hs'++yK)];dsimp only;rw[<-f.same, <-ZyN,E yK]
end
end Go.Ev
end
section
namespace Go.Ev
section
variable{P:yg}{o:yj}{ts all:yL TD}{H:yL ah}{O:Type}{out:O}
def iy(keep:yL Nat):Nat->yL TD->yL TD
 |_,[]=>[]
 |i,d::r=>(if keep.contains i then d else .an)::iy keep (i+1) r
theorem wA{L:Lk}(keep:yL Nat):∀(l:yL TD)(k:Nat),TD.aG L (iy keep k l)=aI keep k (TD.aG L l)
 |[],_=>rfl
 |d::r,k=>by
  rw[iy,TD.aG,TD.aG,aI,wA keep r];split <;> rfl
theorem ZuO(keep:yL Nat):∀(l:yL TD)(k t:Nat),keep.contains (k+t)=ae->(iy keep k l).getD t .an=l.getD t .an
 |[],_,_,_=>rfl
 |d::r,k,0,h=>by
  have f:keep.contains k=ae:=h
  simp only[iy,f,if_true,List.getD_cons_zero]
 |d::r,k,t+1,h=>by
  simp only[iy,List.getD_cons_succ];exact ZuO keep r (k+1) t (by rw[show k+1+t=k+(t+1) by omega];exact h)
mutual
def Pl.bt:Pl->Pl->Bool
 |.int k n,.int l m=>ag (k=l)&&ag (n=m)
 |.bool a,.bool b=>a==b
 |.str a,.str b=>ag (a=b)
 |.bX,.bX=>ae
 |.fn0,.fn0=>ae
 |.eG,.eG=>ae
 |.cC,.cC=>ae
 |.gx f,.gx g=>Nat.beq f g
 |.agg h,.agg j=>Pl.cz h j
 |.arr n s h,.arr m u j=>Nat.beq n m&&Nat.beq s u&&Pl.cz h j
 |.sl a s h,.sl b u j=>a==b&&Nat.beq s u&&Pl.cz h j
 |.iface t x,.iface u y=>Nat.beq t u&&Pl.bt x y
 |_,_=>af
def Pl.cz:yL Pl->yL Pl->Bool
 |[],[]=>ae
 |x::r,y::q=>Pl.bt x y&&Pl.cz r q
 |_,_=>af
end
mutual
theorem Pl.cP:∀(a b:Pl),Pl.bt a b=ae->a=b
 |.int k n,b,h=>by cases b <;> simp_all[Pl.bt]
 |.bool k,b,h=>by cases b <;> simp_all[Pl.bt]
 |.str k,b,h=>by cases b <;> simp_all[Pl.bt]
 |.bX,b,h=>by cases b <;> simp_all[Pl.bt]
 |.fn0,b,h=>by cases b <;> simp_all[Pl.bt]
 |.eG,b,h=>by cases b <;> simp_all[Pl.bt]
 |.cC,b,h=>by cases b <;> simp_all[Pl.bt]
 |.gx f,b,h=>by cases b <;> simp_all[Pl.bt]
 |.agg g,b,h=>by cases b <;> simp_all[Pl.bt];exact Pl.bO _ _ h
 |.arr n s g,b,h=>by cases b <;> simp_all[Pl.bt];exact Pl.bO _ _ h.2
 |.sl n s g,b,h=>by cases b <;> simp_all[Pl.bt];exact Pl.bO _ _ h.2
 |.iface t x,b,h=>by cases b <;> simp_all[Pl.bt];exact Pl.cP _ _ h.2
theorem Pl.bO:∀(a b:yL Pl),Pl.cz a b=ae->a=b
 |[],[],_=>rfl
 |[],_::_,h=>by cases h
 |_::_,[],h=>by cases h
 |x::r,y::q,h=>by
  simp only[Pl.cz,yi]at h;rw[Pl.cP x y h.1,Pl.bO r q h.2]
end
def pH:yL Nat->yL Nat->Bool
 |[],[]=>ae
 |x::r,y::q=>Nat.beq x y&&pH r q
 |_,_=>af
theorem wB:∀(a b:yL Nat),pH a b=ae->a=b
 |[],[],_=>rfl
 |[],_::_,h=>by cases h
 |_::_,[],h=>by cases h
 |x::r,y::q,h=>by
  simp only[pH,yi]at h;rw[Nat.eq_of_beq_eq_true h.1,wB r q h.2]
mutual
def Dv.bt:Dv->Dv->Bool
 |.p x,.p y=>Pl.bt x y
 |.elem x,.elem y=>Pl.bt x y
 |.aj i o l,.aj j q m=>Nat.beq i j&&Nat.beq o q&&pH l m
 |.own i a s h,.own j b u z=>Nat.beq i j&&a==b&&Nat.beq s u&&Pl.cz h z
 |.view i o l a b c,.view I J G A E F=>Nat.beq i I&&Nat.beq o J&&pH l G&&Nat.beq a A&&Nat.beq b E&&Nat.beq c F
 |.agg h,.agg z=>Dv.cz h z
 |.arr n s h,.arr m u z=>Nat.beq n m&&Nat.beq s u&&Dv.cz h z
 |.fn f h,.fn g z=>Nat.beq f g&&Dv.cz h z
 |.iface t x,.iface u y=>Nat.beq t u&&Dv.bt x y
 |.bp h,.bp z=>Dv.cz h z
 |.mp i,.mp j=>Nat.beq i j
 |.rv a b c d e,.rv A E F M Q=>Nat.beq a A&&Nat.beq b E&&Nat.beq c F&&Nat.beq d M&&Nat.beq e Q
 |.aZ a b c l,.aZ A E F G=>Nat.beq a A&&Nat.beq b E&&Nat.beq c F&&pH l G
 |.an,.an=>ae
 |_,_=>af
def Dv.cz:yL Dv->yL Dv->Bool
 |[],[]=>ae
 |x::r,y::q=>Dv.bt x y&&Dv.cz r q
 |_,_=>af
end
theorem fQ{a b:Nat}(h:Nat.beq a b=ae):a=b:=Nat.eq_of_beq_eq_true h
mutual
theorem Dv.cP:∀(a b:Dv),Dv.bt a b=ae->a=b
 |.p x,b,h=>by
  cases b <;> simp only[Dv.bt,yce]at h
  rw[Pl.cP _ _ h]
 |.elem x,b,h=>by
  cases b <;> simp only[Dv.bt,yce]at h
  rw[Pl.cP _ _ h]
 |.aj i o l,b,h=>by
  cases b <;> simp only[Dv.bt,yce,yi]at h
  rw[fQ h.1.1,fQ h.1.2,wB _ _ h.2]
 |.own i a s g,b,h=>by
  cases b <;> simp only[Dv.bt,yce,yi,yT]at h
  rw[fQ h.1.1.1,h.1.1.2,fQ h.1.2,Pl.bO _ _ h.2]
 |.view i o l a k c,b,h=>by
  cases b <;> simp only[Dv.bt,yce,yi]at h
  rw[fQ h.1.1.1.1.1,fQ h.1.1.1.1.2,wB _ _ h.1.1.1.2,fQ h.1.1.2,fQ h.1.2,fQ h.2]
 |.agg g,b,h=>by
  cases b <;> simp only[Dv.bt,yce]at h
  rw[Dv.bO _ _ h]
 |.arr n s g,b,h=>by
  cases b <;> simp only[Dv.bt,yce,yi]at h
  rw[fQ h.1.1,fQ h.1.2,Dv.bO _ _ h.2]
 |.fn f g,b,h=>by
  cases b <;> simp only[Dv.bt,yce,yi]at h
  rw[fQ h.1,Dv.bO _ _ h.2]
 |.iface t x,b,h=>by
  cases b <;> simp only[Dv.bt,yce,yi]at h
  rw[fQ h.1,Dv.cP _ _ h.2]
 |.bp g,b,h=>by
  cases b <;> simp only[Dv.bt,yce]at h
  rw[Dv.bO _ _ h]
 |.mp i,b,h=>by
  cases b <;> simp only[Dv.bt,yce]at h
  rw[fQ h]
 |.rv a k c d e,b,h=>by
  cases b <;> simp only[Dv.bt,yce,yi]at h
  rw[fQ h.1.1.1.1,fQ h.1.1.1.2,fQ h.1.1.2,fQ h.1.2,fQ h.2]
 |.aZ a k c l,b,h=>by
  cases b <;> simp only[Dv.bt,yce,yi]at h
  rw[fQ h.1.1.1,fQ h.1.1.2,fQ h.1.2,wB _ _ h.2]
 |.an,b,h=>by
  cases b <;> simp only[Dv.bt,yce]at h;rfl
theorem Dv.bO:∀(a b:yL Dv),Dv.cz a b=ae->a=b
 |[],[],_=>rfl
 |[],_::_,h=>by cases h
 |_::_,[],h=>by cases h
 |x::r,y::q,h=>by
  simp only[Dv.cz,yi]at h;rw[Dv.cP x y h.1,Dv.bO r q h.2]
end
def aq.bt:yO aq->yO aq->Bool
 |some (.var d _),ab (.var e _)=>Dv.bt d e
 |_,_=>af
theorem aq.jS{a b:yO aq}(h:aq.bt a b=ae):dG a=dG b:=by
 unfold aq.bt at h;split at h
 .rw[Dv.cP _ _ h];rfl
 .cases h
structure TR where
 bP:Nat
 rd:Option Nat
 tc:Option (List Nat)
 n:Nat
 push:Bool
 loc:Bool
 m:Nat
 sm:Nat->Bool
 ex:Bool
def wC(P:yg)(o:yj)(ts:yL Dv)(hs:yL ao)(n id:Nat):Bool:=
 match o.guard,hs with
 |some (_,f),.b β::hs'=>if β=f then(match kz P o ts hs' with|some l=> !l.contains id&&ag (id < n)|none=>af) else af
 |_,_=>af
def wD(P:yg)(hi:HI)(aK:Sp P)(ops:Array yj):yL yj->yL TD->yL ah->(yL TD->yL ah->yL TR->yL ao->yO O)->yO O
 |[],all,H,K=>K all H [] []
 |o::r,all,H,K=>gT P hi aK ops o (iy (looks ops o) 0 all) all H λa d H' hs c=>wD P hi aK ops r (pG a o.dst d) H' λf g rs hs'=>
   K f g (⟨c,qD P o (TD.aG (lk H) (iy (looks ops o) 0 all)),kY P o (TD.aG (lk H) (iy (looks ops o) 0 all)) hs,H.length,jh o hs H.length,kX o hs,H'.length,λid=>(c==3) || wC P o (TD.aG (lk H) (iy (looks ops o) 0 all)) hs H.length id || aq.bt ((aJ H')[id]?) ((aJ H)[id]?),kA o⟩::rs) (hs++hs')
def jT(R:Rec)(r:TR):Prop:=R.bP<=r.bP/\(R.rd=r.rd/\R.ex=r.ex)/\(∀l,r.tc=ab l->R.tc=ab l)/\R.H.length=r.n/\(r.push=ae->R.push=ae)/\(r.loc=ae->R.loc=ae)/\R.H'.length=r.m/\∀id,r.sm id=ae->dG (R.H'[id]?)=dG (R.H[id]?)
inductive dA:List Rec->List TR->Prop where
 |nil:dA [] []
 |cons {R:Rec} {r:TR} {Rs:List Rec} {rs:List TR} (h:jT R r) (k:dA Rs rs):dA (R::Rs) (r::rs)
theorem ZrO{ts:yL Dv}{hs yK:yL ao}{l:yL Nat}(h:kz P o ts hs=ab l):kz P o ts (hs++yK)=ab l:=by
 unfold kz at h ⊢;split at h <;> first|exact h|skip
 all_goals grind
theorem ZIQ{ts:yL Dv}{hs yK:yL ao}{l:yL Nat}(h:kY P o ts hs=ab l):kY P o ts (hs++yK)=ab l:=by
 unfold kY at h ⊢;split at h
 .rename_i f;rw[yW f];exact ZrO h
 .cases h
theorem ZF6{hs yK:yL ao}(h:kX o hs=ae):kX o (hs++yK)=ae:=by
 unfold kX at h ⊢
 all_goals grind
theorem ZDK{hs yK:yL ao}{n:Nat}(h:jh o hs n=ae):jh o (hs++yK) n=ae:=by
 unfold jh at h ⊢
 all_goals grind
theorem ZIR{ops:Array yj}{ts:yL Dv}{H:yL aq}{hs yK:yL ao}{C:yL Prop}{d:Dv}{H':yL aq}{g:yL ao}{id:Nat}(h:dk P ops o ts H (hs++yK)=ab (C,d,H',g))(ht:wC P o ts hs H.length id=ae):dG (H'[id]?)=dG (H[id]?):=by
 unfold wC at ht;split at ht
 .rename_i j m β hs' A;split at ht
  .rename_i E;split at ht
   .rename_i l F;rw[yi]at ht;have G:id < H.length:=by simpa using ht.2
    have I:l.contains id=af:=by simpa using ht.1
    rw[yag]at h;unfold dk at h;rw[A]at h;dsimp only at h;split at h
    .rename_i Q R y S J;cases J;rw[yW E,yv]at h;obtain⟨⟨C1,d1,H1,M⟩,f,z⟩:=h;simp only[yq]at z;obtain⟨_,_,rfl,_⟩:=z;unfold cD at f;split at f
     .cases f;rfl
     .split at f
      .cases f;rfl
      .exact Zuv f (ZrO F) G I
    all_goals grind
   .cases ht
  .cases ht
 .cases ht
theorem ZrP{hi:HI}{aK:Sp P}{ops:Array yj}(ok:eL aK):∀(l:yL yj)(all:yL TD)(H:yL ah)(K:yL TD->yL ah->yL TR->yL ao->yO O),wD P hi aK ops l all H K=ab out->
 ∃a h rs hs C,K a h rs hs=ab out/\a.length=all.length/\aX C/\∀yK,∃RS,nv P ops l (TD.aG (lk H) all) (aJ H) (hs++yK)=ab (C,RS,TD.aG (lk h) a,aJ h,yK)/\dA RS rs
 |[],all,H,K,h=>⟨all,H,[],[],[],h,rfl,zP,λ_=>⟨[],rfl,.nil⟩⟩
 |o::r,all,H,K,h=>by
  unfold wD at h
  have m:∀j f t,o.guard=ab (j,f)->HZ ops j=ab t->(iy (looks ops o) 0 all).getD t .an=all.getD t .an:=by
   intro j f t A hs;refine ZuO _ _ _ _ ?_;rw[yar];unfold looks;rw[A];dsimp only;rw[show(ops[j]?).bind (·.dst)=ab t from hs]
   simp
  obtain⟨a,d,H',hs,c,E,g⟩:=ZCf ok m h;obtain⟨F,G,rs,hs',C',I,J,M,Q⟩:=ZrP ok r _ _ _ E;obtain⟨C,R,z⟩:=g.op;refine⟨F,G,_,_,C++C',I,by rw[J,ZuM,g.len],Zl.2 ⟨R,M⟩,λyK=> ?_⟩;obtain⟨RS,S,T⟩:=Q yK;unfold nv;rw[<-wA,yac,z (hs'++yK)];dsimp only;rw[<-g.same, <-ZyN,S]
  refine⟨_,rfl,.cons ⟨g.bP _,⟨rfl,rfl⟩,λl y=> ?_,Z2 _,λU=>by rw[Z2];exact ZDK U,λy=>ZF6 y,Z2 _,λid hs=>by
   have hs:(c==3 || wC P o (TD.aG (lk H) (iy (looks ops o) 0 all)) _ H.length id || aq.bt ((aJ H')[id]?) ((aJ H)[id]?))=ae:=hs;rw[yck,yck]at hs;rcases hs with(h5|h5)|h5
   .rw[g.sam (by simpa using h5)]
   .exact ZIR (z []) (by rw[Z2];exact h5)
   .exact aq.jS h5⟩ T⟩
  exact ZIQ y
def wE(ops:Array yj)(f:yL Nat)(free comm:Nat->Nat->Bool):Bool:=
 let l:=ops.toList;let A:=BD l;let n:=l.length
 (f.length==n)&&QU l 0&&
 ((yo n).all λi=>match l[i]? with|some o=>A.getD i 0==nw A i o|none=>ae)&&
 ((yo n).all λi=>(yo n).all λj=>i==j || aT l i==ad || !(aT l i==aT l j))&&
 ((yo n).all λi=>match l[i]? with
   |some o=>let k:=looks ops o
    (yo n).all λj=>match aT l j with
      |some t=>i==j || !(k.contains t) || (if j < i then(A.getD i 0).testBit j else(A.getD j 0).testBit i)
      |none=>ae
   |none=>ae)&&
 ((yo n).all λi=>f.getD i 0==0 || (yo n).all λj=>i==j || decide (f.getD j 0 < 2) || (if j < i then(A.getD i 0).testBit j else(A.getD j 0).testBit i) || (ag (f.getD i 0<=1)&&free i j) || comm i j)
def IC(rs:yL TR)(i j:Nat):Bool:=
 match rs[i]?,rs[j]? with
 |some r,ab q=>match r.rd with
  |some id=>ag (id < q.n)&&ag (id < r.n)&&(if r.ex=ae then q.push else((match q.tc with|some l=> !l.contains id|none=>af) || q.sm id))
  |none=>af
 |_,_=>af
def cT(rs:yL TR)(c:Nat)(r:TR):Bool:=r.loc || (r.push&&r.m==r.n+1&&(rs.take c).all λq=>ag (q.n<=r.n))
def cI(rs:yL TR):Nat:=match rs.findIdx? (λr=>r.loc&&r.bP==2) with
 |some c=>c
 |none=>match rs.findIdx? (λr=>r.loc&&r.bP==3) with
  |some c=>c
  |none=>(rs.findIdx? (λr=>r.push)).getD 0
def wF(rs:yL TR)(i j:Nat):Bool:=
 let c:=cI rs
 ((rs[c]?).map (cT rs c)).getD af&&((i==c&&ag (c < j)&&((rs[j]?).map (·.push)).getD af) || (j==c&&ag (c < i)&&((rs[i]?).map (·.push)).getD af))
theorem ID{RS:yL Rec}{rs:yL TR}(h:dA RS rs):RS.length=rs.length:=by
 induction h with
 |nil=>rfl
 |cons _ _ f=>simp[f]
theorem sG{RS:yL Rec}{rs:yL TR}(h:dA RS rs):∀{i:Nat}{r:TR},rs[i]? =ab r->∃R,RS[i]? =ab R/\jT R r:=by
 induction h with
 |nil=>intro i r h;simp at h
 |cons h k g=>
  intro i r f
  cases i with
  |zero=>cases f;exact⟨_,rfl,h⟩
  |succ i=>exact g f
theorem ZDL{RS:yL Rec}{rs:yL TR}(h:dA RS rs):∀{i:Nat}{R:Rec},RS[i]? =ab R->∃r,rs[i]? =ab r/\jT R r:=by
 induction h with
 |nil=>intro i r h;simp at h
 |cons h k g=>
  intro i r f
  cases i with
  |zero=>cases f;exact⟨_,rfl,h⟩
  |succ i=>exact g f
theorem ZyO{RS:yL Rec}{rs:yL TR}(h:dA RS rs)(i:Nat):(RS.map (·.bP)).getD i 0<=(rs.map (·.bP)).getD i 0:=by
 simp only[ycx,yao]
 cases f:rs[i]? with
 |none=>
  have:RS[i]? =ad:=by rw[List.getElem?_eq_none_iff]at f ⊢;rw[ID h];exact f
  rw[this]
  exact ym _
 |some r=>
  obtain⟨R,e,k⟩:=sG h f;rw[e];exact k.1
theorem ZIS{ops:Array yj}{RS:yL Rec}{rs:yL TR}(h:dA RS rs)(k:wE ops (rs.map (·.bP)) (IC rs) (wF rs)=ae)(hn:rs.length=ops.size):uH ops RS=ae:=by
 unfold wE at k;unfold uH;simp only[yi]at k ⊢;obtain⟨⟨⟨⟨⟨k1,k2⟩,k3⟩,k4⟩,k5⟩,k6⟩:=k;refine⟨⟨⟨⟨⟨?_,k2⟩,k3⟩,k4⟩,k5⟩, ?_⟩
 .simpa[ID h] using k1
 .have I:∃c,c∈yo (ops.toList.length+1)/\∀i j,wF rs i j=ae->kB RS c i j=ae:=by
   have A:∀(k:Nat),((rs[k]?).map (·.push)).getD af=ae->((RS[k]?).map (·.push)).getD af=ae:=by
    intro k z
    cases y:rs[k]? with
    |none=>rw[y]at z;cases z
    |some r=>
     obtain⟨R,F,f⟩:=sG h y;rw[y]at z;rw[F];exact f.2.2.2.2.1 z
   refine⟨if cI rs < rs.length then cI rs else 0, ?_,λi j g=> ?_⟩
   .all_goals grind
   .unfold wF at g;dsimp only at g;generalize cI rs=c at g ⊢;rw[yi]at g;obtain⟨h1,h2⟩:=g
    cases y:rs[c]? with
    |none=>rw[y]at h1;cases h1
    |some r=>
     have J:=(yu.1 y).1;rw[yW J];obtain⟨R,F,f⟩:=sG h y;rw[y]at h1;unfold kB;rw[yi];refine⟨?_, ?_⟩
     .rw[F];show uG RS c R=ae;have h1:cT rs c r=ae:=h1;unfold cT at h1;unfold uG;rw[yck]at h1 ⊢;rcases h1 with h1|h1
      .exact .inl (f.2.2.2.2.2.1 h1)
      .simp only[yi,yT,yal,yP]at h1 ⊢;obtain⟨⟨b1,b2⟩,b3⟩:=h1;refine .inr ⟨⟨f.2.2.2.2.1 b1,by rw[f.2.2.2.2.2.2.1,f.2.2.2.1];exact b2⟩,λq M=> ?_⟩;obtain⟨k,z⟩:=List.mem_iff_getElem?.1 M;rw[List.getElem?_take]at z;split at z
       .rename_i S;obtain⟨q2,f1,f2⟩:=ZDL h z;rw[f2.2.2.2.1,f.2.2.2.1];refine b3 q2 (List.mem_iff_getElem?.2 ⟨k, ?_⟩);rw[List.getElem?_take,yW S];exact f1
       .cases z
     .simp only[yck,yi]at h2 ⊢;rcases h2 with⟨⟨T,U⟩,W⟩|⟨⟨T,U⟩,W⟩
      .exact .inl ⟨⟨T,U⟩,A _ W⟩
      .exact .inr ⟨⟨T,U⟩,A _ W⟩
  obtain⟨c,X,Y⟩:=I;rw[List.any_eq_true];refine⟨c,X, ?_⟩;rw[yal]at k6 ⊢;intro i hi;have:=k6 i hi;have hc:=ZyO h i;simp only[yck]at this ⊢;rcases this with h0|h1
  .grind
  .by_cases hz:(RS.map (·.bP)).getD i 0=0
   .grind
   .right;rw[yal]at h1 ⊢;intro j hj;have h2:=h1 j hj;have hd:=ZyO h j;simp only[yck,yi,yP]at h2 ⊢;rcases h2 with(((h2|h2)|h2)|h2)|h2
    .grind
    .grind
    .grind
    .refine .inl (.inr ⟨?_, ?_⟩)
     .grind
     .have E:=h2.2;unfold IC at E;unfold mc;split at E
      .rename_i r q y M;obtain⟨R,F,f⟩:=sG h y;obtain⟨Q,e3,e4⟩:=sG h M;rw[F,e3];dsimp only;split at E
       .rename_i id Z;rw[f.2.1.1,Z];dsimp only;rw[e4.2.2.2.1,f.2.2.2.1];rw[yi]at E ⊢;refine⟨E.1, ?_⟩;have m:=E.2;rw[f.2.1.2];by_cases G:r.ex=ae
        .rw[yW G]at m ⊢;exact e4.2.2.2.2.1 m
        rw[yX G]at m ⊢;rw[yck]at m ⊢;rcases m with h5|h5
        .left;split at h5
         .rename_i l htc;rw[e4.2.2.1 l htc];exact h5
         .cases h5
        .right;exact@decide_eq_true _ (Classical.propDecidable _) (e4.2.2.2.2.2.2.2 id h5)
       .cases E
      .cases E
    .exact .inr (Y i j h2)
def sH:ah->ah
 |.var d _=>.var d af
 |e=>e
def pI(ids:yL Nat)(H:yL ah):yL ah:=(yo H.length).zipWith (λi e=>if ids.contains i then sH e else e) H
theorem ZIT(e:ah):eR (ab (sH e))=eR (ab e):=by cases e <;> rfl
theorem ZrR(ids:yL Nat)(H:yL ah)(i:Nat):(pI ids H)[i]? =(H[i]?).map λe=>if ids.contains i then sH e else e:=by
 unfold pI
 all_goals grind
theorem ZuQ(ids:yL Nat)(H:yL ah):lk (pI ids H)=lk H:=by
 funext i;unfold lk;rw[ZrR]
 cases H[i]? with
 |none=>rfl
 |some e=>
  show eR (ab (if ids.contains i=ae then sH e else e))=_
  split
  .exact ZIT e
  .rfl
theorem ZDM(ids:yL Nat)(H:yL ah):bZ (aJ H) (aJ (pI ids H)):=by
 refine ZFW (by rw[Z2,Z2];unfold pI;simp) λi a b f g=> ?_;unfold aJ at f g;rw[yao]at f g;rw[ZuQ,ZrR]at g
 cases h:H[i]? with
 |none=>rw[h]at f;cases f
 |some e=>
  rw[h]at f g;cases f;cases g;show eP (e.er (lk H)) (ah.er (lk H) (if ids.contains i=ae then sH e else e))
  split
  .cases e <;> first|exact .refl _|exact .eD
  .exact .refl _
theorem ZF9{c:Code}{ts ts1:yL Dv}{H0 H1 H2:yL aq}{ex:Ex}(h:bZ H0 H1)(r:Xv P c ts H1 ex ts1 H2):Xv P c ts H0 ex ts1 H2:=by
 intro σ a g j l;obtain⟨to,f⟩:=ll g (H':=H1) (by rw[j];exact h);refine wp_mono (r { σ with H:=H1} a f rfl (l.to to.leaf)) ?_;rintro e G I ⟨rfl,m,y,z,A,E,F⟩;exact⟨rfl,m,y,z,to.trans A,E,F⟩
def ZGa(ops:yL yj)(all:yL TD):Nat->Tmp->yO Nat
 |0,_=>ad
 |n+1,x=>match ops.find? λo=>o.dst==ab x with
  |some o=>match o.op with
   |.fieldAddr _ (.tmp y) _=>ZGa ops all n y
   |_=>ad
  |none=>match all.getD x .an with
   |.aj id _=>ab id
   |_=>ad
def ZMw(hi:HI)(ops:yL yj)(all:yL TD)(o:yj):yO Nat:=
 match o.op with
 |.slice _ (.tmp x) _ _ ad=>if iP hi.eD o.dst then ZGa ops all 4 x else ad
 |_=>ad
def sI(hi:HI)(ops:Array yj)(all:yL TD)(H:yL ah):yL ah:=
 match hi.eD with
 |[]=>H
 |_=>match ops.toList.filterMap (ZMw hi ops.toList all) with
  |[]=>H
  |ids=>pI ids H
theorem ZDN(hi:HI)(ops:Array yj)(all:yL TD)(H:yL ah):bZ (aJ H) (aJ (sI hi ops all H))/\lk (sI hi ops all H)=lk H:=by
 unfold sI;split
 .exact⟨bZ.refl _,rfl⟩
 .split
  .exact⟨bZ.refl _,rfl⟩
  .exact⟨ZDM _ _,ZuQ _ _⟩
def IE(P:yg)(hi:HI)(aK:Sp P)(ops:Array yj)(all:yL TD)(H:yL ah)(K:yL TD->yL ah->yO O):yO O:=
 if P.follows .mixedOrders then wD P hi aK ops ops.toList all (sI hi ops all H) λa h rs _=>if wE ops (rs.map (·.bP)) (IC rs) (wF rs)=ae then K a h else ad else ad
theorem ZDO{hi:HI}{aK:Sp P}{ops:Array yj}{K:yL TD->yL ah->yO O}(ok:eL aK)(h:IE P hi aK ops all H K=ab out):∃a h,K a h=ab out/\a.length=all.length/\∀id,Xv P (.region id ops ae) (TD.aG (lk H) all) (aJ H) .normal (TD.aG (lk h) a) (aJ h):=by
 unfold IE at h;split at h
 .rename_i m;obtain⟨w1,g⟩:=ZDN hi ops all H;generalize sI hi ops all H=H0 at h w1 g;obtain⟨a,y,rs,hs,C,z,A,E,F⟩:=ZrP ok _ _ _ _ h;obtain⟨f,G⟩:=Za z;refine⟨a,y,G,A,λid=> ?_⟩;obtain⟨RS,j,l⟩:=F [];rw[<-g];refine ZF9 w1 (ru (hs:=hs) (hs':=[]) (C:=C) ?_ E);simp only[ev,if_true];unfold uI;rw[yW m];rw[ybf]at j;rw[j];dsimp only;rw[yW (ZIS l f (by have:=ID l;unfold wE at f;simp only[yi]at f;simpa using f.1.1.1.1.1))];rfl
 .cases h
theorem ZDP{hi:HI}{aK:Sp P}{ops:Array yj}{K:yL TD->yL ah->yL ao->yO O}(ok:eL aK)(h:sF P hi aK ops ops.toList all H K=ab out):∃a h hs,K a h hs=ab out/\a.length=all.length/\∀id,Xv P (.region id ops af) (TD.aG (lk H) all) (aJ H) .normal (TD.aG (lk h) a) (aJ h):=by
 obtain⟨a,f,hs,C,g,j,l,m⟩:=ZuN ok _ _ _ _ h;refine⟨a,f,hs,g,j,λid=> ?_⟩;refine ru (hs:=hs) (hs':=[]) (C:=C) ?_ l;have:=m [];rw[ybf]at this;simp only[ev,yce,if_false,this];rfl
end
end Go.Ev
end
section
namespace Go.Ev
def Wq(H H':yL aq):Prop:=∀σ:Sg,Ok σ->σ.H=H->∃f:Sg,f.w=σ.w/\f.H=H'/\To σ f/\Ok f
theorem Wq.refl(H:yL aq):Wq H H:=λσ f h=>⟨σ,rfl,h,To.refl σ,f⟩
theorem Wq.trans{A B C:yL aq}(h:Wq A B)(k:Wq B C):Wq A C:=λσ f e=>by
 obtain⟨g,j,l,m,y⟩:=h σ f e;obtain⟨z,E,F,G,I⟩:=k g y l;exact⟨z,E.trans j,F,m.trans G,I⟩
theorem pJ{H H':yL aq}(h:bZ H H'):Wq H H':=λσ f e=>by
 subst e;obtain⟨to,g⟩:=ll f h;grind
theorem ZIU{P:yg}{c:Code}{ts ts1 f:yL Dv}{H H1 H2:yL aq}{ex:Ex}(h:Wq H H1/\∀(σ:Sg)(a:Act),aD σ ts a->aD σ ts1 a)(r:Xv P c ts1 H1 ex f H2):Xv P c ts H ex f H2:=by
 intro σ a j l m;obtain⟨y,z,A,g,e4⟩:=h.1 σ j l;have:=r y a e4 A (h.2 _ _ (m.to g.leaf));rw[z]at this;refine wp_mono this ?_;rintro Q R S ⟨rfl,E,F,G,I,J,M⟩;exact⟨rfl,E,F,G,g.trans I,J,M⟩
theorem ZGb{H:yL aq}{j:Nat}{x g y:aq}(hj:H[j]? =ab x)
 (hy:∀σ:Sg,dH σ ad y)
 (z:(∃d st,x=.var d st)->∃d st,g=.var d st) (A:(∃t bS,x=.map t bS)->∃t bS,g=.map t bS) (E:∀s e xs,x≠ .log s e xs)
 (F:∀o,x.bB o->g.bB o)
 (G:∀v s st e d,x=.row v s st e d->∃l d',g=.row v s l e d')
 (I:∀(σ:Sg)(mi:yO Nat),σ.H[H.length]? =ab y->σ.m[H.length]? =ab ad->dH σ mi x->dH σ mi g):Wq H ((H++[y]).set j g):=by
 intro σ S hH;subst hH;have T:j < σ.H.length:=(yu.1 hj).1;obtain⟨U,J⟩:=WD (σ':={ σ with m:=σ.m++[ad],H:=σ.H++[y]}) S rfl rfl rfl rfl (World.grownBy.refl σ.w ad) (.inl rfl) (λ_=>hy _);obtain⟨mi,hm⟩:∃mi,σ.m[j]? =ab mi:=⟨_,yab (by rw[S.len];exact T)⟩;let f:Sg:={ σ with m:=σ.m++[ad],H:=σ.H++[y]};let W:Sg:={ f with m:=f.m.set j mi,H:=f.H.set j g}
 have M:f.H[j]? =ab x:=by
  grind
 have Q:f.m[j]? =ab mi:=by
  grind
 have hx:=J.dF j x mi M Q
 obtain⟨X,Y⟩:=YN (σ':=W) (mi:=mi) (mi':=mi) J M Q rfl rfl rfl rfl rfl rfl rfl (ym _)
  (λ_ _ _=>rfl) (λ_ _ _ _ _ h=>h) (λo _ hu=>F o hu) (.inl rfl) (λq=>⟨rfl,z q⟩) (λq=>⟨rfl,A q⟩) (λs e xs q=>absurd q (E s e xs))
  (λR=>by
    refine I W mi ?_ ?_ (nB R (λb _=>rfl) hx)
    .show(f.H.set j _)[σ.H.length]? =_;rw[List.getElem?_set,yX (by omega)];simp[f]
    .show(f.m.set j _)[σ.H.length]? =_;rw[List.getElem?_set,yX (by omega)];show(σ.m++[ad])[σ.H.length]? =_;rw[yaq (by rw[S.len];exact ym _),S.len];simp)
  (λv s st e d q=>by
    obtain⟨l,d',q'⟩:=G v s st e d q;exact⟨v,l,d',q',ym _,λ_=>⟨rfl,λb Z _ hc=>⟨Z,hc,rfl⟩⟩⟩)
 exact⟨W,rfl,rfl,U.trans X,Y⟩
theorem ZuS{σ:Sg}{s:Nat}{a:yL yh}(h:yH σ (.p (.sl (ab af) s [])) a):a=[.slice ad 0 0]:=by
 simp only[yH,aB]at h;obtain⟨_,A,c,rfl,w1,g,f,j,l⟩:=h
 have m:A=ad:=by
  have:=f af rfl;simp_all
 grind
theorem ZCj{H:yL aq}{j s:Nat}{e:yc}{d d':Dv}{st:Bool}{yQ:yL Nat}(l:H[j]? =ab (.var d st))(g:Xr d yQ s (.rv H.length 0 s 0 0)=ab d'):
 Wq H ((H++[aq.row 0 s ae e (.p (.arr 0 s []))]).set j (.var d' st)):=by
 have f:=rg yQ d d' s _ rfl g;refine ZGb l (λσ=>⟨0,by simp[aR],.inl ⟨rfl,rfl⟩⟩) (λ_=>⟨_,_,rfl⟩) (λ⟨_,_,q⟩=>by cases q) (λ_ _ _ q=>by cases q) (λo m=>m) (λ_ _ _ _ _ q=>by cases q) ?_;rintro σ J y z ⟨b,A,t,rfl,E,F,G⟩;refine⟨b,A,t,rfl,E, ?_,by rw[f];exact G⟩;rw[f];refine rh yQ d d' s _ (λa I=> ?_) g _ F;have:=ZuS I;subst this;simp only[yH];exact⟨ad,0,rfl,ym _,by simp[maxLen],λ_=>rfl,λh=>absurd h (Nat.lt_irrefl 0),0,s,ae,e,_,y,ym _,λ_=>⟨rfl,.inl ⟨z,rfl,rfl⟩⟩⟩
theorem ZGc{H:yL aq}{j s f v N:Nat}{st:Bool}{e G:yc}{xs:yL Pl}{k:Nat}{x:Pl}{y:Dv}{yQ:yL Nat}(Q:H[j]? =ab (.row v s st e (.p (.arr N s xs))))(g:xs[k]? =ab x)
 (I:Xr (.p x) yQ f (.own H.length ad f [])=ab y):Wq H ((H++[aq.log f G []]).set j (.row v s st e (.arr N s ((xs.map .p).set k y)))):=by
 have l:=rg yQ (.p x) y f _ rfl I;refine ZGb Q (λσ=>.inl ⟨rfl,rfl⟩) (λ⟨_,_,q⟩=>by cases q) (λ⟨_,_,q⟩=>by cases q) (λ_ _ _ q=>by cases q) (λo R=> ?_) (λv2 s2 S e2 d2 q=>by cases q;exact⟨_,_,rfl⟩) ?_
 .obtain⟨T,N',U,W⟩:=R;exact⟨T,N',by rw[<-U];simp[aR],W⟩
 rintro σ mi X Y ⟨N',Z,m⟩;refine⟨N',by rw[<-Z];simp[aR], ?_⟩;rcases m with m|⟨b,A,E,e3,e4,e5,e6,e7,J⟩
 .exact .inl m
 refine .inr ⟨b,A,E,e3,e4,e5,e6,e7, ?_⟩;have hk:(xs.map Dv.p)[k]? =ab (.p x):=by rw[yao,g];rfl
 simp only[yH,aB]at J ⊢;obtain⟨r1,M,r3⟩:=J;refine⟨by simpa using r1,λz hz=> ?_, ?_⟩
 .rcases List.mem_or_eq_of_mem_set hz with hz|hz
  .obtain⟨w,hw,rfl⟩:=List.mem_map.1 hz;exact M w hw
  .subst hz;rw[l];exact M x (ybk g)
 .refine vi (x:=.p x) (y:=y) (λa F=>rh yQ (.p x) y f _ (λa F=> ?_) I a F) _ k _ hk (jC.2 r3);have:=ZuS F;subst this;simp only[yH];exact⟨λ_ g=>(by cases g),ad,0,rfl,ym _,by simp[maxLen],Ym _,λ_=>rfl,λh=>absurd rfl h,G,[],X,ym _,λ_=>.inl ⟨Y,rfl,rfl⟩⟩
theorem ZIV{H:yL aq}{j:Nat}{d d':Dv}{st:Bool}(y:H[j]? =ab (.var d st))(hsz:d'.size=d.size)(hd:∀σ:Sg,Ok σ->σ.H=H->∀us,yH σ d us->yH σ d' us):Wq H (H.set j (.var d' st)):=by
 intro σ g E;subst E;have z:j < σ.H.length:=(yu.1 y).1;obtain⟨l,A⟩:∃l,σ.m[j]? =ab l:=⟨_,yab (by rw[g.len];exact z)⟩;let F:Sg:={ σ with m:=σ.m.set j l,H:=σ.H.set j (.var d' st)};obtain⟨b,G,t,rfl,I,J,M⟩:=g.dF j _ l y A;have Q:=hd σ g rfl _ J
 obtain⟨R,S⟩:=YN (σ':=F) (mi:=ab b) (mi':=ab b) g y A rfl rfl rfl rfl rfl rfl rfl (ym _)
  (λ_ _ _=>rfl) (λ_ _ _ _ _ h=>h) (λo _ T=>T) (.inl rfl) (λq=>⟨rfl,_,_,rfl⟩) (λ⟨_,_,q⟩=>by cases q) (λs e U q=>by cases q)
  (λf=>⟨b,G,t,rfl,I,by rw[hsz];exact Yg f _ _ Q,by rw[hsz];exact M⟩)
  (λv s st e d q=>by cases q)
 grind
def wG{α O:Type}(l:yL α)(f:α->yL α->yO O):yO O:=match l with
 |x::r=>f x r
 |[]=>ad
inductive kK where
 |rows (t:Tmp) (yQ:List Nat) (T:Ty) (e:yc) (np:List Nat)
 |focus (t:Tmp) (U:Ty) (e:yc)
 |done (t:Tmp)
 |fresh (t:Tmp) (i:Nat)
 |cO (t:Tmp) (yQ:List Nat) (T:Ty) (e:yc)
 |ic (t:Tmp)
 |ig (t:Tmp)
 |gb (t:Tmp) (i:Nat)
 |any (t:Tmp) (i:Nat) (T:Ty)
 |dJ (t:Tmp)
 |split (t:Tmp) (ks:List Nat)
 |hole
 |flat (t:Tmp)
def ZGd:ah->Bool
 |.aR _ _ _ ae _ _ _=>ae
 |_=>af
section
variable{O:Type}{out:O}
abbrev Kh(O:Type):=yL TD->yL ah->yO O
def IF(t:Tmp)(yQ:yL Nat)(T:Ty)(e:yc)(f:yL Nat)(a:yL TD)(h:yL ah)(K:Kh O):yO O:=
 match a[t]? with
 |some (.aj id [])=>match h[id]? with
  |some (.var d ae)=>(jO T (.rw h.length) yQ d).bind λg=>if(TD.frees h.length a&&h.all (ah.free h.length))=ae then K a ((h++[ah.aR T f [] ae e [] []]).set id (.var g ae)) else ad
  |_=>ad
 |_=>ad
def IG(t:Tmp)(yQ:yL Nat)(T:Ty)(e:yc)(a:yL TD)(h:yL ah)(K:Kh O):yO O:=
 match a[t]? with
 |some (.aj id [])=>match h[id]? with
  |some (.var d ae)=>(jO T (.rw h.length) yQ d).bind λf=>if(TD.frees h.length a&&h.all (ah.free h.length))=ae then K a ((h++[ah.aY T [] ae e []]).set id (.var f ae)) else ad
  |_=>ad
 |_=>ad
def IH(t:Tmp)(U:Ty)(e:yc)(a:yL TD)(h:yL ah)(K:Kh O):yO O:=
 let j:=h.findIdx ZGd
 match h[j]?,((a[t]?).bind TD.num) with
 |some (.aR T l v ae m f g),ab i=>if(TD.frees h.length a&&h.all (ah.free h.length))=ae then if ag (i.n=(f.length:Int))=ae then wG g λx r=>
   (jO U (.own h.length ad U ad) l (.p (Wo l (.v T x)))).bind λd=>K a ((h++[ah.log U e []]).set j (.bL T l v ae m f d r)) else ad else ad
 |_,_=>ad
def sJ(h:yL ah):TD->yO (TD×yL Nat)
 |.rw j=>match h[j]? with
  |some (.aR T _ _ _ _ f [])=>ab (.p (.sl ad T f),[j])
  |some (.aY T _ _ _ l)=>ab (.p (.sl ad T l),[j])
  |_=>ad
 |d=>ab (d,[])
def II(h:yL ah):TD->(TD->yL Nat->yO O)->yO O
 |.rw j,K=>match h[j]? with
  |some (.aR T _ _ _ _ g f)=>if f.isEmpty=ae then K (.p (.sl ad T g)) [j] else ad
  |some (.aY T _ _ _ l)=>K (.p (.sl ad T l)) [j]
  |_=>ad
 |d,K=>K d []
theorem ZA0{h:yL ah}{d:TD}{K:TD->yL Nat->yO O}(k:II h d K=ab out):∃q,sJ h d=ab q/\K q.1 q.2=ab out:=by
 unfold II at k;unfold sJ;split at k
 .rename_i j;dsimp only;split at k
  all_goals simp_all
 simp_all
def IJ(h:yL ah):yL TD->(yL TD->yL Nat->yO O)->yO O
 |[],K=>K [] []
 |d::r,K=>II h d λx l=>IJ h r λy m=>K (x::y) (l++m)
def sK(h:yL ah):yL TD->yO (yL TD×yL Nat)
 |[]=>ab ([],[])
 |d::r=>match sJ h d,sK h r with
  |some q,ab w=>ab (q.1::w.1,q.2++w.2)
  |_,_=>ad
theorem Zpq{h:yL ah}:∀{f:yL TD}{K:yL TD->yL Nat->yO O},IJ h f K=ab out->∃q,sK h f=ab q/\K q.1 q.2=ab out
 |[],K,k=>⟨_,rfl,k⟩
 |d::r,K,k=>by
  obtain⟨q,g,k⟩:=ZA0 k;obtain⟨w,j,k⟩:=Zpq k;exact⟨(q.1::w.1,q.2++w.2),by simp only[sK,g,j],k⟩
def jU:ah->ah
 |.aR T f v _ e a b=>.aR T f v af e a b
 |.aY t v _ e l=>.aY t v af e l
 |e=>e
def iR(ids:yL Nat)(H:yL ah):yL ah:=(yo H.length).zipWith (λi e=>if ids.contains i then jU e else e) H
def sL(t:Tmp)(a:yL TD)(h:yL ah)(K:Kh O):yO O:=
 match a[t]? with
 |some (.aj id [])=>match h[id]? with
  |some (.var (.agg f) st)=>IJ h f λx l=>K a ((iR l h).set id (.var (.agg x) st))
  |_=>ad
 |_=>ad
def wH(t:Tmp)(i:Nat)(a:yL TD)(h:yL ah)(K:Kh O):yO O:=
 match a[t]? with
 |some (.aj j [])=>match h[j]? with
  |some (.var (.agg f) st)=>match f[i]? with
   |some (.rv id v s 0 n)=>match h[id]? with
    |some (.aY T w _ _ l)=>if(ag (v=w.length)&&(ag (s=T.size)&&ag (n=l.length)))=ae then K a (h.set j (.var (.agg (f.set i (.rw id))) st)) else ad
    |_=>ad
   |_=>ad
  |_=>ad
 |_=>ad
def IK(t:Tmp)(a:yL TD)(h:yL ah)(K:Kh O):yO O:=
 match a[t]? with
 |some (.rv id v s 0 n)=>match h[id]? with
  |some (.aY T w _ _ l)=>if(ag (v=w.length)&&(ag (s=T.size)&&ag (n=l.length)))=ae then K (a.set t (.rw id)) h else ad
  |_=>ad
 |_=>ad
def IL(t:Tmp)(a:yL TD)(h:yL ah)(K:Kh O):yO O:=
 match a[t]? with
 |some (.aj j [])=>match h[j]? with
  |some (.var (.rv id v s 0 n) st)=>match h[id]? with
   |some (.aY T w _ _ l)=>if(ag (v=w.length)&&(ag (s=T.size)&&ag (n=l.length)))=ae then K a (h.set j (.var (.rw id) st)) else ad
   |_=>ad
  |_=>ad
 |_=>ad
def IM(t:Tmp)(i:Nat)(T:Ty)(a:yL TD)(h:yL ah)(K:Kh O):yO O:=
 match a[t]? with
 |some (.aj j [])=>match h[j]? with
  |some (.var (.agg f) st)=>match f[i]? with
   |some (.p x)=>(TP.to jL x T).bind λy=>K a (h.set j (.var (.agg (f.set i (.p (.v T y)))) st))
   |_=>ad
  |some (.var (.p x) st)=>(TP.to jL x T).bind λy=>K a (h.set j (.var (.p (.v T y)) st))
  |_=>ad
 |_=>ad
def pK:TP->TD
 |.arr n s f=>.arr n s (f.map TD.p)
 |x=>.p x
def IN(t:Tmp)(a:yL TD)(h:yL ah)(K:Kh O):yO O:=
 match a[t]? with
 |some (.aj j [])=>match h[j]? with
  |some (.var (.p (.arr n s f)) st)=>K a (h.set j (.var (.arr n s (f.map TD.p)) st))
  |some (.var (.p (.agg f)) st)=>K a (h.set j (.var (.agg (f.map pK)) st))
  |_=>K a h
 |_=>K a h
def wI(z:Int)(t:Tmp)(a:yL TD)(h:yL ah)(K:Kh O):yL Nat->yO O
 |[]=>ad
 |n::r=>if(z==(n:Int))=ae then K (a.set t (.p (.v (.int .i64) (n:Int)))) h else wI z t a h K r
def IP(t:Tmp)(ks:yL Nat)(a:yL TD)(h:yL ah)(K:Kh O):yO O:=
 match a.getD t .an with
 |.p (.v (.int .i64) z)=>wI z t a h K ks
 |_=>ad
def ZLe(a:yL TD)(h:yL ah)(K:Kh O):yO O:=K a (h++[.gone])
def IQ(t:Tmp)(a:yL TD)(h:yL ah)(K:Kh O):yO O:=
 match a[t]? with
 |some (.aj j [])=>match h[j]? with
  |some (.var d st)=>(d.flat (lk h)).bind λx=>K a (h.set j (.var (.p x) st))
  |_=>ad
 |_=>ad
def ghT:kK->yL TD->yL ah->Kh O->yO O
 |.rows t f T e g,a,h,K=>IF t f T e g a h K
 |.focus t U e,a,h,K=>IH t U e a h K
 |.done t,a,h,K=>sL t a h K
 |.fresh t i,a,h,K=>wH t i a h K
 |.cO t f T e,a,h,K=>IG t f T e a h K
 |.ic t,a,h,K=>IK t a h K
 |.ig t,a,h,K=>IL t a h K
 |.gb t i,a,h,K=>wH t i a h λa h=>sL t a h K
 |.any t i T,a,h,K=>IM t i T a h K
 |.dJ t,a,h,K=>IN t a h K
 |.split t ks,a,h,K=>IP t ks a h K
 |.hole,a,h,K=>ZLe a h K
 |.flat t,a,h,K=>IQ t a h K
def IR(g:yO kK)(a:yL TD)(h:yL ah)(K:Kh O):yO O:=
 match g with
 |none=>K a h
 |some g=>ghT g a h K
theorem IS{H:yL ah}{e:ah}(h:H.all (ah.free H.length)=ae):aJ (H++[e])=aJ H++[e.er (lk (H++[e]))]:=by
 unfold aJ;rw[yaw];congr 1;refine yci λx f=> ?_;have g:=yal.1 h x f;exact(Zyy (λid t j=>lC id t j) x g).symm
theorem IT{H:yL ah}{e:ah}{a:yL TD}(h:TD.frees H.length a=ae):TD.aG (lk (H++[e])) a=TD.aG (lk H) a:=(dg (λid t f=>lC id t f) a h).symm
theorem ZyQ{t:Tmp}{yQ:yL Nat}{T:Ty}{e:yc}{f:yL Nat}{a:yL TD}{h:yL ah}{K:Kh O}(k:IF t yQ T e f a h K=ab out):
 ∃y z,K y z=ab out/\y.length=a.length/\Wq (aJ h) (aJ z)/\∀(σ:Sg)(g:Act),aD σ (TD.aG (lk h) a) g->aD σ (TD.aG (lk z) y) g:=by
 unfold IF at k;split at k
 .rename_i id hid;split at k
  .rename_i d j;obtain⟨l,I,k⟩:=yf.1 k;obtain⟨m,k⟩:=Za k;rw[yi]at m;have A:id < h.length:=(yu.1 j).1;have E:(h++[ah.aR T f [] ae e [] []])[id]? =ab (.var d ae):=by rw[ybe A];exact j
   have F:lk ((h++[ah.aR T f [] ae e [] []]).set id (.var l ae))=lk (h++[ah.aR T f [] ae e [] []]):=Vu E rfl rfl;refine⟨_,_,k,rfl, ?_,λσ g r=> ?_⟩
   .have J:aJ ((h++[ah.aR T f [] ae e [] []]).set id (.var l ae))=(aJ h++[aq.row 0 T.size ae e (.p (.arr 0 T.size []))]).set id (.var (l.er (lk (h++[ah.aR T f [] ae e [] []]))) ae):=by
     rw[Xs F,IS m.2];rfl
    rw[J];have M:(aJ h)[id]? =ab (.var (d.er (lk h)) ae):=by rw[Z9 j];rfl
    refine ZCj (yQ:=yQ) M ?_;have G:=pC (L:=lk (h++[ah.aR T f [] ae e [] []])) yQ d l I;have Q:d.er (lk (h++[ah.aR T f [] ae e [] []]))=d.er (lk h):=(kI (λid t R=>lC id t R) d (yal.1 m.2 _ (ybk j))).symm;rw[Q,(lD (q:=(0,T.size,0)) (x:=.aR T f [] ae e [] []) (List.getElem?_concat_length ..) rfl).1]at G;rw[Z2];exact G
   .rw[F,IT m.1];exact r
  .cases k
 .cases k
theorem ZyR{t:Tmp}{yQ:yL Nat}{T:Ty}{e:yc}{a:yL TD}{h:yL ah}{K:Kh O}(k:IG t yQ T e a h K=ab out):
 ∃y z,K y z=ab out/\y.length=a.length/\Wq (aJ h) (aJ z)/\∀(σ:Sg)(f:Act),aD σ (TD.aG (lk h) a) f->aD σ (TD.aG (lk z) y) f:=by
 unfold IG at k;split at k
 .rename_i id hid;split at k
  .rename_i d g;obtain⟨j,I,k⟩:=yf.1 k;obtain⟨m,k⟩:=Za k;rw[yi]at m;have A:id < h.length:=(yu.1 g).1;have E:(h++[ah.aY T [] ae e []])[id]? =ab (.var d ae):=by rw[ybe A];exact g
   have F:lk ((h++[ah.aY T [] ae e []]).set id (.var j ae))=lk (h++[ah.aY T [] ae e []]):=Vu E rfl rfl;refine⟨_,_,k,rfl, ?_,λσ f r=> ?_⟩
   .have J:aJ ((h++[ah.aY T [] ae e []]).set id (.var j ae))=(aJ h++[aq.row 0 T.size ae e (.p (.arr 0 T.size []))]).set id (.var (j.er (lk (h++[ah.aY T [] ae e []]))) ae):=by
     rw[Xs F,IS m.2];rfl
    rw[J];have M:(aJ h)[id]? =ab (.var (d.er (lk h)) ae):=by rw[Z9 g];rfl
    refine ZCj (yQ:=yQ) M ?_;have G:=pC (L:=lk (h++[ah.aY T [] ae e []])) yQ d j I;have Q:d.er (lk (h++[ah.aY T [] ae e []]))=d.er (lk h):=(kI (λid t R=>lC id t R) d (yal.1 m.2 _ (ybk g))).symm;rw[Q,(gK (T:=T) (v:=[]) (l:=[]) (List.getElem?_concat_length ..)).1]at G;rw[Z2];exact G
   .rw[F,IT m.1];exact r
  .cases k
 .cases k
theorem ZwF{t:Tmp}{U:Ty}{e:yc}{a:yL TD}{h:yL ah}{K:Kh O}(k:IH t U e a h K=ab out):
 ∃A E,K A E=ab out/\A.length=a.length/\Wq (aJ h) (aJ E)/\∀(σ:Sg)(l:Act),aD σ (TD.aG (lk h) a) l->aD σ (TD.aG (lk E) A) l:=by
 unfold IH at k;dsimp only at k;generalize h.findIdx ZGd=j at k;split at k
 .rename_i T g v m f y i F hi;obtain⟨z,k⟩:=Za k;obtain⟨_,k⟩:=Za k;simp only[yi]at z;obtain⟨z,S⟩:=z
  cases y with
  |nil=>cases k
  |cons x r=>
   have k:((jO U (.own h.length ad U ad) g (.p (Wo g (.v T x)))).bind λd=>K a ((h++[ah.log U e []]).set j (.bL T g v ae m f d r)))=ab out:=k;obtain⟨d,W,k⟩:=yf.1 k;have G:j < h.length:=(yu.1 F).1;have I:(h++[ah.log U e []])[j]? =ab (.aR T g v ae m f (x::r)):=by rw[ybe G];exact F
   have M:lk ((h++[ah.log U e []]).set j (.bL T g v ae m f d r))=lk (h++[ah.log U e []]):=ZB6 I rfl;refine⟨_,_,k,rfl, ?_,λσ l X=> ?_⟩
   .have Y:aJ ((h++[ah.log U e []]).set j (.bL T g v ae m f d r))=(aJ h++[aq.log U.size e []]).set j (.row v.length T.size ae m (.arr (f.length+(r.length+1)) T.size (((f.map T.enc++(x::r).map λx=>(Wo g (.v T x)).pe).map .p).set f.length (d.er (lk (h++[ah.log U e []])))))):=by
     rw[Xs M,IS S];have Q:=ZB7 (f.map λx=>Dv.p (T.enc x)) (r.map λx=>.p (Wo g (.v T x)).pe) (.p (Wo g (.v T x)).pe) (d.er (lk (h++[ah.log U e []])));rw[yad]at Q
     have J:((f.map T.enc++(x::r).map λx=>(Wo g (.v T x)).pe).map Dv.p).set f.length (d.er (lk (h++[ah.log U e []])))=(f.map λx=>Dv.p (T.enc x))++d.er (lk (h++[ah.log U e []]))::r.map λx=>.p (Wo g (.v T x)).pe:=by
      rw[yaw,ybd,ybd];exact Q
     rw[J];rfl
    rw[Y];have Z:(aJ h)[j]? =ab (.row v.length T.size ae m (.p (.arr (f.length+(r.length+1)) T.size (f.map T.enc++(x::r).map λx=>(Wo g (.v T x)).pe)))):=by rw[Z9 F];rfl
    have hx:(f.map T.enc++(x::r).map λx=>(Wo g (.v T x)).pe)[f.length]? =ab (Wo g (.v T x)).pe:=by
     grind
    refine ZGc (yQ:=g) Z hx ?_;have R:=pC (L:=lk (h++[ah.log U e []])) g _ d W
    have e3:(TD.own h.length ad U ad).er (lk (h++[ah.log U e []]))=.own h.length ad U.size []:=by
     rw[TD.er,pB];rfl
    rw[e3,TD.er]at R;rw[Z2];exact R
   .rw[M,IT z];exact X
 .cases k
theorem ZGg(e:ah):eR (ab (jU e))=eR (ab e):=by cases e <;> rfl
theorem wJ(ids:yL Nat)(H:yL ah)(i:Nat):(iR ids H)[i]? =(H[i]?).map λe=>if ids.contains i then jU e else e:=by
 unfold iR
 all_goals grind
theorem ZuU(ids:yL Nat)(H:yL ah):lk (iR ids H)=lk H:=by
 funext i;unfold lk;rw[wJ]
 cases H[i]? with
 |none=>rfl
 |some e=>
  show eR (ab (if ids.contains i=ae then jU e else e))=_
  split
  .exact ZGg e
  .rfl
theorem ZDQ(ids:yL Nat)(H:yL ah):bZ (aJ H) (aJ (iR ids H)):=by
 refine ZFW (by rw[Z2,Z2];unfold iR;simp) λi a b f g=> ?_;unfold aJ at f g;rw[yao]at f g;rw[ZuU,wJ]at g
 cases h:H[i]? with
 |none=>rw[h]at f;cases f
 |some e=>
  rw[h]at f g;cases f;cases g;show eP (e.er (lk H)) (ah.er (lk H) (if ids.contains i=ae then jU e else e))
  split
  .cases e <;> first|exact .refl _|exact .lock
  .exact .refl _
theorem ZGh{h H:yL ah}{d:TD}{q:TD×yL Nat}(hq:sJ h d=ab q)(M:lk H=lk h)(hl:∀j,j∈q.2->∀e,h[j]? =ab e->H[j]? =ab (jU e)):
 (q.1.er (lk H)).size=(d.er (lk H)).size/\∀σ:Sg,Ok σ->σ.H=aJ H->∀us,yH σ (d.er (lk H)) us->yH σ (q.1.er (lk H)) us:=by
 have Q:∀x:TD,(q.1.er (lk H)).size=(q.1.er (lk H)).size/\∀σ:Sg,Ok σ->σ.H=aJ H->∀us,yH σ (q.1.er (lk H)) us->yH σ (q.1.er (lk H)) us:=λ_=>⟨rfl,λ_ _ _ _ r=>r⟩
 have row:∀(j:Nat)(v:Nat)(s:Nat)(e:yc)(m:yL Pl)(T:Ty)(l:yL T.aU),(TD.rw j).er (lk H)=.rv j v s 0 m.length->(aJ H)[j]? =ab (.row v s af e (.p (.arr m.length s m)))->s=T.size->m=l.map T.enc->
  ((TD.p (.sl ad T l)).er (lk H)).size=((TD.rw j).er (lk H)).size/\∀σ:Sg,Ok σ->σ.H=aJ H->∀us,yH σ ((TD.rw j).er (lk H)) us->yH σ ((TD.p (.sl ad T l)).er (lk H)) us:=by
  intro j v s e m T l E F G e4;subst G;rw[E];refine⟨rfl,λσ I g us r=> ?_⟩;have A:=cY.vG (H:=σ.H) (lo:=0) (n:=m.length) (by rw[g];exact F) (by omega);rw[List.drop_zero,List.take_length]at A;have:=DA I A us r;rw[TD.er,TP.pe, <-e4];simpa[yH] using this
 unfold sJ at hq;split at hq
 .rename_i j;split at hq
  .rename_i T J v st e f y;cases hq;have g:=hl j (yau ..) _ y;have z:=lD (q:=(v.length,T.size,f.length+0)) (x:=jU (.aR T J v st e f [])) g rfl;refine row j v.length T.size e (f.map T.enc) T f (by rw[z.1,yad];rfl) ?_ rfl rfl;rw[Z9 g,yad];simp only[jU,ah.er,List.map_nil,ybf,List.length_nil,Nat.add_zero]
  .rename_i T v st e l y;cases hq;have g:=hl j (yau ..) _ y;have z:=gK (T:=T) (v:=v) (st:=af) (e:=e) (l:=l) g;refine row j v.length T.size e (l.map T.enc) T l (by rw[z.1,yad]) ?_ rfl rfl;rw[Z9 g,yad];rfl
  .cases hq
 grind
theorem ZuV{h H:yL ah}:∀{g:yL TD}{q:yL TD×yL Nat},sK h g=ab q->lk H=lk h->(∀j,j∈q.2->∀e,h[j]? =ab e->H[j]? =ab (jU e))->
 Dv.sizes (TD.aG (lk H) q.1)=Dv.sizes (TD.aG (lk H) g)/\∀σ:Sg,Ok σ->σ.H=aJ H->∀us,aM σ (TD.aG (lk H) g) us->aM σ (TD.aG (lk H) q.1) us
 |[],q,f,l,m=>by cases f;exact⟨rfl,λ_ _ _ _ r=>r⟩
 |d::r,q,f,l,m=>by
  simp only[sK]at f;split at f
  .rename_i I J z A;cases f;obtain⟨E,M⟩:=ZGh z l (λj y=>m j (List.mem_append_left _ y));obtain⟨F,Q⟩:=ZuV A l (λj y=>m j (List.mem_append_right _ y));refine⟨by simp only[TD.aG,Dv.sizes];rw[E,F],λσ R S us G=> ?_⟩;simp only[TD.aG,aM]at G ⊢;grind
  .cases f
theorem Zpr{t:Tmp}{a:yL TD}{h:yL ah}{K:Kh O}(k:sL t a h K=ab out):
 ∃y z,K y z=ab out/\y.length=a.length/\Wq (aJ h) (aJ z)/\∀(σ:Sg)(f:Act),aD σ (TD.aG (lk h) a) f->aD σ (TD.aG (lk z) y) f:=by
 unfold sL at k;split at k
 .rename_i id hid;split at k
  .rename_i m st F;obtain⟨q,G,k⟩:=Zpq k
   have g:(iR q.2 h)[id]? =ab (.var (.agg m) st):=by
    rw[wJ,F];show ab (if q.2.contains id=ae then jU (.var (.agg m) st) else .var (.agg m) st)=_
    split <;> rfl
   have l:lk (iR q.2 h)=lk h:=ZuU _ _;have E:lk ((iR q.2 h).set id (.var (.agg q.1) st))=lk (iR q.2 h):=Vu g rfl rfl;refine⟨_,_,k,rfl,(pJ (ZDQ q.2 h)).trans ?_,λσ f I=>by rw[E,l];exact I⟩;rw[Xs E];have A:(aJ (iR q.2 h))[id]? =ab (.var (.agg (TD.aG (lk (iR q.2 h)) m)) st):=by rw[Z9 g];rfl
   obtain⟨J,Q⟩:=ZuV (H:=iR q.2 h) G l (λj A e M=>by
    rw[wJ,M];show ab (if q.2.contains j=ae then jU e else e)=_
    rw[yW (by simpa using A)])
   refine ZIV A ?_ λσ R S T r=> ?_
   .exact J
   .simp only[TD.er,yH]at r ⊢;grind
  .cases k
 .cases k
theorem ZyS{L:Lk}{f:yL TD}{i:Nat}{x y:TD}(h:f[i]? =ab x)(e:y.er L=x.er L):TD.aG L (f.set i y)=TD.aG L f:=by
 rw[ZO,ZO,ybn,e];apply ybq
 all_goals grind
theorem ZmV{t:Tmp}{i:Nat}{a:yL TD}{h:yL ah}{K:Kh O}(k:wH t i a h K=ab out):
 ∃m y,K m y=ab out/\m.length=a.length/\Wq (aJ h) (aJ y)/\∀(σ:Sg)(f:Act),aD σ (TD.aG (lk h) a) f->aD σ (TD.aG (lk y) m) f:=by
 unfold wH at k;split at k
 .rename_i j U;split at k
  .rename_i g st z;split at k
   .rename_i id v s n E;split at k
    .rename_i T w F e l G;obtain⟨c,I⟩:=Za k;clear k;rw[yi,yi,yP,yP,yP]at c;obtain⟨rfl,rfl,rfl⟩:=c;have A:lk (h.set j (.var (.agg (g.set i (.rw id))) st))=lk h:=Vu z rfl rfl
     have J:(TD.rw id).er (lk h)=(TD.rv id w.length T.size 0 l.length).er (lk h):=by
      refine(pE (v:=w) (s:=T.size) (N:=l.length) ?_).1;unfold Yh lk;dsimp only;rw[G];rfl
     refine⟨_,_,I,rfl, ?_,λσ f M=>by rw[A];exact M⟩
     have Q:aJ (h.set j (.var (.agg (g.set i (.rw id))) st))=aJ h:=by
      rw[Xs A];show(aJ h).set j (.var (.agg (TD.aG (lk h) (g.set i (.rw id)))) st)=aJ h;rw[ZyS E J];apply ybq;intro q;by_cases R:j=q
      .subst R;have S:(aJ h)[j]? =ab (.var (.agg (TD.aG (lk h) g)) st):=by rw[Z9 z];rfl
       grind
      grind
     rw[Q];exact Wq.refl _
    .cases k
   .cases k
  .cases k
 .cases k
theorem ZyT{h:yL ah}{id:Nat}{T:Ty}{w:yL Unit}{st:Bool}{e:yc}{l:yL T.aU}(f:h[id]? =ab (.aY T w st e l)):(TD.rw id).er (lk h)=(TD.rv id w.length T.size 0 l.length).er (lk h):=by
 refine(pE (v:=w) (s:=T.size) (N:=l.length) ?_).1;unfold Yh lk;dsimp only;rw[f];rfl
theorem ZtG{t:Tmp}{a:yL TD}{h:yL ah}{K:Kh O}(k:IK t a h K=ab out):
 ∃g j,K g j=ab out/\g.length=a.length/\Wq (aJ h) (aJ j)/\∀(σ:Sg)(f:Act),aD σ (TD.aG (lk h) a) f->aD σ (TD.aG (lk j) g) f:=by
 unfold IK at k;split at k
 .rename_i id v s n m;split at k
  .rename_i T w y e l z;obtain⟨c,A⟩:=Za k;clear k;rw[yi,yi,yP,yP,yP]at c;obtain⟨rfl,rfl,rfl⟩:=c;exact⟨_,_,A,List.length_set,Wq.refl _,λσ f E=>by rw[ZyS m (ZyT z)];exact E⟩
  .cases k
 .cases k
theorem ZtH{t:Tmp}{a:yL TD}{h:yL ah}{K:Kh O}(k:IL t a h K=ab out):
 ∃m y,K m y=ab out/\m.length=a.length/\Wq (aJ h) (aJ y)/\∀(σ:Sg)(f:Act),aD σ (TD.aG (lk h) a) f->aD σ (TD.aG (lk y) m) f:=by
 unfold IL at k;split at k
 .rename_i j Q;split at k
  .rename_i id v s n st z;split at k
   .rename_i T w F e l G;obtain⟨c,I⟩:=Za k;clear k;rw[yi,yi,yP,yP,yP]at c;obtain⟨rfl,rfl,rfl⟩:=c;have A:lk (h.set j (.var (.rw id) st))=lk h:=Vu z rfl rfl;refine⟨_,_,I,rfl, ?_,λσ f J=>by rw[A];exact J⟩
    have M:aJ (h.set j (.var (.rw id) st))=aJ h:=by
     rw[Xs A];show(aJ h).set j (.var ((TD.rw id).er (lk h)) st)=aJ h;rw[ZyT G];apply ybq;intro q;by_cases E:j=q
     .subst E;have g:(aJ h)[j]? =ab (.var ((TD.rv id w.length T.size 0 l.length).er (lk h)) st):=by rw[Z9 z];rfl
      rw[List.getElem?_set_self (yu.1 g).1,g]
     .rw[List.getElem?_set_ne E]
    rw[M];exact Wq.refl _
   .cases k
  .cases k
 .cases k
theorem ZCk:∀{l:yL Dv}{i:Nat}{d e:Dv},l[i]? =ab d->Wk d e->cR l (l.set i e)
 |[],_,_,_,h,_=>by simp at h
 |x::r,0,d,e,h,k=>by
  simp only[yam,yn]at h;subst h
  exact .cons k (cR.refl r)
 |x::r,i+1,d,e,h,k=>by
  simp only[yak]at h;exact .cons (Wk.refl x) (ZCk h k)
theorem ZGi{L:Lk}:∀{f:yL TD}{i:Nat}{d e:TD},f[i]? =ab d->(TD.aG L f)[i]? =ab (d.er L)/\TD.aG L (f.set i e)=(TD.aG L f).set i (e.er L)
 |[],_,_,_,h=>by simp at h
 |x::r,0,d,e,h=>by
  simp only[yam,yn]at h;subst h
  exact⟨rfl,rfl⟩
 |x::r,i+1,d,e,h=>by
  simp only[yak]at h;obtain⟨g,j⟩:=ZGi (e:=e) h;exact⟨g,by show x.er L::TD.aG L (r.set i e)=_;rw[j];rfl⟩
theorem ZA4{t:Tmp}{i:Nat}{T:Ty}{a:yL TD}{h:yL ah}{K:Kh O}(k:IM t i T a h K=ab out):
 ∃A E,K A E=ab out/\A.length=a.length/\Wq (aJ h) (aJ E)/\∀(σ:Sg)(f:Act),aD σ (TD.aG (lk h) a) f->aD σ (TD.aG (lk E) A) f:=by
 unfold IM at k;split at k
 .rename_i j Q;split at k
  .rename_i z st l;split at k
   .rename_i x I;obtain⟨y,F,k⟩:=yf.1 k;have m:lk (h.set j (.var (.agg (z.set i (.p (.v T y)))) st))=lk h:=Vu l rfl rfl;refine⟨_,_,k,rfl, ?_,λσ f G=>by rw[m];exact G⟩;rw[Xs m];have g:(aJ h)[j]? =ab (.var (.agg (TD.aG (lk h) z)) st):=by rw[Z9 l];rfl
    obtain⟨J,M⟩:=ZGi (L:=lk h) (e:=.p (.v T y)) I;refine pJ (bZ.eu g (eP.var ?_));show Wk (.agg (TD.aG (lk h) z)) (.agg (TD.aG (lk h) (z.set i (.p (.v T y)))));rw[M];exact cR.agg (ZCk J (Wk.p (rE F)))
   .cases k
  .rename_i x st l;obtain⟨y,F,k⟩:=yf.1 k;have m:lk (h.set j (.var (.p (.v T y)) st))=lk h:=Vu l rfl rfl;refine⟨_,_,k,rfl, ?_,λσ f G=>by rw[m];exact G⟩;rw[Xs m];have g:(aJ h)[j]? =ab (.var (.p x.pe) st):=by rw[Z9 l];rfl
   exact pJ (bZ.eu g (eP.var (Wk.p (rE F))))
  .cases k
 .cases k
theorem Wk.dJ{n s:Nat}{xs:yL Pl}:Wk (.p (.arr n s xs)) (.arr n s (xs.map Dv.p)):=⟨rfl,rfl,λσ vs r=>by
 simp only[yH,aB]at r ⊢;exact⟨by rw[yad];exact r.1,λx f=>by obtain⟨y,g,rfl⟩:=List.mem_map.1 f;exact r.2.1 y g,jC.2 r.2.2⟩⟩
theorem ZGj(L:Lk)(x:TP):Wk (.p x.pe) ((pK x).er L):=by
 unfold pK;split
 .rename_i n s f;show Wk (.p (.arr n s (TP.cl f))) (.arr n s (TD.aG L (f.map TD.p)));rw[rV];exact Wk.dJ
 .exact Wk.refl _
theorem ZuW(L:Lk):∀(xs:yL TP),cR ((TP.cl xs).map Dv.p) (TD.aG L (xs.map pK))
 |[]=>cR.nil
 |x::r=>cR.cons (ZGj L x) (ZuW L r)
theorem ZyU{t:Tmp}{a:yL TD}{h:yL ah}{K:Kh O}(k:IN t a h K=ab out):
 ∃z A,K z A=ab out/\z.length=a.length/\Wq (aJ h) (aJ A)/\∀(σ:Sg)(g:Act),aD σ (TD.aG (lk h) a) g->aD σ (TD.aG (lk A) z) g:=by
 unfold IN at k;split at k
 .rename_i j I;split at k
  .rename_i n s f st m;have y:lk (h.set j (.var (.arr n s (f.map TD.p)) st))=lk h:=Vu m rfl rfl;refine⟨_,_,k,rfl, ?_,λσ g E=>by rw[y];exact E⟩;rw[Xs y];have l:(aJ h)[j]? =ab (.var (.p (.arr n s (TP.cl f))) st):=by rw[Z9 m];rfl
   refine pJ (bZ.eu l (eP.var ?_));show Wk (.p (.arr n s (TP.cl f))) (.arr n s (TD.aG (lk h) (f.map TD.p)))
   have e:TD.aG (lk h) (f.map TD.p)=(TP.cl f).map Dv.p:=by
    rw[ZO,W0,ybd,ybd];rfl
   rw[e];exact Wk.dJ
  .rename_i f st m;have y:lk (h.set j (.var (.agg (f.map pK)) st))=lk h:=Vu m rfl rfl;refine⟨_,_,k,rfl, ?_,λσ g E=>by rw[y];exact E⟩;rw[Xs y];have l:(aJ h)[j]? =ab (.var (.p (.agg (TP.cl f))) st):=by rw[Z9 m];rfl
   refine pJ (bZ.eu l (eP.var ?_));show Wk (.p (.agg (TP.cl f))) (.agg (TD.aG (lk h) (f.map pK)));have F:=ZyG (TP.cl f);have G:=cR.agg (ZuW (lk h) f);exact⟨F.size.trans G.size,F.agg.trans G.agg,λσ vs r=>G.dq σ vs (F.dq σ vs r)⟩
  .exact⟨_,_,k,rfl,Wq.refl _,λ_ _ r=>r⟩
 .exact⟨_,_,k,rfl,Wq.refl _,λ_ _ r=>r⟩
theorem ZyV{t:Tmp}{a:yL TD}{h:yL ah}{K:Kh O}(k:IQ t a h K=ab out):
 ∃g l,K g l=ab out/\g.length=a.length/\Wq (aJ h) (aJ l)/\∀(σ:Sg)(f:Act),aD σ (TD.aG (lk h) a) f->aD σ (TD.aG (lk l) g) f:=by
 unfold IQ at k;split at k
 .rename_i j G;split at k
  .rename_i d st z;obtain⟨x,E,k⟩:=yf.1 k;have A:lk (h.set j (.var (.p x) st))=lk h:=Vu z rfl rfl;refine⟨_,_,k,rfl, ?_,λσ f F=>by rw[A];exact F⟩;rw[Xs A];have m:(aJ h)[j]? =ab (.var (d.er (lk h)) st):=by rw[Z9 z];rfl
   have y:(d.er (lk h)).flat=ab x.pe:=by rw[rI,E];rfl
   refine pJ (bZ.eu m (eP.var ?_))
   exact⟨(uT _ _ y).symm,(BG y).symm,λσ vs r=>by
    have:=qG _ _ _ y r;show yH σ (.p x.pe) vs;simp only[yH];exact this⟩
  .cases k
 .cases k
theorem Zps{z:Int}{t:Tmp}{a:yL TD}{h:yL ah}{K:Kh O}(ha:a.getD t .an=.p (.v (.int .i64) z)):∀{ks:yL Nat},wI z t a h K ks=ab out->K a h=ab out
 |[],k=>by cases k
 |n::r,k=>by
  unfold wI at k;split at k
  .rename_i e;have e:z=(n:Int):=by simpa using e
   rw[bE (by rw[ha,e])]at k;exact k
  .exact Zps ha k
theorem ZwG{t:Tmp}{ks:yL Nat}{a:yL TD}{h:yL ah}{K:Kh O}(k:IP t ks a h K=ab out):
 ∃g j,K g j=ab out/\g.length=a.length/\Wq (aJ h) (aJ j)/\∀(σ:Sg)(f:Act),aD σ (TD.aG (lk h) a) f->aD σ (TD.aG (lk j) g) f:=by
 unfold IP at k;split at k
 .rename_i z l;exact⟨_,_,Zps l k,rfl,Wq.refl _,λ_ _ r=>r⟩
 .cases k
theorem ZGk{g:yO kK}{a:yL TD}{h:yL ah}{K:Kh O}(k:IR g a h K=ab out):
 ∃j l,K j l=ab out/\j.length=a.length/\Wq (aJ h) (aJ l)/\∀(σ:Sg)(f:Act),aD σ (TD.aG (lk h) a) f->aD σ (TD.aG (lk l) j) f:=by
 unfold IR at k;split at k
 .exact⟨_,_,k,rfl,Wq.refl _,λ_ _ r=>r⟩
 .rename_i g
  cases g with
  |rows t z T e W=>exact ZyQ k
  |focus t U e=>exact ZwF k
  |done t=>exact Zpr k
  |fresh t i=>exact ZmV k
  |cO t z T e=>exact ZyR k
  |ic t=>exact ZtG k
  |ig t=>exact ZtH k
  |gb t i=>
   obtain⟨X,Y,k,A,E,F⟩:=ZmV (K:=λa h=>sL t a h K) k;obtain⟨G,I,k,J,M,Q⟩:=Zpr k
   exact⟨G,I,k,J.trans A,E.trans M,λσ f r=>Q σ f (F σ f r)⟩
  |any t i T=>exact ZA4 k
  |dJ t=>exact ZyU k
  |split t ks=>exact ZwG k
  |flat t=>exact ZyV k
  |hole=>
   replace k:K a (h++[.gone])=ab out:=k
   refine⟨_,_,k,rfl, ?_,λσ f R=>by rw[lB rfl];exact R⟩;rw[nW (lB rfl)];intro σ S e;obtain⟨to,y⟩:=CR S;exact⟨{ σ with m:=σ.m++[ad],H:=σ.H++[.gone]},rfl,by rw[<-e];rfl,to,y⟩
end
end Go.Ev
end
section
namespace Go.Ev
section
variable{P:yg}
theorem pL{x y:Code}{ts ts1 h:yL Dv}{H H1 H2:yL aq}{ex:Ex}(A:Xv P x ts H .normal ts1 H1)(E:Xv P y ts1 H1 ex h H2):Xv P (.seq x y) ts H ex h H2:=by
 intro σ a F G I;refine wp_seq (wp_mono (A σ a F G I) ?_);rintro e J W ⟨rfl,M,rfl,Q,j,l,f⟩;refine wp_mono (E M J l Q f) ?_;rintro e R S ⟨rfl,T,rfl,U,m,z,g⟩;exact⟨rfl,T,rfl,U,j.trans m,z,g⟩
theorem ZuX{x y:Code}{ts ts1:yL Dv}{H H1:yL aq}{ex:Ex}(f:ex≠ .normal)(h:Xv P x ts H ex ts1 H1):Xv P (.seq x y) ts H ex ts1 H1:=by
 intro σ a j l m;refine wp_seq (wp_mono (h σ a j l m) ?_);rintro e z A ⟨rfl,g⟩
 cases ex with
 |normal=>exact absurd rfl f
 |exit id=>exact⟨rfl,g⟩
 |ret=>exact⟨rfl,g⟩
theorem wK{c:yp}{x y:Code}{ts ts1:yL Dv}{H H1:yL aq}{ex:Ex}{b:Bool}(hc:aF P ts 0 c=.p (.bool b))(h:Xv P (if b then x else y) ts H ex ts1 H1):Xv P (.cond c x y) ts H ex ts1 H1:=by
 intro σ a j l f;have g:=Zq (P:=P) f 0 c;rw[hc]at g;cases b
 .exact wp_cond_false (Yn g) (h σ a j l f)
 .exact wp_cond_true (Yn g) (h σ a j l f)
def IU(id:Nat):Ex->Ex
 |.exit i=>if i=id then .normal else .exit i
 |f=>f
theorem ZA5{id:Nat}{f:Code}{ts ts1:yL Dv}{H H1:yL aq}{ex:Ex}(h:Xv P f ts H ex ts1 H1):Xv P (.block id f) ts H (IU id ex) ts1 H1:=by
 intro σ a j l m;refine wp_block (wp_mono (h σ a j l m) ?_);rintro e z A ⟨rfl,g⟩
 cases ex with
 |normal=>exact⟨rfl,g⟩
 |exit y=>
  simp only[Ex.to,Exit.inBlock,IU];split
  .exact⟨rfl,g⟩
  .exact⟨rfl,g⟩
 |ret=>exact⟨rfl,g⟩
theorem ZA6{f:Code}{ts ts1:yL Dv}{H H1:yL aq}{ex:Ex}(g:Xv P f ts H ex ts1 H1):Xv P (.scope f) ts H ex ts1 H1:=by
 intro σ a h j l;refine wp_scope_straight (wp_mono (g σ a h j l) ?_);rintro e y z ⟨rfl,m⟩;cases ex <;> exact⟨rfl,m⟩
theorem ZDR{ts:yL Dv}{H:yL aq}:Xv P .skip ts H .normal ts H:=λσ a f g h=>wp_skip ⟨rfl,σ,rfl,g,To.refl σ,f,h⟩
theorem ZA7{n:Nat}{ts:yL Dv}{H:yL aq}:Xv P (.label n) ts H .normal ts H:=λσ a f g h=>wp_label ⟨rfl,σ,rfl,g,To.refl σ,f,h⟩
theorem ZDS{n:Nat}{ts:yL Dv}{H:yL aq}:Xv P (.exit n) ts H (.exit n) ts H:=λσ a f g h=>wp_exit ⟨rfl,σ,rfl,g,To.refl σ,f,h⟩
theorem ZyW{ts:yL Dv}{H:yL aq}:Xv P .ret ts H .ret ts H:=λσ a f g h=>wp_ret ⟨rfl,σ,rfl,g,To.refl σ,f,h⟩
theorem ZDT{c:Code}{ts ts1:yL Dv}{H H1:yL aq}{ex:Ex}(keep:yL Nat)(r:Xv P c ts H ex ts1 H1):Xv P c ts H ex (aI keep 0 ts1) H1:=by
 intro σ a j l m;refine wp_mono (r σ a j l m) ?_;rintro e A E ⟨rfl,y,rfl,z,g,h,f⟩;exact⟨rfl,y,rfl,z,g,h,Vs keep f⟩
def sM(n0:Nat)(sl:cH)(es:yL bG)(a:yL TD)(h:yL ah):yO (yL TV):=
 if once (yo n0++[]) then(W5 h (yo n0++[]) (yo n0++[])).bind λf=>(TD.bC (bc (yo n0++[])) (iy (sl.map (·.1)) 0 a)).bind λg=>
  (Sh.eU (lk f) (ss sl a.length) g).bind λq=>(bG.eU (lk f) es f).bind λw=>ab (q.2++w.2)
 else ad
theorem ZA8{n0:Nat}{sl:cH}{es:yL bG}{a:yL TD}{h:yL ah}{vs:yL TV}(k:sM n0 sl es a h=ab vs):
 ∃j h3,V6 a.length sl es vs=ab (j,h3)/\∀{c:Code}{ts:yL Dv}{H:yL aq}{ex:Ex},H.length=n0->Xv P c ts H ex (TD.aG (lk h) a) (aJ h)->Xv P c ts H ex (TD.aG (lk h3) j) (aJ h3):=by
 unfold sM at k;split at k
 .rename_i z;obtain⟨A,f,k⟩:=yf.1 k;obtain⟨I,E,k⟩:=yf.1 k;obtain⟨q,l,k⟩:=yf.1 k;obtain⟨w,e4,k⟩:=yf.1 k;cases k;obtain⟨J,F⟩:=so e4;have m:∀id t,Yh (lk A) id t ad=Yh (lk w.1) id t ad:=λid t=>by rw[F]
  refine⟨q.1,w.1, ?_,λ{c ts H ex}g r=> ?_⟩
  .unfold V6;rw[bN _ _ _ l];have:=sn e4 [];grind
  .have y:=ZDT (sl.map (·.1)) r;rw[<-wA]at y;have G:=ZDu [] [] y (by rw[g];exact z) (by rw[g];exact Qq (iw f) f) (by rw[g];exact dz (iw f) _ _ E);exact ZuA G (dh m _ _ _ l) (sq m e4)
 .cases k
theorem ZA9{n0:Nat}{sl:cH}{es:yL bG}{a:yL TD}{h:yL ah}{vs:yL TV}(hn:h.length=n0)(k:sM n0 sl es a h=ab vs):
 ∃I h3,V6 a.length sl es vs=ab (I,h3)/\∀(σ:Sg)(f:Act),Ok σ->σ.H=aJ h->aD σ (TD.aG (lk h) a) f->∃σ':Sg,σ'.w=σ.w/\σ'.H=aJ h3/\To σ σ'/\Ok σ'/\aD σ' (TD.aG (lk h3) I) f:=by
 subst hn;unfold sM at k;split at k
 .rename_i S;obtain⟨j,y,k⟩:=yf.1 k;obtain⟨T,U,k⟩:=yf.1 k;obtain⟨q,J,k⟩:=yf.1 k;obtain⟨w,e4,k⟩:=yf.1 k;cases k;obtain⟨Z,W⟩:=so e4;have M:∀id t,Yh (lk j) id t ad=Yh (lk w.1) id t ad:=λid t=>by rw[W]
  refine⟨q.1,w.1, ?_,λσ f Q z X=> ?_⟩
  .unfold V6;rw[bN _ _ _ J];have:=sn e4 [];grind
  .have R:=Vs (sl.map (·.1)) X;rw[<-wA]at R
   have g:aP σ.H (yo σ.H.length++[]) (yo σ.H.length++[])=ab (aJ j):=by
    rw[z,Z2];exact Qq (iw y) y
   have l:once (yo σ.H.length++[])=ae:=by rw[z,Z2];exact S
   have A:Dv.bC (bc (yo σ.H.length++[])) (TD.aG (lk h) (iy (sl.map (·.1)) 0 a))=ab (TD.aG (lk j) T):=by
    rw[z,Z2];exact dz (iw y) _ _ U
   have Y:=vB (jJ g) A R;have E:=pj Q (To.refl σ) l g;have F:=pi Q l g;obtain⟨m,G⟩:=ll (σ:=gC σ (yo σ.H.length++[]) (aJ j)) F (H':=aJ w.1) (sq M e4);exact⟨{ gC σ (yo σ.H.length++[]) (aJ j) with H:=aJ w.1},rfl,rfl,E.trans m,G,(dh M _ _ _ J).qK (Y.to m.leaf)⟩
 .cases k
def IV(L:Lk):bG->ah->yO ah
 |.aR _ _ _ _,.bL u j v st e g h f=>(HG L u h).map λy=>.aR u j v st e (g++[y]) f
 |_,x=>ab x
def sN(L:Lk):yL bG->yL ah->yO (yL ah)
 |[],h=>ab h
 |_::_,[]=>ab []
 |s::r,x::h=>match IV L s x,sN L r h with
  |some y,ab f=>ab (y::f)
  |_,_=>ad
theorem ZIW{L:Lk}{s:bG}{x y:ah}(h:IV L s x=ab y):eR (ab y)=eR (ab x)/\eP (x.er L) (y.er L):=by
 unfold IV at h;split at h
 .rename_i u m v st e g j f;obtain⟨c,l,rfl⟩:=Ze h;refine⟨?_,ZCb (ZB8 l)⟩;simp only[eR,yl,yaf,List.length_nil];grind
 .cases h;exact⟨rfl,.refl _⟩
theorem ZCl{L:Lk}:∀{es:yL bG}{h f:yL ah},sN L es h=ab f->f.length=h.length/\(∀j:Nat,eR (f[j]?)=eR (h[j]?))/\bZ (h.map (ah.er L)) (f.map (ah.er L))
 |[],h,f,k=>by cases k;exact⟨rfl,λ_=>rfl,bZ.refl _⟩
 |_::_,[],f,k=>by cases k;exact⟨rfl,λ_=>rfl,bZ.refl _⟩
 |s::r,x::h,f,k=>by
  simp only[sN]at k;split at k
  .rename_i y E g l;cases k;obtain⟨F,m⟩:=ZIW g;obtain⟨z,G,A⟩:=ZCl l;refine⟨by simp[z],λj=> ?_,.cons m A⟩;grind
  .cases k
theorem ZCm{es:yL bG}{h f:yL ah}(k:sN (lk h) es h=ab f):f.length=h.length/\lk f=lk h/\bZ (aJ h) (aJ f):=by
 obtain⟨a,b,c⟩:=ZCl k;have e:lk f=lk h:=funext b;refine⟨a,e, ?_⟩;unfold aJ;rw[e];exact c
def sO(n0:Nat)(sl:cH)(es:yL bG)(a:yL TD)(h:yL ah):yO (yL TV):=(sN (lk h) es h).bind λh=>sM n0 sl es a h
theorem ZDU{n0:Nat}{sl:cH}{es:yL bG}{a:yL TD}{h:yL ah}{vs:yL TV}(k:sO n0 sl es a h=ab vs):
 ∃f h3,V6 a.length sl es vs=ab (f,h3)/\∀{c:Code}{ts:yL Dv}{H:yL aq}{ex:Ex},H.length=n0->Xv P c ts H ex (TD.aG (lk h) a) (aJ h)->Xv P c ts H ex (TD.aG (lk h3) f) (aJ h3):=by
 obtain⟨E,g,j⟩:=yf.1 k;obtain⟨F,l,m⟩:=ZCm g;obtain⟨f,h3,y,z⟩:=ZA8 (P:=P) j;refine⟨f,h3,y,λA r=>z A ?_⟩;rw[l];exact ZuA r (cR.refl _) m
theorem ZuY{n0:Nat}{sl:cH}{es:yL bG}{a:yL TD}{h:yL ah}{vs:yL TV}(hn:h.length=n0)(k:sO n0 sl es a h=ab vs):
 ∃g h3,V6 a.length sl es vs=ab (g,h3)/\∀(σ:Sg)(f:Act),Ok σ->σ.H=aJ h->aD σ (TD.aG (lk h) a) f->∃σ':Sg,σ'.w=σ.w/\σ'.H=aJ h3/\To σ σ'/\Ok σ'/\aD σ' (TD.aG (lk h3) g) f:=by
 obtain⟨l,m,y⟩:=yf.1 k;obtain⟨z,A,E⟩:=ZCm m;obtain⟨g,h3,F,G⟩:=ZA9 (by rw[z];exact hn) y;refine⟨g,h3,F,λσ f I J M=> ?_⟩;obtain⟨to,j⟩:=ll I (H':=aJ l) (by rw[J];exact E);obtain⟨Q,R,S,T,U,W⟩:=G { σ with H:=aJ l} f j rfl (by rw[A];exact M.to to.leaf);exact⟨Q,R,S,to.trans T,U,W⟩
structure Lp where
 sl:cH
 es:List bG
 I:List Ty
 xs:List cw
 L:Ty.aO I->Option (cw.sum xs)
def Lp.Is(P:yg)(n:Nat)(c:Code)(lp:Lp):Prop:=
 ∀v o,lp.L v=ab o->∀s,V6 n lp.sl lp.es (dD lp.I v)=ab s->∀e vs f,og lp.xs o e vs->V6 n e.sl e.es vs=ab f->
  Xv P c (TD.aG (lk s.2) s.1) (aJ s.2) e.ex (TD.aG (lk f.2) f.1) (aJ f.2)
abbrev Lp.Ok(P:yg)(n:Nat)(f:Code)(lp:Lp):Prop:=lp.Is P n (.loop f)
structure FI where
 hi:HI:={}
 lp:List (Nat×Lp):=[]
 bk:List (Nat×Lp):=[]
 gh:List (Nat×kK):=[]
 un:Nat:=0
def Code.nl:Code->Nat
 |.seq a b=>Code.nl a+Code.nl b
 |.cond _ a b=>Code.nl a+Code.nl b
 |.block _ a=>Code.nl a
 |.scope a=>Code.nl a
 |.loop a=>Code.nl a+1
 |_=>0
def Code.ns:Code->Nat
 |.seq a b=>Code.ns a+Code.ns b+1
 |.cond _ a b=>Code.ns a+Code.ns b
 |.block _ a=>Code.ns a
 |.scope a=>Code.ns a
 |.loop a=>Code.ns a
 |_=>0
theorem lF:∀c:Code,(ZL c).length=Code.nl c
 |.seq a b=>by simp only[ZL,yl,lF a,lF b,Code.nl]
 |.cond _ a b=>by simp only[ZL,yl,lF a,lF b,Code.nl]
 |.block _ a=>by simp only[ZL,lF a,Code.nl]
 |.scope a=>by simp only[ZL,lF a,Code.nl]
 |.loop a=>by simp only[ZL,yaf,lF a,Code.nl]
 |.skip=>rfl
 |.region _ _ _=>rfl
 |.rangeFunc _ _ _ _=>rfl
 |.exit _=>rfl
 |.ret=>rfl
 |.label _=>rfl
 |.goto _=>rfl
 |.refuse _=>rfl
def wL{O:Type}(step:yL TD->yL ah->Kc O->yO O):Nat->yL TD->yL ah->Kc O->yO O
 |0,_,_,_=>ad
 |k+1,a,h,K=>step a h λex f g=>match ex with
  |.normal=>wL step k f g K
  |ex=>K ex f g
theorem Zpt{O:Type}{f:Code}{N:Nat}{step:yL TD->yL ah->Kc O->yO O}
 (hs:∀(a:yL TD)(h:yL ah)(K:Kc O)(out:O),a.length=N->step a h K=ab out->∃ex g j,K ex g j=ab out/\g.length=N/\Xv P f (TD.aG (lk h) a) (aJ h) ex (TD.aG (lk j) g) (aJ j)):
 ∀(k:Nat)(a:yL TD)(h:yL ah)(K:Kc O)(out:O),a.length=N->wL step k a h K=ab out->∃ex g j,K ex g j=ab out/\g.length=N/\ph P f (TD.aG (lk h) a) (aJ h) ex (TD.aG (lk j) g) (aJ j)
 |0,_,_,_,_,_,k=>by cases k
 |n+1,a,h,K,out,G,k=>by
  unfold wL at k;obtain⟨ex,z,A,l,E,F⟩:=hs _ _ _ _ G k;split at l
  .obtain⟨m,I,J,M,Q,R⟩:=Zpt hs n z A K out E l;exact⟨m,I,J,M,Q,Zuy [] F R⟩
  .rename_i y;exact⟨_,z,A,l,E,Zux y F⟩
def pM(m:Nat)(a:yL TD)(h:yL ah):yL (Nat×Lp)->yO (Σ bk:Lp,Ty.aO bk.I)
 |[]=>ad
 |q::r=>if Nat.beq q.1 m=ae then match (sO h.length q.2.sl q.2.es a h).bind (jQ q.2.I) with
   |some v=>ab ⟨q.2,v⟩
   |none=>pM m a h r
  else pM m a h r
theorem wM{m:Nat}{a:yL TD}{h:yL ah}{b:Σ bk:Lp,Ty.aO bk.I}:∀{l:yL (Nat×Lp)},pM m a h l=ab b->(m,b.1)∈l/\∃vs,sO h.length b.1.sl b.1.es a h=ab vs/\jQ b.1.I vs=ab b.2
 |[],k=>by cases k
 |q::r,k=>by
  unfold pM at k;split at k
  .rename_i f;split at k
   .rename_i v g;cases k;have e:=Nat.eq_of_beq_eq_true f;refine⟨?_,yf.1 g⟩;grind
   .obtain⟨j,y⟩:=wM k;grind
  .obtain⟨j,y⟩:=wM k;grind
def gc{O:Type}(P:yg)(fi:FI)(aK:Sp P):Code->Nat->Nat->yL TD->yL ah->Kc O->yO O
 |.skip,_,_,a,h,K=>K .normal a h
 |.label _,_,_,a,h,K=>K .normal a h
 |.region _ ops l,_,_,a,h,K=>if l=ae then IE P fi.hi aK ops a h λg j=>K .normal g j else sF P fi.hi aK ops ops.toList a h λg j _=>K .normal g j
 |.seq x y,n,m,a,h,K=>IR (fi.gh.lookup m) a h λa h=>match pM m a h fi.bk with
  |none=>gc P fi aK x n (m+1) a h λex g j=>match ex with
   |.normal=>gc P fi aK y (n+Code.nl x) (m+1+Code.ns x) g j K
   |ex=>K ex g j
  |some z=>(z.1.L z.2).bind λo=>xT a.length z.1.xs o λex g j=>match ex with
   |.normal=>gc P fi aK y (n+Code.nl x) (m+1+Code.ns x) g j K
   |ex=>K ex g j
 |.cond c x y,n,m,a,h,K=>((bq P a 0 c).bind TD.boolT).bind λb=>match c with
  |.tmp t=>if b=ae then gc P fi aK x n m (a.set t (kJ ae)) h K else gc P fi aK y (n+Code.nl x) (m+Code.ns x) (a.set t (kJ af)) h K
  |_=>if b=ae then gc P fi aK x n m a h K else gc P fi aK y (n+Code.nl x) (m+Code.ns x) a h K
 |.block id f,n,m,a,h,K=>gc P fi aK f n m a h λex g j=>K (IU id ex) g j
 |.loop f,n,m,a,h,K=>match pM n a h fi.lp with
  |some A=>(A.1.L A.2).bind λo=>xT a.length A.1.xs o K
  |none=>wL (λa h K=>gc P fi aK f (n+1) m a h K) fi.un a h K
 |.scope f,n,m,a,h,K=>gc P fi aK f n m a h K
 |.exit id,_,_,a,h,K=>K (.exit id) a h
 |.ret,_,_,a,h,K=>K .ret a h
 |_,_,_,_,_,_=>ad
def X7:Code->yL Code
 |.seq a b=>a::(X7 a++X7 b)
 |.cond _ a b=>X7 a++X7 b
 |.block _ a=>X7 a
 |.scope a=>X7 a
 |.loop a=>X7 a
 |_=>[]
theorem jV:∀c:Code,(X7 c).length=Code.ns c
 |.seq a b=>by simp only[X7,yaf,yl,jV a,jV b,Code.ns]
 |.cond _ a b=>by simp only[X7,yl,jV a,jV b,Code.ns]
 |.block _ a=>by simp only[X7,jV a,Code.ns]
 |.scope a=>by simp only[X7,jV a,Code.ns]
 |.loop a=>by simp only[X7,jV a,Code.ns]
 |.skip=>rfl
 |.region _ _ _=>rfl
 |.rangeFunc _ _ _ _=>rfl
 |.exit _=>rfl
 |.ret=>rfl
 |.label _=>rfl
 |.goto _=>rfl
 |.refuse _=>rfl
def jo(P:yg)(fi:FI)(N:Nat)(c:Code)(m:Nat):Prop:=∀(k:Nat)(x:Code),(X7 c)[k]? =ab x->∀f,(m+k,f)∈fi.bk->f.Is P N x
theorem ZGn{fi:FI}{N:Nat}{x y c:Code}{m:Nat}(e:X7 c=X7 x++X7 y)(h:jo P fi N c m):jo P fi N x m:=λk b f=>h k b (by
 rw[e,ybe (yu.1 f).1];exact f)
theorem ZDV{fi:FI}{N:Nat}{x y c:Code}{m:Nat}(e:X7 c=X7 x++X7 y)(h:jo P fi N c m):jo P fi N y (m+Code.ns x):=λk b f g j=>h (Code.ns x+k) b (by
 rw[e,yaq (by rw[jV];omega),jV];rw[show Code.ns x+k - Code.ns x=k by omega];exact f) g (by rw[<-Nat.add_assoc];exact j)
theorem ZGo{fi:FI}{N:Nat}{x y:Code}{m:Nat}(h:jo P fi N (.seq x y) m):jo P fi N x (m+1):=λk b f g j=>h (k+1) b (by
 rw[X7,yak,ybe (yu.1 f).1];exact f) g (by rw[show m+(k+1)=m+1+k by omega];exact j)
theorem ZyY{fi:FI}{N:Nat}{x y:Code}{m:Nat}(h:jo P fi N (.seq x y) m):jo P fi N y (m+1+Code.ns x):=λk b f g j=>h (Code.ns x+k+1) b (by
 rw[X7,yak,yaq (by rw[jV];omega),jV];rw[show Code.ns x+k - Code.ns x=k by omega];exact f) g (by rw[show m+(Code.ns x+k+1)=m+1+Code.ns x+k by omega];exact j)
def kL(P:yg)(fi:FI)(N:Nat)(c:Code)(n:Nat):Prop:=∀(k:Nat)(b:Code),(ZL c)[k]? =ab (.loop b)->∀f,(n+k,f)∈fi.lp->f.Ok P N b
theorem ZyZ{fi:FI}{N:Nat}{x y c:Code}{n:Nat}(e:ZL c=ZL x++ZL y)(h:kL P fi N c n):kL P fi N x n:=λk b f=>h k b (by
 rw[e,ybe (yu.1 f).1];exact f)
theorem ZuZ{fi:FI}{N:Nat}{x y c:Code}{n:Nat}(e:ZL c=ZL x++ZL y)(h:kL P fi N c n):kL P fi N y (n+Code.nl x):=λk b f g j=>h (Code.nl x+k) b (by
 rw[e,yaq (by rw[lF];omega),lF];rw[show Code.nl x+k - Code.nl x=k by omega];exact f) g (by rw[<-Nat.add_assoc];exact j)
theorem W6{O:Type}{fi:FI}{aK:Sp P}{out:O}{N:Nat}(ok:eL aK):∀(c:Code)(n m:Nat)(a:yL TD)(h:yL ah)(K:Kc O),a.length=N->kL P fi N c n->jo P fi N c m->gc P fi aK c n m a h K=ab out->
 ∃ex F G,K ex F G=ab out/\F.length=N/\Xv P c (TD.aG (lk h) a) (aJ h) ex (TD.aG (lk G) F) (aJ G)
 |.skip,n,m,a,h,K,g,E,f,k=>⟨_,_,_,k,g,ZDR⟩
 |.label _,n,m,a,h,K,g,E,f,k=>⟨_,_,_,k,g,ZA7⟩
 |.exit _,n,m,a,h,K,g,E,f,k=>⟨_,_,_,k,g,ZDS⟩
 |.ret,n,m,a,h,K,g,E,f,k=>⟨_,_,_,k,g,ZyW⟩
 |.region id ops draw,n,m,a,h,K,g,E,f,k=>by
  unfold gc at k
  cases draw with
  |true=>
   rw[yW rfl]at k;obtain⟨F,G,z,A,j⟩:=ZDO ok k
   exact⟨_,_,_,z,by rw[A,g],j id⟩
  |false=>
   rw[yX (by decide)]at k;obtain⟨F,G,hs,z,A,j⟩:=ZDP ok k
   exact⟨_,_,_,z,by rw[A,g],j id⟩
 |.seq x y,n,m,a,h,K,g,E,f,k=>by
  have hx:=ZyZ (x:=x) (y:=y) rfl E;have hy:=ZuZ (x:=x) (y:=y) rfl E;unfold gc at k;obtain⟨a0,h0,k,U,gR⟩:=ZGk k;rw[g]at U
  suffices key:∃ex F G,K ex F G=ab out/\F.length=N/\Xv P (.seq x y) (TD.aG (lk h0) a0) (aJ h0) ex (TD.aG (lk G) F) (aJ G) by
   obtain⟨ex,F,G,g1,M,W⟩:=key;exact⟨ex,F,G,g1,M,ZIU gR W⟩
  clear gR;have g:=U;clear U;split at k
  .obtain⟨ex,S,T,z,A,j⟩:=W6 ok x _ _ _ _ _ g hx (ZGo f) k;split at z
   .obtain⟨ex2,a2,h2,k4,k5,k6⟩:=W6 ok y _ _ _ _ _ A hy (ZyY f) z;exact⟨_,_,_,k4,k5,pL j k6⟩
   .rename_i X;exact⟨_,_,_,z,A,ZuX X j⟩
  .rename_i bkv Q;obtain⟨bk,v⟩:=bkv;obtain⟨Q,vs,j1,j2⟩:=wM Q;dsimp only at Q j1 j2 k;obtain⟨o,j3,k⟩:=yf.1 k;obtain⟨e,Y,s,g1,M,W⟩:=wt k;obtain⟨a3,h3,j4,j5⟩:=ZuY rfl j1;have Z:=f 0 x rfl bk (by rw[Nat.add_zero];exact Q);rw[g]at M j4;have e1:=mK _ _ _ j2;have r:=Z v o j3 (a3,h3) (by rw[e1];exact j4) e Y s g1 M
   have j:Xv P x (TD.aG (lk h0) a0) (aJ h0) e.ex (TD.aG (lk s.2) s.1) (aJ s.2):=by
    intro σ I okσ hH yM;obtain⟨σ1,p1,p2,p3,p4,p5⟩:=j5 σ I okσ hH yM;rw[<-p1];refine wp_mono (r σ1 I p4 p2 p5) ?_;rintro e' F w' ⟨rfl,σ2,q1,q2,q3,q4,q5⟩;exact⟨rfl,σ2,q1,q2,p3.trans q3,q4,q5⟩
   split at W
   .rename_i he;rw[he]at j;obtain⟨ex2,a2,h2,k4,k5,k6⟩:=W6 ok y _ _ _ _ _ (wr M) hy (ZyY f) W;exact⟨_,_,_,k4,k5,pL j k6⟩
   .rename_i X
    exact⟨_,_,_,W,wr M,ZuX X j⟩
 |.cond c x y,n,m,a,h,K,g,E,f,k=>by
  have hx:=ZyZ (x:=x) (y:=y) rfl E;have hy:=ZuZ (x:=x) (y:=y) rfl E;have bx:=ZGn (x:=x) (y:=y) rfl f;have bY:=ZDV (x:=x) (y:=y) rfl f;unfold gc at k;obtain⟨b,k0,k⟩:=yf.1 k;obtain⟨d,k00,k01⟩:=yf.1 k0;have hc:=Zu (L:=lk h) k00;rw[px k01]at hc;split at k
  .rename_i t;cases k00;have e:=ZyM k01;split at k
   .rename_i J;subst J;rw[bE e]at k;obtain⟨ex,S,T,z,A,j⟩:=W6 ok x _ _ _ _ _ g hx bx k;exact⟨_,_,_,z,A,wK hc j⟩
   .rename_i J;have J:b=af:=by simpa using J
    subst J;rw[bE e]at k;obtain⟨ex,S,T,z,A,j⟩:=W6 ok y _ _ _ _ _ g hy bY k;exact⟨_,_,_,z,A,wK hc j⟩
  .split at k
   .rename_i J;subst J;obtain⟨ex,S,T,z,A,j⟩:=W6 ok x _ _ _ _ _ g hx bx k;exact⟨_,_,_,z,A,wK hc j⟩
   .rename_i J;have J:b=af:=by simpa using J
    subst J;obtain⟨ex,S,T,z,A,j⟩:=W6 ok y _ _ _ _ _ g hy bY k
    exact⟨_,_,_,z,A,wK hc j⟩
 |.block id l,n,m,a,h,K,g,E,f,k=>by
  unfold gc at k;obtain⟨ex,S,T,z,A,j⟩:=W6 ok l _ _ _ _ _ g E f k
  exact⟨_,_,_,z,A,ZA5 j⟩
 |.scope l,n,m,a,h,K,g,E,f,k=>by
  unfold gc at k;obtain⟨ex,S,T,z,A,j⟩:=W6 ok l _ _ _ _ _ g E f k
  exact⟨_,_,_,z,A,ZA6 j⟩
 |.loop l,n,m,a,h,K,g,E,f,k=>by
  unfold gc at k;split at k
  .rename_i lpv R;obtain⟨lp,v⟩:=lpv;obtain⟨R,vs,j1,j2⟩:=wM R;dsimp only at R j1 j2 k;obtain⟨o,j3,k⟩:=yf.1 k;obtain⟨e,Y,s,g1,M,W⟩:=wt k;obtain⟨a3,h3,j4,j5⟩:=ZuY rfl j1;have Z:=E 0 l rfl lp (by rw[Nat.add_zero];exact R);rw[g]at M j4;have e1:=mK _ _ _ j2;have r:=Z v o j3 (a3,h3) (by rw[e1];exact j4) e Y s g1 M;refine⟨_,_,_,W,wr M, ?_⟩;intro σ I okσ hH yM;obtain⟨σ1,p1,p2,p3,p4,p5⟩:=j5 σ I okσ hH yM;rw[<-p1];refine wp_mono (r σ1 I p4 p2 p5) ?_;rintro e' F w' ⟨rfl,σ2,q1,q2,q3,q4,q5⟩;exact⟨rfl,σ2,q1,q2,p3.trans q3,q4,q5⟩
  .have hl1:kL P fi N l (n+1):=λk b hk lp hl2=>E (k+1) b (by rw[ZL,yak];exact hk) lp (by rw[show n+(k+1)=n+1+k by omega];exact hl2);obtain⟨ex,S,T,z,A,j⟩:=Zpt (λa h K out g k=>W6 ok l _ _ _ _ K g hl1 f k) _ _ _ _ _ g k
   exact⟨ex,S,T,z,A,Zuz j⟩
 |.rangeFunc _ _ _ _,_,_,_,_,_,_,_,_,k=>by cases k
 |.goto _,_,_,_,_,_,_,_,_,k=>by cases k
 |.refuse _,_,_,_,_,_,_,_,_,k=>by cases k
def pN(n0:Nat)(sl:cH)(es:yL bG)(a:yL TD)(h:yL ah):yO (yL TV):=sO n0 sl es a h
theorem Zu0{n0:Nat}{sl:cH}{es:yL bG}{a:yL TD}{h:yL ah}{vs:yL TV}(k:pN n0 sl es a h=ab vs):
 ∃f h3,V6 a.length sl es vs=ab (f,h3)/\∀{c:Code}{ts:yL Dv}{H:yL aq}{ex:Ex},H.length=n0->Xv P c ts H ex (TD.aG (lk h) a) (aJ h)->Xv P c ts H ex (TD.aG (lk h3) f) (aJ h3):=ZDU k
end
end Go.Ev
end
section
namespace Go.Ev
def Zc{I X:Type}(step:I->yO (I⊕X)):Nat->I->yO X
 |0,_=>ad
 |n+1,i=>(step i).bind λr=>match r with
  |.inl j=>Zc step n j
  |.inr x=>ab x
theorem ZGp:∃n:Nat,n=18446744073709551616:=⟨_,rfl⟩
noncomputable def yD:Nat:=Classical.choose ZGp
theorem jW:yD=18446744073709551616:=Classical.choose_spec ZGp
section
variable{P:yg}
def wN(n0:Nat)(ex:Ex)(a:yL TD)(h:yL ah):(l:yL cw)->yO (cw.sum l)
 |[]=>ad
 |[e]=>if ex=e.ex then(pN n0 e.sl e.es a h).bind λvs=>jQ e.ty vs else ad
 |e::f::r=>match (if ex=e.ex then(pN n0 e.sl e.es a h).bind λvs=>jQ e.ty vs else ad) with
  |some x=>ab (Sum.inl x:Ty.aO e.ty⊕cw.sum (f::r))
  |none=>(wN n0 ex a h (f::r)).map λx=>(Sum.inr x:Ty.aO e.ty⊕cw.sum (f::r))
theorem Zu1{n0:Nat}{ex:Ex}{a:yL TD}{h:yL ah}:∀{l:yL cw}{o:cw.sum l},wN n0 ex a h l=ab o->∀e vs,og l o e vs->ex=e.ex/\pN n0 e.sl e.es a h=ab vs
 |[],_,k,_,_,_=>by cases k
 |[e],o,k,x,vs,hs=>by
  obtain⟨rfl,rfl⟩:=hs;have k:(if ex=x.ex then(pN n0 x.sl x.es a h).bind λvs=>jQ x.ty vs else ad)=ab o:=k
  split at k
  .rename_i m;obtain⟨A,g,j⟩:=yf.1 k;exact⟨m,by rw[g,mK _ _ _ j]⟩
  .cases k
 |e::f::r,o,k,x,vs,hs=>by
  simp only[wN]at k;split at k
  .rename_i y z;cases k;obtain⟨rfl,rfl⟩:=hs;split at z
   .rename_i m;obtain⟨A,g,j⟩:=yf.1 z;exact⟨m,by rw[g,mK _ _ _ j]⟩
   .cases z
  .obtain⟨y,g,j⟩:=Ze k;subst j;exact Zu1 g x vs hs
def pO(P:yg)(fi:FI)(aK:Sp P)(f:Code)(n N:Nat)(sl:cH)(es:yL bG)(I:yL Ty)(xs:yL cw):Ty.aO I->yO (Ty.aO I⊕cw.sum xs):=λv=>
 (V6 N sl es (dD I v)).bind λs=>gc P fi aK f (n+1) 0 s.1 s.2 λex a h=>match ex with
   |.normal=>(pN s.2.length sl es a h).bind λvs=>(jQ I vs).map .inl
   |ex=>(wN s.2.length ex a h xs).map .inr
theorem ZGq{fi:FI}{aK:Sp P}{g:Code}{n N:Nat}{sl:cH}{es:yL bG}{I:yL Ty}{xs:yL cw}(ok:eL aK)(hl:kL P fi N g (n+1))(l:jo P fi N g 0):
 ∀(f:Nat)(v:Ty.aO I)(o:cw.sum xs),Zc (pO P fi aK g n N sl es I xs) f v=ab o->∀s,V6 N sl es (dD I v)=ab s->∀e vs j,og xs o e vs->V6 N e.sl e.es vs=ab j->
  ph P g (TD.aG (lk s.2) s.1) (aJ s.2) e.ex (TD.aG (lk j.2) j.1) (aJ j.2)
 |0,_,_,h,_,_,_,_,_,_,_=>by cases h
 |f+1,v,o,h,s,hs,e,vs,j,G,hs'=>by
  unfold Zc at h;obtain⟨r,z,J⟩:=yf.1 h;unfold pO at z;rw[hs,ya]at z;obtain⟨ex,a,Y,m,M,Q⟩:=W6 ok g _ _ _ _ _ (wr hs) hl l z;split at m
  .obtain⟨Z,T,m⟩:=yf.1 m;obtain⟨w,A,rfl⟩:=Ze m;obtain⟨R,S,y,E⟩:=Zu0 (P:=P) T;rw[M]at y;have U:=E (Z2 _) Q;have:=ZGq ok hl l f w o J (R,S) (by rw[mK _ _ _ A];exact y) e vs j G hs';exact Zuy [] U this
  .rename_i F;obtain⟨w,A,rfl⟩:=Ze m;cases J;obtain⟨W,X⟩:=Zu1 A e vs G;obtain⟨R,S,y,E⟩:=Zu0 (P:=P) X;rw[M,hs']at y;cases y;subst W;exact Zux F (E (Z2 _) Q)
theorem ZMx{fi:FI}{aK:Sp P}{g:Code}{n N:Nat}{sl:cH}{es:yL bG}{I:yL Ty}{xs:yL cw}{step:Ty.aO I->yO (Ty.aO I⊕cw.sum xs)}(f:Nat)(ok:eL aK)(hl:kL P fi N g (n+1))(j:jo P fi N g 0)
 (h:∀v,pO P fi aK g n N sl es I xs v=step v):Lp.Ok P N g ⟨sl,es,I,xs,Zc step f⟩:=by
 intro v o l s hs e vs m y hs';have z:pO P fi aK g n N sl es I xs=step:=funext h;subst z;exact Zuz (ZGq ok hl j f v o l s hs e vs m y hs')
theorem mN:∀(c:Code)(k:Nat)(b:Code),(ZL c)[k]? =ab (.loop b)->∀j x,(ZL b)[j]? =ab x->(ZL c)[k+1+j]? =ab x
 |.seq x y,k,b,h,j,z,f=>by
  simp only[ZL]at h ⊢;rcases Nat.lt_or_ge k (ZL x).length with hl|hl
  .rw[ybe hl]at h;have:=mN x k b h j z f;grind
  .rw[yaq hl]at h;have:=mN y _ b h j z f
   grind
 |.cond _ x y,k,b,h,j,z,f=>by
  simp only[ZL]at h ⊢;rcases Nat.lt_or_ge k (ZL x).length with hl|hl
  .rw[ybe hl]at h;have:=mN x k b h j z f;grind
  .rw[yaq hl]at h;have:=mN y _ b h j z f
   grind
 |.block _ a,k,b,h,j,z,f=>mN a k b h j z f
 |.scope a,k,b,h,j,z,f=>mN a k b h j z f
 |.loop a,k,b,h,j,z,f=>by
  simp only[ZL]at h ⊢
  cases k with
  |zero=>
   simp only[yam,yn,Code.loop.injEq]at h;subst h;rw[show 0+1+j=j+1 by omega,yak]
   exact f
  |succ k=>
   rw[yak]at h;rw[show k+1+1+j=(k+1+j)+1 by omega,yak]
   exact mN a k b h j z f
 |.skip,_,_,h,_,_,_=>by simp[ZL]at h
 |.region _ _ _,_,_,h,_,_,_=>by simp[ZL]at h
 |.rangeFunc _ _ _ _,_,_,h,_,_,_=>by simp[ZL]at h
 |.exit _,_,_,h,_,_,_=>by simp[ZL]at h
 |.ret,_,_,h,_,_,_=>by simp[ZL]at h
 |.label _,_,_,h,_,_,_=>by simp[ZL]at h
 |.goto _,_,_,h,_,_,_=>by simp[ZL]at h
 |.refuse _,_,_,h,_,_,_=>by simp[ZL]at h
def mO(P:yg)(g:yw)(N:Nat):yL (Nat×Lp)->Prop
 |[]=>True
 |q::r=>q.2.Ok P N (iN P g q.1)/\mO P g N r
theorem IW{g:yw}{N:Nat}:∀{l:yL (Nat×Lp)}{n:Nat}{lp:Lp},mO P g N l->(n,lp)∈l->lp.Ok P N (iN P g n)
 |[],_,_,_,h=>by cases h
 |q::r,n,lp,f,h=>by
  rcases List.mem_cons.1 h with h|h
  .subst h;exact f.1
  .exact IW f.2 h
def ZX(P:yg)(g:yw):Code:=
 match P.funcs[g]? with
 |some fn=>fn.body.getD .skip
 |none=>.skip
theorem IX{g:yw}{k:Nat}{b:Code}(h:(ZL (ZX P g))[k]? =ab (.loop b)):iN P g k=b:=by
 unfold iN ZFb;unfold ZX at h;split at h
 .rename_i fn j;rw[j];dsimp only
  cases f:fn.body with
  |none=>rw[f]at h;simp[ZL]at h
  |some c=>
   rw[f]at h;dsimp only[Option.getD]at h ⊢;rw[ycx,h];rfl
 .simp[ZL]at h
theorem ZIY{g:yw}{fi:FI}{N:Nat}(h:mO P g N fi.lp):kL P fi N (ZX P g) 0:=by
 intro k b j lp f;rw[yar]at f;rw[<-IX j];exact IW h f
theorem ZGr{g:yw}{fi:FI}{N k:Nat}(f:(ZL (ZX P g))[k]? =ab (.loop (iN P g k)))(h:mO P g N fi.lp):kL P fi N (iN P g k) (k+1):=by
 intro j b l lp m;have:=mN _ _ _ f j _ l;rw[<-IX this];exact IW h m
def wO(P:yg)(g k:Nat):Bool:=
 match (ZL (ZX P g))[k]? with
 |some (.loop _)=>ae
 |_=>af
theorem ZtI{g k:Nat}(h:wO P g k=ae):(ZL (ZX P g))[k]? =ab (.loop (iN P g k)):=by
 unfold wO at h;split at h
 .rename_i b f;rw[f,IX f]
 .cases h
def iz(c:Code)(m:Nat):Code:=((X7 c)[m]?).getD .skip
def pP(P:yg)(N:Nat)(c:Code):yL (Nat×Lp)->Prop
 |[]=>True
 |q::r=>q.2.Is P N (iz c q.1)/\pP P N c r
theorem IY{N:Nat}{c:Code}:∀{l:yL (Nat×Lp)}{m:Nat}{bk:Lp},pP P N c l->(m,bk)∈l->bk.Is P N (iz c m)
 |[],_,_,_,h=>by cases h
 |q::r,m,bk,f,h=>by
  rcases List.mem_cons.1 h with h|h
  .subst h;exact f.1
  .exact IY f.2 h
theorem ZCn{fi:FI}{N:Nat}{c:Code}(h:pP P N c fi.bk):jo P fi N c 0:=by
 intro k x g bk f;rw[yar]at f;have:=IY h f;unfold iz at this;grind
theorem IZ{fi:FI}{aK:Sp P}{g k N:Nat}{sl:cH}{es:yL bG}{I:yL Ty}{xs:yL cw}{step:Ty.aO I->yO (Ty.aO I⊕cw.sum xs)}(ok:eL aK)(hl:mO P g N fi.lp:=by exact True.intro)(f:wO P g k=ae:=by kernel_rfl)
 (h:∀v,pO P fi aK (iN P g k) k N sl es I xs v=step v:=by intro v;kernel_rfl) (hb:pP P N (iN P g k) fi.bk:=by exact True.intro):Lp.Ok P N (iN P g k) ⟨sl,es,I,xs,Zc step yD⟩:=
 ZMx yD ok (ZGr (ZtI f) hl) (ZCn hb) h
def mP{O:Type}(P:yg)(a:yL TD)(h:yL ah):yL ResultVar->(yL TD->yL ao->yO O)->yO O
 |[],K=>K [] []
 |.tmp t::r,K=>mP P a h r λf hs=>K (a.getD t .an::f) hs
 |.cell t g::r,K=>match a.getD t .an with
  |.aj id j=>(nY h id).bind λd=>fm (lk h) j d λsub hs _=>if gi P g (sub.er (lk h))=ae then mP P a h r λf hs'=>K (sub::f) (hs++hs') else ad
  |_=>ad
theorem wP{O:Type}{a:yL TD}{h:yL ah}{out:O}:∀(l:yL ResultVar)(K:yL TD->yL ao->yO O),mP P a h l K=ab out->∃f hs C,K f hs=ab out/\aX C/\∀yK,gB P (TD.aG (lk h) a) (aJ h) l (hs++yK)=ab (C,TD.aG (lk h) f)
 |[],K,k=>⟨[],[],[],k,zP,λ_=>rfl⟩
 |.tmp t::r,K,k=>by
  obtain⟨f,hs,C,g,j,m⟩:=wP r _ k;refine⟨_,_,C,g,j,λyK=> ?_⟩
  simp only[gB,m yK,yae,vQ,TD.aG]
 |.cell t R::r,K,k=>by
  unfold mP at k;split at k
  .rename_i id y z;obtain⟨d,A,k⟩:=yf.1 k;obtain⟨st,S,E⟩:=rX A;obtain⟨sub,hs,F,C,G,I,J,_⟩:=Xw _ _ _ _ k;obtain⟨M,Q⟩:=Za G;obtain⟨f,hs',C',g,j,m⟩:=wP r _ Q;refine⟨_,_,C++[eA y=Wp y]++C',g,Zl.2 ⟨Zl.2 ⟨I,(XR _).symm,aw⟩,j⟩,λyK=> ?_⟩;unfold gB;rw[vQ,z];dsimp only[TD.er];rw[E];dsimp only;rw[yac,J (hs'++yK)];dsimp only;rw[yW M,m yK];rfl
  .cases k
def kM:yL TD->TD
 |[d]=>d
 |f=>.bp f
theorem wQ{L:Lk}(f:yL TD):(kM f).er L=kZ (TD.aG L f):=by
 match f with
 |[]=>rfl
 |[d]=>rfl
 |_::_::_=>rfl
def TD.arg(L:Lk):TD->TD
 |.own id f t c=>.p (.sl f t (Yh L id t c))
 |.agg g=>TD.dJ L g
 |d=>d
theorem ZGs{L:Lk}(d:TD):(d.arg L).er L=(d.er L).arg:=by
 cases d <;> first|rfl|exact ZBX _
def ZLg(h:yL ah)(rs:Sh)(es:yL bG)(n0:Nat)(r:TD):yO (yL Nat):=
 let l:=HP h es 0 ((yo n0).map (λi=>(i,i))++Sh.ids rs r)
 ((yo es.length).drop n0).mapM λj=>l.lookup j
def wR(h:yL ah)(n0:Nat)(g:yL TD)(e:cw):yO (Ty.aO e.ty):=
 match e.sl with
 |[(0,rs)]=>(ZLg h rs e.es n0 (kM g)).bind λf=>
  if once (yo n0++f) then(match Dv.rn (bc (yo n0++f)) ((kM g).er (lk h)) with
   |some _=>(kM g).rn (bc (yo n0++f))
   |none=>(kM (g.map (TD.arg (lk h)))).rn (bc (yo n0++f))).bind λr=>
   (W5 h (yo n0++f) (yo n0++f)).bind λj=>(Sh.mt (lk j) rs r).bind λq=>(bG.eU (lk j) e.es j).bind λw=>jQ e.ty (q.2++w.2)
  else ad
 |_=>ad
def sP(h:yL ah)(n0:Nat)(g:yL TD):(l:yL cw)->yO (cw.sum l)
 |[]=>ad
 |[e]=>wR h n0 g e
 |e::f::r=>match wR h n0 g e with
  |some x=>ab (Sum.inl x:Ty.aO e.ty⊕cw.sum (f::r))
  |none=>(sP h n0 g (f::r)).map λx=>(Sum.inr x:Ty.aO e.ty⊕cw.sum (f::r))
theorem ZrX{h:yL ah}{n0:Nat}{g:yL TD}:∀{l:yL cw}{o:cw.sum l},sP h n0 g l=ab o->∀e vs,og l o e vs->∃x,wR h n0 g e=ab x/\vs=dD e.ty x
 |[],_,k,_,_,_=>by cases k
 |[e],o,k,x,vs,hs=>by
  obtain⟨rfl,rfl⟩:=hs
  exact⟨o,k,rfl⟩
 |e::f::r,o,k,x,vs,hs=>by
  simp only[sP]at k;split at k
  .rename_i y z;cases k;obtain⟨rfl,rfl⟩:=hs;grind
  .obtain⟨y,j,m⟩:=Ze k;subst m;exact ZrX j x vs hs
def JA(P:yg)(fi:FI)(aK:Sp P)(g:yw)(f:yL Sh)(es:yL bG)(ins:yL Ty)(xs:yL cw):Ty.aO ins->yO (cw.sum xs):=λx=>
 match P.funcs[g]? with
 |some fn=>match fn.body with
  |some c=>(Sh.fills f (dD ins x)).bind λq=>(bG.fills es q.2).bind λw=>if w.2.isEmpty then
    gc P fi aK c 0 0 (q.1++yx (fn.ntmps - q.1.length) .an) w.1 λj a h=>match j with
     |.exit _=>ad
     |_=>mP P a h fn.results.toList λl _=>sP h w.1.length l xs
    else ad
  |none=>ad
 |none=>ad
def iA(P:yg)(g:yw):Nat:=
 match P.funcs[g]? with
 |some fn=>fn.ntmps
 |none=>0
theorem wS{fi:FI}{aK:Sp P}{g:yw}{Z:yL Sh}{es:yL bG}{ins:yL Ty}{xs:yL cw}{M:Ty.aO ins->yO (cw.sum xs)}(ok:eL aK)(hl:mO P g (iA P g) fi.lp:=by exact True.intro)(hn:Z.length<=iA P g:=by decide+kernel)
 (h:∀x,JA P fi aK g Z es ins xs x=M x:=by intro v;kernel_rfl) (hb:pP P (iA P g) (ZX P g) fi.bk:=by exact True.intro):Fs.Ok (⟨g,Z,es,ins,xs,M⟩:Fs P):=by
 intro x o j;have j:M x=ab o:=j;rw[<-h x]at j;have F:=ZIY hl;unfold JA at j;split at j
 .rename_i fn hf;split at j
  .rename_i c G;obtain⟨q,h1,j⟩:=yf.1 j;obtain⟨w,h2,j⟩:=yf.1 j;obtain⟨h3,j⟩:=Za j;have hN:iA P g=fn.ntmps:=by unfold iA;rw[hf]
   have hc:ZX P g=c:=by unfold ZX;rw[hf];dsimp only;rw[G];rfl
   rw[hc,hN]at F hb;have hb0:=ZCn hb;rw[hN]at hn
   have zW:(q.1++yx (fn.ntmps - q.1.length) TD.an).length=fn.ntmps:=by
    rw[yl,List.length_replicate,HK h1];omega
   obtain⟨U,a,l,I,k2,k3⟩:=W6 ok c _ _ _ _ _ zW F hb0 j
   have A:(U=.ret\/U=.normal)/\(mP P a l fn.results.toList λW _=>sP l w.1.length W xs)=ab o:=by
    cases U with
    |exit _=>cases I
    |normal=>exact⟨.inr rfl,I⟩
    |ret=>exact⟨.inl rfl,I⟩
   obtain⟨A,I⟩:=A;obtain⟨W,hs,C,f,g2,g3⟩:=wP _ _ I;refine⟨q.1,q.2,w.1,h1, ?_,λe vs s' J m=> ?_⟩
   .grind
   obtain⟨o1,f,hvs⟩:=ZrX f e vs J;unfold wR at f;split at f
   case h_2=>cases f
   rename_i rs hsl;obtain⟨Q,g4,f⟩:=yf.1 f;obtain⟨g5,f⟩:=Za f;obtain⟨r,g6,f⟩:=yf.1 f;obtain⟨X,Y,f⟩:=yf.1 f;obtain⟨z,g8,f⟩:=yf.1 f;obtain⟨y,g9,f⟩:=yf.1 f;obtain⟨b1,b2⟩:=so g9;have R:∀id t,Yh (lk X) id t ad=Yh (lk y.1) id t ad:=λid t=>by rw[b2]
   have eo:=mK _ _ _ f
   have E:s'=([z.1],y.1):=by
    rw[hvs,eo,hsl]at m;unfold V6 at m;rw[show ss [(0,rs)] 1=[rs] from rfl]at m
    simp only[Sh.fills,od _ _ _ g8,ya,yae]at m;have:=sn g9 [];grind
   subst E;refine⟨z.1,rfl, ?_⟩
   have S:fin P fn (TD.aG (lk l) a) (aJ l) (aJ w.1).length Q hs=ab (C,r.er (lk X),aJ X):=by
    unfold fin;have:=g3 [];rw[ybf]at this;rw[this];dsimp only;rw[Z2,g5, <-wQ,show aP (aJ l) _ _=ab (aJ X) from Qq (iw Y) Y]
    split at g6
    .rename_i r0 T;have e4:=jR (iw Y) _ _ g6;rw[e4]
    .rename_i T;have e4:=jR (iw Y) _ _ g6;rw[wQ,ZO,ybd]at e4
     rw[T,show(TD.aG (lk l) W).map Dv.arg=W.map (TD.er (lk l) ∘ TD.arg (lk l)) by
      rw[ZO,ybd];exact yci λd _=>(ZGs d).symm,e4]
   have zB:Xv P c (TD.aG (lk w.1) q.1++yx (fn.ntmps - (TD.aG (lk w.1) q.1).length) .an) (aJ w.1) U (TD.aG (lk l) a) (aJ l):=by
    have e5:TD.aG (lk w.1) (q.1++yx (fn.ntmps - q.1.length) TD.an)=TD.aG (lk w.1) q.1++yx (fn.ntmps - (TD.aG (lk w.1) q.1).length) .an:=by
     rw[ZBR,ZO,ZO,yaw,List.map_replicate];rfl
    grind
   exact vC (rm hf G zB A S g2) (mJ R _ _ _ g8) (sq R g9)
  .cases j
 .cases j
end
theorem sQ{P:yg}{g:yw}{t:Ty}{xs:yL cw}{MA:Ty.aO [.sl t]->yO (cw.sum xs)}{MB:Ty.aO []->yO (cw.sum xs)}(I:Fs.Ok (⟨g,[.sl ae t],[],[.sl t],xs,MA⟩:Fs P))(J:Fs.Ok (⟨g,[.nil t],[],[],xs,MB⟩:Fs P))
 (h:MB ()=MA ([]:yL t.aU)):Fs.Ok (⟨g,[.v (.sl t)],[],[.sl t],xs,MA⟩:Fs P):=by
 intro l o z;have j:∀(l:yL t.aU),Ty.cast (.sl t) (.sl t) l=ab l:=λl=>YZ (.sl t) l;obtain⟨A,R1,H1,f1,f2,f3⟩:=I l o z
 have M:A=[.p (.sl (ab ae) t l)]/\R1=[]:=by
  have:Sh.fills [.sl ae t] [(⟨.sl t,l⟩:TV)]=ab (A,R1):=f1;simp only[Sh.fills,Sh.fill]at this;grind
 obtain⟨rfl,rfl⟩:=M;cases f2;refine⟨[.p (.v (.sl t) l)],[],[], ?_,rfl,λe vs E hs F=> ?_⟩
 .show Sh.fills [.v (.sl t)] [(⟨.sl t,l⟩:TV)]=_;simp only[Sh.fills,Sh.fill];rw[j l];rfl
 .obtain⟨r,G,Q⟩:=f3 e vs E hs F;refine⟨r,G, ?_⟩;refine ZIf (xs:=l.map t.enc) Q λm=> ?_;have m:l=[]:=List.map_eq_nil_iff.1 m;subst m;obtain⟨U,R2,H2,R,S,T⟩:=J () o (by rw[<-z];exact h);cases R;cases S;obtain⟨W,f,y⟩:=T e vs E hs F;rw[G]at f;cases f;exact y
def oq(n:Int):yO aMP:=if(ag (0<=n)&&ag (n.toNat<=Zt))=ae then ab [] else ad
theorem ZI0{P:yg}{g:yw}{e:yc}(h:∀n:Nat,n<=Zt->ce P g [.p (.sl (ab af) 1 []),.p (.int .i64 (n:Int))] [] (.own 0 ad 1 []) [.log 1 e []]):
 Fs.Ok (⟨g,[.nil .u8,.v (.int .i64)],[],[.int .i64],[⟨.ret,[(0,.own 0 .u8)],[.log .u8 e],[.sl .u8]⟩],oq⟩:Fs P):=by
 intro n o f
 have j:∀(n:Int),oq n=ab o->(0<=n/\n.toNat<=Zt)/\([]:yL yB)=o:=λn f=>by
  unfold oq at f;grind
 obtain⟨l,m⟩:=j n f;cases m;refine⟨[.p (.sl (ab af) .u8 []),.p (.v (.int .i64) n)],[],[],rfl,rfl,λx vs z hs y=> ?_⟩;obtain⟨rfl,rfl⟩:=hs;cases y;refine⟨_,rfl, ?_⟩;have:=h (Int.toNat n) l.2;rw[Int.toNat_of_nonneg l.1]at this;exact this
mutual
theorem JB:∀(s:Sh)(vs w:yL TV)(q:TD×yL TV),s.fill vs=ab q->s.fill (vs++w)=ab (q.1,q.2++w)
 |.v t,vs,w,q,h=>by
  cases vs with
  |nil=>cases h
  |cons x r=>
   obtain⟨y,f,rfl⟩:=Ze (show(Ty.cast x.1 t x.2).map (λy=>((TD.p (.v t y),r):TD×yL TV))=ab q from h)
   show(Ty.cast x.1 t x.2).map (λy=>((TD.p (.v t y),r++w):TD×yL TV))=_
   rw[f];rfl
 |.elem t,vs,w,q,h=>by
  cases vs with
  |nil=>cases h
  |cons x r=>
   obtain⟨y,f,rfl⟩:=Ze (show(Ty.cast x.1 t x.2).map (λy=>((TD.elem (.v t y),r):TD×yL TV))=ab q from h)
   show(Ty.cast x.1 t x.2).map (λy=>((TD.elem (.v t y),r++w):TD×yL TV))=_
   rw[f];rfl
 |.sl m t,vs,w,q,h=>by
  cases vs with
  |nil=>cases h
  |cons x r=>
   obtain⟨y,f,rfl⟩:=Ze (α:=(Ty.sl t).aU) (show(Ty.cast x.1 (.sl t) x.2).map (λ(y:yL t.aU)=>((TD.p (.sl (ab m) t y),r):TD×yL TV))=ab q from h)
   show(Ty.cast x.1 (.sl t) x.2).map (λ(y:yL t.aU)=>((TD.p (.sl (ab m) t y),r++w):TD×yL TV))=_
   rw[f];rfl
 |.nil _,vs,w,q,h=>by cases h;rfl
 |.own _ _,vs,w,q,h=>by cases h;rfl
 |.aj _ _,vs,w,q,h=>by cases h;rfl
 |.mp _,vs,w,q,h=>by cases h;rfl
 |.rw _,vs,w,q,h=>by cases h;rfl
 |.rp j s p,vs,w,q,h=>by
  cases vs with
  |nil=>cases h
  |cons x r=>
   obtain⟨y,f,rfl⟩:=Ze (α:=Int) (show(Ty.cast x.1 (.int .i64) x.2).map (λ(i:Int)=>((TD.rp j (.ix i.toNat s::p),r):TD×yL TV))=ab q from h)
   show(Ty.cast x.1 (.int .i64) x.2).map (λ(i:Int)=>((TD.rp j (.ix i.toNat s::p),r++w):TD×yL TV))=_
   rw[f];rfl
 |.view _ _ _ _ _,vs,w,q,h=>by cases h;rfl
 |.rv _ _ _ _ _,vs,w,q,h=>by cases h;rfl
 |.fn g l,vs,w,q,h=>by
  simp only[Sh.fill]at h ⊢;obtain⟨y,f,rfl⟩:=Ze h
  rw[cM l vs w y f];rfl
 |.agg l,vs,w,q,h=>by
  simp only[Sh.fill]at h ⊢;obtain⟨y,f,rfl⟩:=Ze h
  rw[cM l vs w y f];rfl
 |.arr n s l,vs,w,q,h=>by
  simp only[Sh.fill]at h ⊢;obtain⟨y,f,rfl⟩:=Ze h
  rw[cM l vs w y f];rfl
 |.bp l,vs,w,q,h=>by
  simp only[Sh.fill]at h ⊢;obtain⟨y,f,rfl⟩:=Ze h
  rw[cM l vs w y f];rfl
 |.iface t x,vs,w,q,h=>by
  simp only[Sh.fill]at h ⊢;obtain⟨y,f,rfl⟩:=Ze h
  rw[JB x vs w y f];rfl
 |.sk t u x,vs,w,q,h=>by
  cases vs with
  |nil=>cases h
  |cons z r=>
   simp only[Sh.fill,yag]at h ⊢
   cases A:Ty.cast z.1 .bool z.2 with
   |none=>rw[A]at h;cases h
   |some b=>
    rw[A]at h;obtain⟨y,f,rfl⟩:=Ze h;show((Sh.fill x (r++w)).map _)=_
    rw[JB x r w y f];rfl
 |.bX,vs,w,q,h=>by cases h;rfl
 |.fn0,vs,w,q,h=>by cases h;rfl
 |.eG,vs,w,q,h=>by cases h;rfl
 |.cC,vs,w,q,h=>by cases h;rfl
 |.an,vs,w,q,h=>by cases h;rfl
theorem cM:∀(l:yL Sh)(vs w:yL TV)(q:yL TD×yL TV),Sh.fills l vs=ab q->Sh.fills l (vs++w)=ab (q.1,q.2++w)
 |[],vs,w,q,h=>by simp only[Sh.fills]at h;cases h;rfl
 |s::r,vs,w,q,h=>by
  simp only[Sh.fills]at h ⊢;obtain⟨a,f,h⟩:=yf.1 h;obtain⟨b,g,rfl⟩:=Ze h;rw[JB s vs w a f,ya,cM r a.2 w b g];rfl
end
theorem ZLh{P:yg}{g:yw}{t:Ty}{e:yc}{yK:yL Sh}{i1 i2:yL Ty}{xs:yL cw}{M:Ty.aO i2->yO (cw.sum xs)}(pk:Ty.aO i1->Ty.aO i2)(h:Fs.Ok (⟨g,.own 0 t::yK,[.log t e],i2,xs,M⟩:Fs P))
 (hp:∀x,dD i2 (pk x)=dD i1 x++[⟨.sl t,([]:yL t.aU)⟩]) (E:∀x,∃a,Sh.fills yK (dD i1 x)=ab (a,[])):Fs.Ok (⟨g,.nil t::yK,[],i1,xs,λx=>M (pk x)⟩:Fs P):=by
 intro x o F;obtain⟨f,R,H,f1,f2,f3⟩:=h (pk x) o F;obtain⟨a,A⟩:=E x;have f1:Sh.fills (.own 0 t::yK) (dD i2 (pk x))=ab (f,R):=f1;rw[hp x]at f1;simp only[Sh.fills,Sh.fill,ya,cM yK _ _ _ A,yae,yn,yq,yz]at f1;obtain⟨rfl,rfl⟩:=f1;have f2:((Ty.cast (.sl t) (.sl t) ([]:yL t.aU)).map λ(y:yL t.aU)=>((ah.log t e y,[]):ah×yL TV)).bind (λa=>(bG.fills [] a.2).map λb=>(a.1::b.1,b.2))=ab (H,[]):=f2;have l:Ty.cast (.sl t) (.sl t) ([]:yL t.aU)=ab ([]:yL t.aU):=YZ (.sl t) ([]:yL t.aU);rw[l]at f2;cases f2;refine⟨.p (.sl (ab af) t [])::a,[],[], ?_,rfl,λG vs m hs z=> ?_⟩
 .show Sh.fills (.nil t::yK) (dD i1 x)=_;simp only[Sh.fills,Sh.fill,ya,A,yae]
 .obtain⟨r,I,j⟩:=f3 G vs m hs z;refine⟨r,I, ?_⟩
  have J:TD.aG (lk [.log t e []]) (.own 0 ad t ad::a)=.own 0 ad t.size []::TD.aG (lk []) a:=by
   have Q:TD.aG (lk [.log t e []]) a=TD.aG (lk []) a:=(cE (λid S=>we (H:=[]) (T:=t) (e:=e) id S) a).symm;rw[TD.aG,Q];congr 1;rw[TD.er,show Yh (lk [.log t e []]) 0 t ad=[] from pB (H:=[])]
   rfl
  have j:ce P g (TD.aG (lk [.log t e []]) (.own 0 ad t ad::a)) (aJ [.log t e []]) (r.er (lk m.2)) (aJ m.2):=j;rw[J]at j;exact Zx6 (H:=[]) (e:=e) j
section
variable{P:yg}
theorem be(h:HI)(lp:yL (Nat×Lp))(l:yL (Fs P))(a:dC l){g:yw}{f:yL Sh}{es:yL bG}{ins:yL Ty}{xs:yL cw}{M:Ty.aO ins->yO (cw.sum xs)}(hl:mO P g (iA P g) lp:=by exact True.intro)(hn:f.length<=iA P g:=by decide+kernel)
 (k:∀x,JA P { hi:=h,lp:=lp} { l:=l} g f es ins xs x=M x:=by intro v;kernel_rfl):Fs.Ok (⟨g,f,es,ins,xs,M⟩:Fs P):=wS (oj a) hl hn k
abbrev Lp.bR(L:Lp)(P:yg)(g k:Nat):Prop:=L.Ok P (iA P g) (iN P g k)
theorem ZG(h:HI)(lp:yL (Nat×Lp))(l:yL (Fs P))(a:dC l){g k N:Nat}{sl:cH}{es:yL bG}{I:yL Ty}{xs:yL cw}{step:Ty.aO I->yO (Ty.aO I⊕cw.sum xs)}(hl:mO P g N lp:=by exact True.intro)(f:wO P g k=ae:=by kernel_rfl)
 (j:∀v,pO P { hi:=h,lp:=lp} { l:=l} (iN P g k) k N sl es I xs v=step v:=by intro v;kernel_rfl):Lp.Ok P N (iN P g k) ⟨sl,es,I,xs,Zc step yD⟩:=IZ (oj a) hl f j
end
end Go.Ev
end
section
namespace Go.Ev
universe u
variable{O:Type u}
def ff(n:Nat)(k:Nat->O):O:=Nat.rec (motive:=λ_=>O) (k 0) (λm _=>k (Nat.succ m)) n
theorem Y8(n:Nat)(k:Nat->O):ff n k=k n:=by cases n <;> rfl
def ii{α:Type}(f:α->(α->O)->O):yL α->(yL α->O)->O
 |[],k=>k []
 |a::r,k=>f a λa=>ii f r λr=>k (a::r)
theorem W7{α:Type}{f:α->(α->O)->O}(g:∀a k,f a k=k a):∀(l:yL α)(k:yL α->O),ii f l k=k l
 |[],k=>rfl
 |a::r,k=>by rw[ii,g,W7 g r]
def JC(n:Int)(k:Int->O):O:=match n with
 |.ofNat n=>ff n λn=>k (.ofNat n)
 |.negSucc n=>ff n λn=>k (.negSucc n)
theorem ZI1(n:Int)(k:Int->O):JC n k=k n:=by cases n <;> (rw[JC,Y8])
def ot(b:Bool)(k:Bool->O):O:=match b with
 |true=>k ae
 |false=>k af
theorem pQ(b:Bool)(k:Bool->O):ot b k=k b:=by cases b <;> rfl
mutual
def Ty.fo:(t:Ty)->t.aU->(t.aU->O)->O
 |.int _,x,k=>JC x k
 |.u8,x,k=>ff (UInt8.toNat x) λn=>k (UInt8.ofNat n)
 |.u32,x,k=>ff (UInt32.toNat x) λn=>k (ych n)
 |.u64,x,k=>ff (UInt64.toNat x) λn=>k (yan n)
 |.bool,x,k=>ot x k
 |.str,x,k=>k x
 |.sl t,x,k=>ii (Ty.fo t) x k
 |.arr _ t,x,k=>ii (Ty.fo t) x k
 |.st f,x,k=>Ty.fg f x k
def Ty.fg:(f:yL Ty)->Ty.aO f->(Ty.aO f->O)->O
 |[],_,k=>k ()
 |[t],x,k=>Ty.fo t x k
 |t::u::r,x,k=>Ty.fo t x.1 λa=>Ty.fg (u::r) x.2 λb=>k (a,b)
end
mutual
theorem Ty.bK:∀(t:Ty)(x:t.aU)(k:t.aU->O),t.fo x k=k x
 |.int _,x,k=>ZI1 x k
 |.u8,x,k=>by rw[Ty.fo,Y8];exact congrArg k UInt8.ofNat_toNat
 |.u32,x,k=>by rw[Ty.fo,Y8];exact congrArg k UInt32.ofNat_toNat
 |.u64,x,k=>by rw[Ty.fo,Y8];exact congrArg k UInt64.ofNat_toNat
 |.bool,x,k=>pQ x k
 |.str,x,k=>rfl
 |.sl t,x,k=>by rw[Ty.fo];exact W7 (Ty.bK t) x k
 |.arr _ t,x,k=>by rw[Ty.fo];exact W7 (Ty.bK t) x k
 |.st f,x,k=>Ty.bV f x k
theorem Ty.bV:∀(f:yL Ty)(x:Ty.aO f)(k:Ty.aO f->O),Ty.fg f x k=k x
 |[],_,k=>rfl
 |[t],x,k=>Ty.bK t x k
 |t::u::r,x,k=>by rw[Ty.fg,Ty.bK t];exact Ty.bV (u::r) x.2 _
end
mutual
def TP.fo:TP->(TP->O)->O
 |.v t x,k=>t.fo x λx=>k (.v t x)
 |.sl g t f,k=>ii t.fo f λf=>k (.sl g t f)
 |.agg f,k=>TP.fg f λf=>k (.agg f)
 |.arr n s f,k=>TP.fg f λf=>k (.arr n s f)
 |.lw g s f,k=>TP.fg f λf=>k (.lw g s f)
 |.iface t x,k=>TP.fo x λx=>k (.iface t x)
 |x,k=>k x
def TP.fg:yL TP->(yL TP->O)->O
 |[],k=>k []
 |x::r,k=>TP.fo x λx=>TP.fg r λr=>k (x::r)
end
mutual
theorem TP.bK:∀(x:TP)(k:TP->O),x.fo k=k x
 |.v t x,k=>by rw[TP.fo,Ty.bK]
 |.sl g t f,k=>by rw[TP.fo,W7 (Ty.bK t)]
 |.agg f,k=>by rw[TP.fo,TP.bV f]
 |.arr n s f,k=>by rw[TP.fo,TP.bV f]
 |.lw g s f,k=>by rw[TP.fo,TP.bV f]
 |.iface t x,k=>by rw[TP.fo,TP.bK x]
 |.bX,k=>rfl
 |.fn0,k=>rfl
 |.eG,k=>rfl
 |.cC,k=>rfl
 |.gx _,k=>rfl
theorem TP.bV:∀(x:yL TP)(k:yL TP->O),TP.fg x k=k x
 |[],k=>rfl
 |x::r,k=>by rw[TP.fg,TP.bK x,TP.bV r]
end
def ZMy{α:Type}(f:α->(α->O)->O):yO α->(yO α->O)->O
 |none,k=>k ad
 |some a,k=>f a λa=>k (ab a)
theorem ZI2{α:Type}{f:α->(α->O)->O}(g:∀a k,f a k=k a):∀(l:yO α)(k:yO α->O),ZMy f l k=k l
 |none,k=>rfl
 |some a,k=>g a _
mutual
def TD.fo:TD->(TD->O)->O
 |.p x,k=>x.fo λx=>k (.p x)
 |.elem x,k=>x.fo λx=>k (.elem x)
 |.own id h t c,k=>ff id λid=>ZMy (ii t.fo) c λc=>k (.own id h t c)
 |.aj id q,k=>ff id λid=>k (.aj id q)
 |.view id q s lo n,k=>ff id λid=>ff s λs=>ff lo λlo=>ff n λn=>k (.view id q s lo n)
 |.agg g,k=>TD.fg g λg=>k (.agg g)
 |.arr n s g,k=>ff n λn=>ff s λs=>TD.fg g λg=>k (.arr n s g)
 |.fn f g,k=>TD.fg g λg=>k (.fn f g)
 |.iface t x,k=>TD.fo x λx=>k (.iface t x)
 |.bp g,k=>TD.fg g λg=>k (.bp g)
 |.mp id,k=>ff id λid=>k (.mp id)
 |.rv id v s lo n,k=>ff id λid=>ff v λv=>ff s λs=>ff lo λlo=>ff n λn=>k (.rv id v s lo n)
 |.aZ id v q,k=>ff id λid=>ff v λv=>k (.aZ id v q)
 |.rw id,k=>ff id λid=>k (.rw id)
 |.rp id q,k=>ff id λid=>k (.rp id q)
 |.an,k=>k .an
def TD.fg:yL TD->(yL TD->O)->O
 |[],k=>k []
 |x::r,k=>TD.fo x λx=>TD.fg r λr=>k (x::r)
end
mutual
theorem TD.bK:∀(x:TD)(k:TD->O),x.fo k=k x
 |.p x,k=>by rw[TD.fo,TP.bK]
 |.elem x,k=>by rw[TD.fo,TP.bK]
 |.own id h t c,k=>by rw[TD.fo,Y8,ZI2 (W7 (Ty.bK t))]
 |.aj id q,k=>by rw[TD.fo,Y8]
 |.view id q s lo n,k=>by rw[TD.fo,Y8,Y8,Y8,Y8]
 |.agg g,k=>by rw[TD.fo,TD.bV g]
 |.arr n s g,k=>by rw[TD.fo,Y8,Y8,TD.bV g]
 |.fn f g,k=>by rw[TD.fo,TD.bV g]
 |.iface t x,k=>by rw[TD.fo,TD.bK x]
 |.bp g,k=>by rw[TD.fo,TD.bV g]
 |.mp id,k=>by rw[TD.fo,Y8]
 |.rv id v s lo n,k=>by rw[TD.fo,Y8,Y8,Y8,Y8,Y8]
 |.aZ id v q,k=>by rw[TD.fo,Y8,Y8]
 |.rw id,k=>by rw[TD.fo,Y8]
 |.rp id q,k=>by rw[TD.fo,Y8]
 |.an,k=>rfl
theorem TD.bV:∀(x:yL TD)(k:yL TD->O),TD.fg x k=k x
 |[],k=>rfl
 |x::r,k=>by rw[TD.fg,TD.bK x,TD.bV r]
end
def ah.fo(e:ah)(k:ah->O):O:=match e with
 |.var d st=>d.fo λd=>ot st λst=>k (.var d st)
 |.log t e f=>ii t.fo f λf=>k (.log t e f)
 |.map g a b l=>ii (λq k=>a.fo q.1 λx=>b.fo q.2 λy=>k (x,y)) l λl=>k (.map g a b l)
 |.row v s st e d=>ff v λv=>ff s λs=>ot st λst=>d.fo λd=>k (.row v s st e d)
 |.aY t v st e f=>ot st λst=>ii t.fo f λf=>k (.aY t v st e f)
 |.aR t h v st e a b=>ot st λst=>ii t.fo a λa=>ii t.fo b λb=>k (.aR t h v st e a b)
 |.bL t h v st e a d b=>ot st λst=>ii t.fo a λa=>d.fo λd=>ii t.fo b λb=>k (.bL t h v st e a d b)
 |.gone=>k .gone
theorem ah.bK(e:ah)(k:ah->O):e.fo k=k e:=by
 cases e with
 |var d st=>rw[ah.fo,TD.bK,pQ]
 |log t e f=>rw[ah.fo,W7 (Ty.bK t)]
 |map g a b l=>rw[ah.fo,W7 λq k=>by rw[Ty.bK a,Ty.bK b]]
 |row v s st e d=>rw[ah.fo,Y8,Y8,pQ,TD.bK]
 |aY t v st e f=>rw[ah.fo,pQ,W7 (Ty.bK t)]
 |aR t h v st e a b=>rw[ah.fo,pQ,W7 (Ty.bK t),W7 (Ty.bK t)]
 |bL t h v st e a d b=>rw[ah.fo,pQ,W7 (Ty.bK t),TD.bK,W7 (Ty.bK t)]
 |gone=>rfl
def wT(a:yL TD)(h:yL ah)(k:yL TD->yL ah->O):O:=TD.fg a λa=>ii ah.fo h λh=>k a h
theorem ZLj(a:yL TD)(h:yL ah)(k:yL TD->yL ah->O):wT a h k=k a h:=by rw[wT,TD.bV,W7 ah.bK]
def ov:(l:yL cw)->cw.sum l->(cw.sum l->O)->O
 |[],x,k=>k x
 |[e],x,k=>Ty.fg e.ty x k
 |e::f::r,x,k=>match (x:Ty.aO e.ty⊕cw.sum (f::r)) with
  |.inl x=>Ty.fg e.ty x λx=>k (.inl x:Ty.aO e.ty⊕cw.sum (f::r))
  |.inr x=>ov (f::r) x λx=>k (.inr x:Ty.aO e.ty⊕cw.sum (f::r))
theorem JD:∀(l:yL cw)(x:cw.sum l)(k:cw.sum l->O),ov l x k=k x
 |[],x,k=>rfl
 |[e],x,k=>Ty.bV _ _ _
 |e::f::r,x,k=>by
  unfold ov
  cases (x:Ty.aO e.ty⊕cw.sum (f::r)) with
  |inl x=>exact Ty.bV _ _ _
  |inr x=>exact JD (f::r) x _
def Fs.fo{P:yg}(s:Fs P):Fs P:={ s with M:=λx=>Ty.fg s.ins x λx=>(s.M x).bind λo=>ov s.xs o ab}
theorem Fs.sR{P:yg}{s:Fs P}(h:s.Ok):s.fo.Ok:=by
 have e:s.fo=s:=by
  unfold Fs.fo
  have:(λx=>Ty.fg s.ins x λx=>(s.M x).bind λo=>ov s.xs o ab)=s.M:=by
   funext x;rw[Ty.bV]
   cases s.M x with
   |none=>rfl
   |some o=>exact JD _ _ _
  rw[this]
 rw[e];exact h
theorem Zy2{P:yg}:∀{l:yL (Fs P)},dC l->dC (l.map Fs.fo)
 |[],_=>trivial
 |s::r,h=>⟨Fs.sR h.1,Zy2 h.2⟩
end Go.Ev
end
section
namespace Go.Ev
def ZCp(h:yL ah)(n0:Nat)(r:TD):yL Nat:=
 let f:=sy h 100000 (r.look++yo n0) []
 ((yo h.length).drop n0).filter f.contains
def ZMz(P:yg)(H:yL ah)(t:yc)(d:TD):yO TD:=
 match d with
 |.p x=>ab (.p x)
 |d=>(gH P iu t).bind λT=>(HL H 100 T d).map λy=>.p (.v T y)
def ZLk(P:yg)(H:yL ah):yL yc->yL TD->yO (yL TD)
 |[],[]=>ab []
 |t::r,d::f=>match ZMz P H t d,ZLk P H r f with
  |some a,ab b=>ab (a::b)
  |_,_=>ad
 |_,_=>ad
def JE{O:Type}(h:yL ah)(n0:Nat)(g:yL TD)(K:TD->yL ah->yO O):yO O:=
 let f:=ZCp h n0 (kM g)
 if once (yo n0++f) then(match Dv.rn (bc (yo n0++f)) ((kM g).er (lk h)) with
  |some _=>(kM g).rn (bc (yo n0++f))
  |none=>(kM (g.map (TD.arg (lk h)))).rn (bc (yo n0++f))).bind λr=>
  (W5 h (yo n0++f) (yo n0++f)).bind λj=>K r j
 else ad
section
variable{P:yg}
def sS(P:yg)(eZ:yw->HI)(l:yL (Fs P))(mt:yL (yc×String×yw))(ja:yw->yL (Nat×kK))(fP:yw->yL (Nat×Lp)):Nat->(O:Type)->yw->yL TD->yL ah->(TD->yL ah->yO O)->yO O
 |0,_,_,_,_,_=>ad
 |n+1,O,g,f,H,K=>wT f H λf H=>match P.funcs[g]? with
  |some fn=>match fn.body with
   |some c=>if ag (f.length<=fn.ntmps)=ae then
     gc P { hi:=eZ g,un:=1000000,gh:=ja g,bk:=fP g} ⟨l,sS P eZ l mt ja fP n,mt,[]⟩ c 0 0 (f++yx (fn.ntmps - f.length) .an) H λj a h=>match j with
      |.exit _=>ad
      |_=>mP P a h fn.results.toList λm _=>JE h H.length m λr h=>wT [r] h λrs h=>match rs with
       |[r]=>K r h
       |_=>ad
     else ad
   |none=>ad
  |none=>ad
def sU(P:yg)(fP:yw->yL (Nat×Lp)):Prop:=∀g fn c,P.funcs[g]? =ab fn->fn.body=ab c->∀k b,(X7 c)[k]? =ab b->∀f,(k,f)∈fP g->f.Is P fn.ntmps b
theorem ZCq{eZ:yw->HI}{l:yL (Fs P)}{mt:yL (yc×String×yw)}{ja:yw->yL (Nat×kK)}{fP:yw->yL (Nat×Lp)}(hl:dC l)(hm:ib P mt)(hb:sU P fP):∀(n:Nat),oi P (sS P eZ l mt ja fP n)
 |0=>λ_ _ _ _ _ _ h=>by cases h
 |n+1=>λO g f H K out y=>by
  unfold sS at y;simp only[ZLj]at y;split at y
  .rename_i fn T;split at y
   .rename_i c A;obtain⟨U,y⟩:=Za y;have U:=yF U
    have Y:(f++yx (fn.ntmps - f.length) TD.an).length=fn.ntmps:=by
     rw[yl,List.length_replicate];omega
    obtain⟨M,a,j,E,k2,Z⟩:=W6 (N:=fn.ntmps) (aK:=⟨l,sS P eZ l mt ja fP n,mt,[]⟩) ⟨hl,ZCq hl hm hb n,hm,aw⟩ c _ _ _ _ _ Y (λk b W X h=>by cases h) (λk b W X h=>hb g fn c T A k b W X (by rw[<-yar k];exact h)) y
    have z:(M=.ret\/M=.normal)/\(mP P a j fn.results.toList λF _=>JE j H.length F K)=ab out:=by
     cases M with
     |exit _=>cases E
     |normal=>exact⟨.inr rfl,E⟩
     |ret=>exact⟨.inl rfl,E⟩
    obtain⟨z,E⟩:=z;obtain⟨F,hs,C,m,g2,g3⟩:=wP _ _ E;unfold JE at m;dsimp only at m;generalize ZCp j H.length (kM F)=G at m;obtain⟨g5,m⟩:=Za m;obtain⟨r,R,m⟩:=yf.1 m;obtain⟨S,Q,m⟩:=yf.1 m;refine⟨_,_,m, ?_⟩
    have I:fin P fn (TD.aG (lk j) a) (aJ j) (aJ H).length G hs=ab (C,r.er (lk S),aJ S):=by
     unfold fin;have:=g3 [];rw[ybf]at this;rw[this];dsimp only;rw[Z2,g5, <-wQ,show aP (aJ j) _ _=ab (aJ S) from Qq (iw Q) Q]
     split at R
     .rename_i r0 J;have e4:=jR (iw Q) _ _ R;rw[e4]
     .rename_i J;have e4:=jR (iw Q) _ _ R;rw[wQ,ZO,ybd]at e4
      rw[J,show(TD.aG (lk j) F).map Dv.arg=F.map (TD.er (lk j) ∘ TD.arg (lk j)) by
       rw[ZO,ybd];exact yci λd _=>(ZGs d).symm,e4]
    have zB:Xv P c (TD.aG (lk H) f++yx (fn.ntmps - (TD.aG (lk H) f).length) .an) (aJ H) M (TD.aG (lk j) a) (aJ j):=by
     have e5:TD.aG (lk H) (f++yx (fn.ntmps - f.length) TD.an)=TD.aG (lk H) f++yx (fn.ntmps - (TD.aG (lk H) f).length) .an:=by
      rw[ZBR,ZO,ZO,yaw,List.map_replicate];rfl
     rw[<-e5];exact Z
    exact rm T A zB z I g2
   .cases y
  .cases y
theorem ZI3{fP:yw->yL (Nat×Lp)}(h:∀g,pP P (iA P g) (ZX P g) (fP g)):sU P fP:=λg fn c f j k b l A m=>by
 have:=IY (h g) m
 have y:ZX P g=c:=by
  unfold ZX;rw[f];dsimp only;rw[j];rfl
 have z:iA P g=fn.ntmps:=by
  unfold iA;rw[f]
 rw[y,z]at this;unfold iz at this;rw[l]at this;exact this
def Lp.fo(s:Lp):Lp:={ s with L:=λx=>Ty.fg s.I x λx=>(s.L x).bind λo=>ov s.xs o ab}
theorem Lp.sV{n:Nat}{c:Code}{s:Lp}(h:s.Is P n c):s.fo.Is P n c:=by
 have e:s.fo=s:=by
  unfold Lp.fo
  have:(λx=>Ty.fg s.I x λx=>(s.L x).bind λo=>ov s.xs o ab)=s.L:=by
   funext x;rw[Ty.bV]
   cases s.L x with
   |none=>rfl
   |some o=>exact JD _ _ _
  rw[this]
 rw[e];exact h
def JF(P:yg)(eZ:yw->HI)(l:yL (Fs P))(mt:yL (yc×String×yw))(n:Nat)(g:yw)(ja:yw->yL (Nat×kK):=λ_=>[])(fP:yw->yL (Nat×Lp):=λ_=>[]):yO Bool:=
 sS P eZ l mt ja fP n Bool g [] [] λr h=>match h with
  |[]=>r.boolT
  |_=>ad
theorem ZI4{eZ:yw->HI}{l:yL (Fs P)}{mt:yL (yc×String×yw)}{ja:yw->yL (Nat×kK)}{fP:yw->yL (Nat×Lp)}{n:Nat}{g:yw}{b:Bool}(hl:dC l)(hm:ib P mt)(h:JF P eZ l mt n g ja fP=ab b)(hb:sU P fP:=by intro _ _ _ _ _ _ _ _ _ h;cases h):ce P g [] [] (.p (.bool b)) []:=by
 obtain⟨r,H',f,j⟩:=ZCq hl hm hb n _ _ _ _ _ _ h;split at f
 .rw[px f]at j;exact j
 .cases f
theorem ZLn{eZ:yw->HI}{l:yL (Fs P)}{mt:yL (yc×String×yw)}{ja:yw->yL (Nat×kK)}{fP:yw->yL (Nat×Lp)}{n:Nat}{g:yw}{b:Bool}(hl:dC l)(hm:ib P mt)(h:JF P eZ l mt n g ja fP=ab b)(hb:sU P fP:=by intro _ _ _ _ _ _ _ _ _ h;cases h):
 Fs.Ok (⟨g,[],[],[],[⟨.ret,[(0,.v .bool)],[],[.bool]⟩],λ_=>ab b⟩:Fs P):=by
 intro x o f;cases f;refine⟨[],[],[],rfl,rfl,λe vs m hs j=> ?_⟩;obtain⟨rfl,rfl⟩:=hs;cases j;exact⟨_,rfl,ZI4 hl hm h hb⟩
end
theorem isN{P:yg}{n:Nat}{c:Code}(s:Nat->Lp)(h:(s yD).Is P n c):(s 18446744073709551616).Is P n c:=by
 rw[jW]at h;exact h
theorem jX{P:yg}(s:Nat->Fs P)(h:(s yD).Ok):(s 18446744073709551616).Ok:=by
 rw[jW]at h;exact h
theorem ZGv{P:yg}{g:yw}{args:yL Dv}{H H1 H2:yL aq}{r j:Dv}{keep:yL Nat}(h:ce P g args H r H1)(ho:once (yo H.length++keep)=ae)
 (f:aP H1 (yo H.length++keep) (yo H.length++keep)=ab H2) (m:r.rn (bc (yo H.length++keep))=ab j):ce P g args H j H2:=by
 intro σ vs l e y;refine Calls.mono (h σ vs l e y) ?_;rintro M Q ⟨v,z,A,E,F,G,I,J⟩;subst F;subst e;exact⟨v,gC z (yo σ.H.length++keep) H2,A,E,rfl,pj l G ho f,pi I ho f,lh (jJ f) m J⟩
end Go.Ev
end
section
namespace Go.Ev
open Go.RowKit Go.WideShapes Go.ChangeShapes
def Yw(P:yg):Nat->yc->Bool
 |0,_=>af
 |n+1,t=>match P.underlying t with
  |some .bool=>ae
  |some (.int _)=>ae
  |some .string=>ae
  |some (.slice e)=>Yw P n e&&ag (0 < P.cellsOf e)
  |some (.array m e)=>Yw P n e&&P.cellsOf t==m*P.cellsOf e
  |some (.struct g)=>(g.toList.all λf=>Yw P n f.type)&&P.cellsOf t==(g.toList.map λf=>P.cellsOf f.type).sum&&
    ((yo g.toList.length).all λj=>match g.toList[j]? with|some f=>f.offset==((g.toList.take j).map λf=>P.cellsOf f.type).sum|none=>ae)
  |_=>af
theorem ZwJ(P:yg):Kids P (λt=>∃n,Yw P n t=ae) where
 pointer:=by
  rintro t e ⟨n,h⟩ hu
  cases n with
  |zero=>simp[Yw]at h
  |succ n=>simp[Yw,hu]at h
 slice:=by
  rintro t e ⟨n,h⟩ hu
  cases n with
  |zero=>simp[Yw]at h
  |succ n=>simp[Yw,hu]at h;exact⟨n,h.1⟩
 array:=by
  rintro t e m ⟨n,h⟩ hu
  cases n with
  |zero=>simp[Yw]at h
  |succ n=>simp[Yw,hu]at h;exact⟨⟨n,h.1⟩,h.2⟩
 struct:=by
  rintro t fs ⟨n,h⟩ hu
  cases n with
  |zero=>simp[Yw]at h
  |succ n=>
   simp only[Yw,hu,yi,yT,yal]at h;obtain⟨⟨h1,h2⟩,h3⟩:=h;refine⟨λf hf=>⟨n,h1 f hf⟩,h2,λj f hf=> ?_⟩;have hj:j < fs.toList.length:=(yu.1 hf).1;have:=h3 j (by simpa using hj);rw[hf]at this;simpa using this
 map:=by
  rintro t k e ⟨n,h⟩ hu
  cases n with
  |zero=>simp[Yw]at h
  |succ n=>simp[Yw,hu]at h
def wU(R:yc->Pl->Prop):yL Field->yL Pl->Prop
 |[],[]=>True
 |f::g,y::h=>R f.type y/\wU R g h
 |_,_=>False
def dU(P:yg):Nat->yc->Pl->Prop
 |0,_,_=>False
 |n+1,t,x=>match P.underlying t,x with
  |some .bool,.bool _=>True
  |some (.int k),.int g m=>g=k/\(Lit.int k m).wf=ae
  |some .string,.str s=>s.size<=maxLen
  |some (.slice e),.sl h s f=>s=P.cellsOf e/\h=ad/\f.length<=maxLen/\∀y,y∈f->dU P n e y
  |some (.array m e),.arr j s f=>j=m/\s=P.cellsOf e/\f.length=m/\∀y,y∈f->dU P n e y
  |some (.struct l),.agg f=>wU (dU P n) l.toList f
  |_,_=>False
def lG:Nat->Nat->Prop:=λ_ _=>True
section
variable{H:Type}{enc:yc×yh->H}{P:yg}{w:yr}{base:Nat}{sp:Nat->Bool}{held:Bool}
theorem ZDX:∀{s:Nat}{a:Addr}{cs:yL yh},w.cells? base a s=ab cs->cs.length=s/\∀j u,cs[j]? =ab u->w.cell? (a.add j)=ab u:=by
 intro s a cs h;unfold World.cells? at h;split at h
 .have f:cs.length=s:=by simpa using mapM_some_length h
  refine⟨f,λj u g=> ?_⟩;have l:j < s:=by rw[<-f];exact(yu.1 g).1
  have:=mapM_some_get h j j (by simp[l]);grind
 .cases h
theorem ZCr{e:yc}{n m:Nat}{a:Addr}{s:Nat}(hs:0 < s){f:yL (DataW H×yL MemPlace)}{len:Nat}(zW:f.length=len)
 (A:∀(cs:yL yh)(x:DataW H×yL MemPlace),DataW.trod enc P w base sp held m e cs=ab x->cs.length=s->∃g,dU P n e g/\aB w lG g cs)
 (h:∀i,i < len->(w.cells? base (a.add (i*s)) s).bind (DataW.trod enc P w base sp held m e)=f[i]?):
 ∀k,k<=len->∃(xs:yL Pl)(us:yL yh),xs.length=k/\(∀y,y∈xs->dU P n e y)/\aW s xs/\us.length=k*s/\ar w lG xs us/\(∀j u,us[j]? =ab u->w.cell? (a.add j)=ab u)
 |0,_=>⟨[],[],rfl,(λy hy=>by cases hy),(λy hy=>by cases hy),by simp,by simp[ar],by simp⟩
 |k+1,U=>by
  obtain⟨xs,us,G,W,I,J,M,X⟩:=ZCr hs zW A h k (by omega);have l:=h k (by omega);rw[yab (by omega)]at l;obtain⟨cs,Q,R⟩:=yf.1 l;obtain⟨z,S⟩:=ZDX Q;obtain⟨g,Y,E⟩:=A cs _ R z;have T:g.size=s:=by rw[<-Wm _ _ E,z]
  refine⟨xs++[g],us++cs,by simp[G],λy hy=> ?_,λy hy=> ?_,by simp[J,z,yba],Z7 M (by simpa[ar] using E),λj u F=> ?_⟩
  .all_goals grind
  .rcases List.mem_append.1 hy with hy|hy
   .exact I y hy
   grind
  .by_cases Z:j < us.length
   .grind
   .rw[yaq (by omega)]at F;have:=S _ _ F;rw[Addr.add_add]at this;grind
theorem Zy3{e:yc}{n m:Nat}{s:Nat}{cs:yL yh}{f:yL (DataW H×yL MemPlace)}{len:Nat}(zW:f.length=len)(hcs:cs.length=len*s)
 (l:∀(cs:yL yh)(x:DataW H×yL MemPlace),DataW.trod enc P w base sp held m e cs=ab x->cs.length=s->∃g,dU P n e g/\aB w lG g cs)
 (h:∀i,i < len->DataW.trod enc P w base sp held m e ((cs.drop (i*s)).take s)=f[i]?):
 ∀k,k<=len->∃(xs:yL Pl),xs.length=k/\(∀y,y∈xs->dU P n e y)/\aW s xs/\ar w lG xs (cs.take (k*s))
 |0,_=>⟨[],rfl,(λy hy=>by cases hy),(λy hy=>by cases hy),by simp[ar]⟩
 |k+1,E=>by
  obtain⟨xs,F,Q,G,I⟩:=Zy3 zW hcs l h k (by omega);have j:=h k (by omega);rw[yab (by omega)]at j;have J:k*s+s<=len*s:=by rw[<-Nat.succ_mul];exact ycb _ E
  have z:((cs.drop (k*s)).take s).length=s:=by simp;omega
  obtain⟨g,R,A⟩:=l _ _ j z;have M:g.size=s:=by rw[<-Wm _ _ A,z]
  refine⟨xs++[g],by simp[F],λy hy=> ?_,λy hy=> ?_, ?_⟩
  .all_goals grind
  .rcases List.mem_append.1 hy with hy|hy
   .exact G y hy
   grind
  .rw[yba,Nat.one_mul,List.take_add];exact Z7 I (by simpa[ar] using A)
theorem Zu4{n m:Nat}{cs:yL yh}
 (F:∀(t:yc),Yw P n t=ae->∀(cs:yL yh)(x:DataW H×yL MemPlace),DataW.trod enc P w base sp held m t cs=ab x->∃A,dU P n t A/\aB w lG A cs):
 ∀(l:yL Field)(o:Nat),(∀f,f∈l->Yw P n f.type=ae)->(∀(j:Nat)f,l[j]? =ab f->f.offset=o+((l.take j).map λf=>P.cellsOf f.type).sum)->
  cs.length=o+(l.map λf=>P.cellsOf f.type).sum->(∀(j:Nat)f,l[j]? =ab f->∃x,DataW.trod enc P w base sp held m f.type ((cs.drop f.offset).take (P.cellsOf f.type))=ab x)->
  ∃(xs:yL Pl),wU (dU P n) l xs/\ar w lG xs (cs.drop o)
 |[],o,_,_,E,_=>⟨[],zP,by simp only[ar];apply List.drop_eq_nil_of_le;simp at E;omega⟩
 |f::l,o,G,I,E,h=>by
  obtain⟨x,J⟩:=h 0 f rfl;have y:=I 0 f rfl;simp at y;rw[y]at J;obtain⟨A,M,Q⟩:=F f.type (G f (yau ..)) _ _ J;simp only[yah,List.sum_cons]at E
  obtain⟨xs,R,S⟩:=Zu4 F l (o+P.cellsOf f.type) (λg z=>G g (yav _ z)) (λj g z=>by
   have:=I (j+1) g z;simp only[List.take_succ_cons,yah,List.sum_cons]at this;omega) (by omega) (λj g z=>h (j+1) g z)
  refine⟨A::xs,⟨M,R⟩, ?_⟩;simp only[ar];refine⟨(cs.drop o).take (P.cellsOf f.type),(cs.drop o).drop (P.cellsOf f.type),(List.take_append_drop ..).symm,Q, ?_⟩;simp_all
theorem ZI6:∀(n m:Nat)(t:yc),Yw P n t=ae->∀(cs:yL yh)(x:DataW H×yL MemPlace),DataW.trod enc P w base sp held m t cs=ab x->∃pl,dU P n t pl/\aB w lG pl cs:=by
 intro n
 induction n with
 |zero=>intro m t h;simp[Yw]at h
 |succ n ih=>
  intro m t l cs x h;unfold Yw at l;split at l
  .rename_i g;obtain⟨b,rfl,_⟩:=DataW.trod_bool g h;exact⟨.bool b,by simp[dU,g],by simp[aB]⟩
  .rename_i k g;obtain⟨z,rfl,rfl,hw⟩:=DataW.trod_int g h;exact⟨.int k z,by simp[dU,g,hw],by simp[aB]⟩
  .rename_i g;obtain⟨s,rfl,M⟩:=DataW.trod_string g h;exact⟨.str s,by simp[dU,g];exact M.2,by simp[aB]⟩
  .rename_i e g;simp only[yi,yP]at l;rcases DataW.trod_slice g h with⟨rfl,rfl⟩|⟨a,len,cap,A,yK,J,rfl,rfl,rfl,_,hle,Q,R,E,_⟩
   .exact⟨.sl ad (P.cellsOf e) [],by simp[dU,g],by simp only[aB];exact⟨(λy hy=>by cases hy),ad,0,rfl,ym _,Nat.zero_le _,Ym _,λ_=>rfl,λh=>absurd rfl h⟩⟩
   .obtain⟨S,us,T,M,h3,Y,h5,h6⟩:=ZCr (n:=n) l.2 R (λcs x U _=>ih J e l.1 cs x U) E len (ym _);refine⟨.sl ad (P.cellsOf e) S,by simp only[dU,g];exact⟨zP,zP,by omega,M⟩, ?_⟩;simp only[aB];refine⟨h3,ab a,cap,by rw[T],by omega,Q,Ym _,by simp,λhne=> ?_⟩
    have W:0 < us.length:=by
     rw[Y];have:0 < len:=by rw[<-T];exact List.length_pos_iff.2 hne
     simp_all
    have F:=h6 0 us[0] (yab W);obtain⟨b,o,G⟩:=a
    have I:G=ad:=by
     cases G with
     |none=>rfl
     |some z=>
      exfalso;unfold World.cell? at F;split at F
      .simp[Addr.add]at F
      .cases F
    subst I;exact⟨b,o,us,rfl,h5,λj u g=>⟨by have:=h6 j u g;rwa [Addr.add_lit]at this,aw⟩⟩
  .rename_i k e g;simp only[yi,yT]at l;obtain⟨A,J,rfl,rfl,Z,R,E⟩:=DataW.trod_array g h;obtain⟨S,T,M,h3,Y⟩:=Zy3 (n:=n) (s:=P.cellsOf e) R (by rw[Z,l.2]) (λcs x U _=>ih J e l.1 cs x U) E k (ym _);rw[List.take_of_length_le (by rw[Z,l.2];exact ym _)]at Y;exact⟨.arr k (P.cellsOf e) S,by simp only[dU,g];exact⟨zP,zP,T,M⟩,by simp only[aB];exact⟨T,h3,Y⟩⟩
  .rename_i fs g;simp only[yi,yT,yal]at l;obtain⟨⟨t1,t2⟩,t3⟩:=l;obtain⟨A,J,rfl,rfl,Z,R,E⟩:=DataW.trod_struct g h
   obtain⟨S,q1,q2⟩:=Zu4 (n:=n) (m:=J) (cs:=cs) (λt l cs x U=>ih J t l cs x U) fs.toList 0 t1 (λj f X=>by
    have hj:j < fs.toList.length:=(yu.1 X).1;have:=t3 j (by simpa using hj);rw[X]at this;simpa using this) (by rw[Z,t2];omega) (λj f X=>by
    have hj:j < fs.toList.length:=(yu.1 X).1;have:=E j f (by simpa using X);rw[yab (by rw[R];simpa using hj)]at this;exact⟨_,this⟩)
   exact⟨.agg S,by simp only[dU,g];exact q1,by simp only[aB];simpa using q2⟩
  .cases l
end
end Go.Ev
namespace Go.Ev
open Go.RowKit Go.WideShapes Go.ChangeShapes
def wV(P:yg)(n:Nat):yL yc->yL Pl->Prop
 |[],[]=>True
 |t::ts,x::f=>dU P n t x/\wV P n ts f
 |_,_=>False
section
variable{H:Type}{enc:yc×yh->H}{P:yg}
def iB(W:yr):Sg:={ F:=lG,B:=λb=>W.heap.size<=b,m:=[],H:=[],w:=W}
theorem ZLo(W:yr):Ok (iB W) where
 len:=rfl
 inj i j b h:=by simp[iB]at h
 lt i b h:=by simp[iB]at h
 dF i e a h:=by simp[iB]at h
 new b h:=h
 own i b h:=by simp[iB]at h
theorem ZGw(W:yr)(b o:Nat):(iB W).bf b o:=⟨.inl trivial,λid e h=>by simp[iB]at h⟩
theorem Zr1{W:yr}{x:Pl}{v:yh}{cs:yL yh}(j:aB W lG x cs)(hc:v.cells.toList=cs)(hv:x.isAgg=ae->∃a,v=.agg a)(hn:x.isAgg=af->cs=[v]):yJ (iB W) (.p x) v:=by
 have g:aB W (iB W).bf x cs:=lY (λb o u h _=>⟨h,ZGw W b o⟩) x cs j;refine⟨λf=> ?_,λf=> ?_⟩
 .obtain⟨a,rfl⟩:=hv f;refine⟨a,rfl, ?_⟩;simp only[yH];have:a.toList=cs:=by rw[<-hc];rfl
  rw[this];exact g
 .simp only[yH];have e:=hn f;rw[<-e];exact g
theorem ZLp:∀{n:Nat}{t:yc}{x:Pl},dU P n t x->x.isAgg=XB P t
 |0,_,_,h=>by simp[dU]at h
 |n+1,t,x,h=>by
  unfold dU at h;split at h <;> rename_i f <;> first|(simp[Pl.isAgg,XB,f];done)|exact h.elim
theorem ZCs{W:yr}{n:Nat}(f:∀(t:yc)(v:yh),XB P t=ae->Value.okWide P W .any 0 t v->∃a,v=.agg a):
 ∀(ts:yL yc)(vs:yL yh)(g:yL (DataW H))(y:yL MemPlace),(∀t,t∈ts->Yw P n t=ae)->(∀(j:Nat)t v,ts[j]? =ab t->vs[j]? =ab v->(XB P t=ae->∃a,v=.agg a)/\(XB P t=af->v.cells.toList=[v]))->
  DataW.TrodAll enc P W 0 (λ_=>ae) ae ts vs g y->∃xs,wV P n ts xs/\aH (iB W) (xs.map .p) vs
 |[],[],[],_,_,_,_=>⟨[],zP,by simp[aH]⟩
 |[],_::_,_,_,_,_,h=>by simp[DataW.TrodAll]at h
 |[],[],_::_,_,_,_,h=>by simp[DataW.TrodAll]at h
 |_::_,[],_,_,_,_,h=>by simp[DataW.TrodAll]at h
 |_::_,_::_,[],_,_,_,h=>by simp[DataW.TrodAll]at h
 |t::ts,v::vs,d::g,y,z,A,h=>by
  obtain⟨p,q,⟨yD,G⟩,I,rfl⟩:=h;obtain⟨x,E,J⟩:=ZI6 n yD t (z t (yau ..)) _ _ G;obtain⟨xs,l,m⟩:=ZCs f ts vs g q (λu M=>z u (yav _ M)) (λj u Q R S=>A (j+1) u Q R S) I;obtain⟨T,U⟩:=A 0 t v rfl rfl;refine⟨x::xs,⟨E,l⟩, ?_⟩;simp only[yah,aH];have F:=ZLp E;exact⟨v,vs,rfl,Zr1 J rfl (λe=>T (by rw[<-F];exact e)) (λe=>U (by rw[<-F];exact e)),m⟩
theorem Zk0{W W':yr}{g:Nat->Bool}{n:Nat}:∀(ts:yL yc)(vs:yL yh)(l:yL (DataW H))(j:yL MemPlace),(∀t,t∈ts->Yw P n t=ae)->
 DataW.TrodAll enc P W 0 (λ_=>ae) ae ts vs l j->(∀p∈j,W.sameAt W' p)->(∀p∈j,g p.block=ae)->DataW.TrodAll enc P W' 0 g ae ts vs l j
 |[],[],[],_,_,h,_,_=>h
 |[],_::_,_,_,_,h,_,_=>by simp[DataW.TrodAll]at h
 |[],[],_::_,_,_,h,_,_=>by simp[DataW.TrodAll]at h
 |_::_,[],_,_,_,h,_,_=>by simp[DataW.TrodAll]at h
 |_::_,_::_,[],_,_,h,_,_=>by simp[DataW.TrodAll]at h
 |t::ts,v::vs,d::l,j,A,h,hs,E=>by
  obtain⟨p,q,⟨yD,F⟩,G,rfl⟩:=h;refine⟨p,q,⟨yD, ?_⟩,Zk0 ts vs l q (λu m=>A u (yav _ m)) G (λz f=>hs z (List.mem_append_right _ f)) (λz f=>E z (List.mem_append_right _ f)),rfl⟩
  exact DataW.trod_stays (ZwJ P) (λ{t e}⟨n,y⟩m=>by
   cases n with
   |zero=>simp[Yw]at y
   |succ n=>simp[Yw,m]at y;exact y.2) (by simp) ⟨n,A t (yau ..)⟩ F (λz f=>hs z (List.mem_append_left _ f)) (λz f=>E z (List.mem_append_left _ f))
theorem Zy4{W:yr}{σ':Sg}(h:To (iB W) σ'):Below W.heap.size W σ'.w:=
 ⟨h.os,h.tape,h.output,h.size,λb f=>h.block b f (λid=>by simp[iB])⟩
theorem Zr2{f:Func}{s:ChangeSpec}{h fresh handsOn z:Bool}{W W':yr}{args:Array yh}{v:yh}{E gs:yL (DataW H)}{g pa pv:yL MemPlace}
 (I:DataW.Whole enc P f.params.toList s.vars h W args.toList E gs g)
 (m:∀(b:Nat)(sp:Nat->Bool)(hd:Bool),DataW.TrodAll enc P W' b sp hd f.resultTypes.toList (v.resultList f.resultTypes.size) (s.fn H (E++gs)).results [])
 (M:∀sp:Nat->Bool,(∀p∈g,sp p.block=ae)->DataW.TrodAll enc P W' 0 sp ae f.params.toList args.toList (s.fn H (E++gs)).args pa)
 (l:∀sp:Nat->Bool,(∀p∈g,sp p.block=ae)->DataW.TrodVars enc P W' sp s.vars (s.fn H (E++gs)).vars pv)
 (hps:g=pa++pv) (hb:Below W.heap.size W W')
 (J:∀(j:Nat)(t:yc)(r:yh),f.resultTypes[j]? =ab t->(v.resultList f.resultTypes.size)[j]? =ab r->Value.okWide P W' .any 0 t r):
 s.post enc P f h fresh handsOn z W args v W':=by
 have F:∀p∈g,p.block < W.heap.size:=λp A=>I.lt p A;have y:∀p∈g,(λb=>ag (b < W.heap.size)) p.block=ae:=λp A=>by simpa using F p A
 refine⟨E,gs,g,[],pa,pv,I,m _ _ _,M _ y,l _ y,World.keptBut_mono (λp A=>⟨A, ?_⟩) (hb.frame (· ∈g)),λ_=> ?_⟩
 .grind
 .obtain⟨_,_,_,_,_,Q,R⟩:=I;refine⟨J,_,_,([]++pa)++pv,⟨[]++pa,pv,trodAll_append (M _ (λ_ _=>rfl)) (m _ _ _),l _ (λ_ _=>rfl),rfl, ?_, ?_⟩, ?_⟩
  .intro b off A;have G:MemPlace.cell b off∈g:=by rw[hps];simpa using A
   rw[hb.frozen (F _ G)];exact Q b off G
  all_goals grind
theorem ZwL{f:yw}{fn:Func}{s:ChangeSpec}{n:Nat}{tb:yc}(hr:fn.resultTypes= #[tb])(ht:P.underlying tb=ab .bool)(hv:s.vars=[])
 (hs:∀G:yL (DataW H),G.length=fn.params.toList.length->s.fn H G={ results:=[.lit (.bool ae)],args:=G}) (hp:∀t,t∈fn.params.toList->Yw P n t=ae)
 (W:yr) (base:Nat) (args:Array yh) (G gs:yL (DataW H)) (F:yL MemPlace)
 (S:∀(j:Nat)t v,fn.params[j]? =ab t->args[j]? =ab v->Value.okWide P W .any base t v) (hW:DataW.Whole enc P fn.params.toList s.vars af W args.toList G gs F)
 (hc:∀xs:yL Pl,wV P n fn.params.toList xs->aH (iB W) (xs.map .p) args.toList->ce P f (xs.map .p) [] (.p (.bool ae)) []):
 Calls P f args W λe W'=>∃v,e=.returned v/\s.post enc P fn af ae af af W args v W':=by
 have I:=hW;obtain⟨p,q,X,Y,rfl,hfz,hnd⟩:=hW;rw[hv]at Y
 obtain⟨rfl,rfl⟩:gs=[]/\q=[]:=by
  cases gs with
  |nil=>exact⟨rfl,Y⟩
  |cons g r=>simp[DataW.TrodVars]at Y
 have zW:=trodAll_length X
 obtain⟨xs,x1,x2⟩:=ZCs (enc:=enc) (P:=P) (W:=W) (n:=n) (λt v y l=>by
  unfold Value.okWide at l;unfold XB at y;split at l
  .obtain⟨J,rfl,_⟩:=l;exact⟨J,rfl⟩
  .obtain⟨J,rfl,_⟩:=l;exact⟨J,rfl⟩
  .rename_i Z h2;split at y
   .rename_i fs E;exact absurd E (Z fs)
   .rename_i k e E;exact absurd E (h2 k e)
   .cases y) fn.params.toList args.toList G p hp (λj t v M hvv=>by
  have l:=S j t v (by simpa using M) (by simpa using hvv);refine⟨λy=> ?_,λy=> ?_⟩
  .unfold Value.okWide at l;unfold XB at y;split at l
   .obtain⟨J,rfl,_⟩:=l;exact⟨J,rfl⟩
   .obtain⟨J,rfl,_⟩:=l;exact⟨J,rfl⟩
   .rename_i Z h2;split at y
    .rename_i fs E;exact absurd E (Z fs)
    .rename_i k e E;exact absurd E (h2 k e)
    .cases y
  .obtain⟨m,hm⟩:∃m,Yw P (m+1) t=ae:=by
    have:=hp t (ybk M)
    cases n with
    |zero=>simp[Yw]at this
    |succ n=>exact⟨n,this⟩
   unfold Value.okWide at l;unfold Yw at hm;unfold XB at y;split at hm <;> rename_i E <;> simp only[E]at l y
   all_goals first
    |(cases y;done)
    |(cases hm;done)
    |(unfold Cell.okWide Cell.ok at l;simp only[E]at l;cases v <;> first|rfl|(simp at l;done))) X
 have A:=hc xs x1 x2 (iB W) args.toList (ZLo W) rfl x2;rw[Array.toArray_toList]at A;refine Calls.mono A ?_;rintro e W' ⟨v,σ',rfl,rfl,hH,hto,l,yM⟩;have hbv:v=.bool ae:=by simpa[yJ,Dv.isAgg,Pl.isAgg,yH,aB] using yM
 subst hbv;have hb:=Zy4 hto;simp only[ybf]at I;have hlt:=I.lt
 have Q:∀z∈p,W.sameAt σ'.w z:=by
  intro z hz;have T:=hlt z hz
  cases z with
  |cell b o=>exact hb.cell (p:=⟨b,o,ad⟩) T
  |map b=>exact hb.block b T
 have R:=hs G zW.2;refine⟨_,rfl,Zr2 (pa:=p) (pv:=[]) I (λb sp hd=> ?_) (λsp h=> ?_) (λsp h=> ?_) (by simp) hb ?_⟩
 .rw[ybf,R,hr];exact trodAll_cons_mk (shut_bool ht _) trodAll_mk0
 .rw[ybf,R];exact Zk0 fn.params.toList args.toList G p hp X Q h
 .rw[ybf,R,hv];rfl
 .intro j t r M U;rw[hr]at M U
  cases j with
  |zero=>
   simp at M;subst M;have:r=.bool ae:=by simpa[Value.resultList] using U.symm
   subst this
   exact okWide_bool_mk ht _
  |succ j=>simp at M
end
end Go.Ev
namespace Go.Ev
end Go.Ev
end
section
namespace Go.Ev
mutual
def Ty.Wf:(t:Ty)->t.aU->Prop
 |.int k,n=>(Lit.int k n).wf=ae
 |.u8,_=>True
 |.u32,_=>True
 |.u64,_=>True
 |.bool,_=>True
 |.str,s=>s.size<=maxLen
 |.sl t,l=>List.length l<=maxLen/\∀x,List.Mem x l->Ty.Wf t x
 |.arr n t,l=>List.length l=n/\∀x,List.Mem x l->Ty.Wf t x
 |.st f,x=>Ty.sW f x
def Ty.sW:(f:yL Ty)->Ty.aO f->Prop
 |[],_=>True
 |[t],x=>Ty.Wf t x
 |t::u::r,x=>Ty.Wf t x.1/\Ty.sW (u::r) x.2
end
mutual
def ow(P:yg):Nat->yc->Ty->Bool
 |0,_,_=>af
 |n+1,t,T=>match P.underlying t,T with
  |some (.int .u8),.u8=>ae
  |some (.int .u32),.u32=>ae
  |some (.int .u64),.u64=>ae
  |some (.int k),.int f=>ag (k=f)
  |some .bool,.bool=>ae
  |some .string,.str=>ae
  |some (.slice e),.sl T'=>P.cellsOf e==T'.size&&ow P n e T'
  |some (.array m e),.arr g T'=>m==g&&(P.cellsOf e==T'.size&&ow P n e T')
  |some (.struct h),.st Ts=>fh P n h.toList Ts
  |_,_=>af
def fh(P:yg):Nat->yL Field->yL Ty->Bool
 |0,_,_=>af
 |_+1,[],[]=>ae
 |n+1,f::g,T::Ts=>ow P n f.type T&&fh P n g Ts
 |_+1,_,_=>af
end
theorem ZMA{m:Int}(h:(Lit.int .u8 m).wf=ae):∃b:yB,m=(b.toNat:Int):=by
 simp only[Lit.wf,yi,yP]at h;have f:(0:Int)<=m:=h.1;have g:m<=255:=h.2;refine⟨UInt8.ofNat m.toNat, ?_⟩;have:(UInt8.ofNat m.toNat).toNat=m.toNat:=by simp;omega
 rw[this];omega
theorem ZLq{m:Int}(h:(Lit.int .u32 m).wf=ae):∃b:yV,m=(b.toNat:Int):=by
 simp only[Lit.wf,yi,yP]at h;have f:(0:Int)<=m:=h.1;have g:m<=4294967295:=h.2;refine⟨ych m.toNat, ?_⟩;have:(ych m.toNat).toNat=m.toNat:=by simp;omega
 rw[this];omega
theorem ZLr{m:Int}(h:(Lit.int .u64 m).wf=ae):∃b:yU,m=(b.toNat:Int):=by
 simp only[Lit.wf,yi,yP]at h;have f:(0:Int)<=m:=h.1;have g:m<=18446744073709551615:=h.2;refine⟨yan m.toNat, ?_⟩;have:(yan m.toNat).toNat=m.toNat:=by simp;omega
 rw[this];omega
theorem JG{α β:Type}{f:α->β}{R:α->Prop}:∀{ys:yL β},(∀y,y∈ys->∃x,y=f x/\R x)->∃l:yL α,ys=l.map f/\∀x,List.Mem x l->R x
 |[],_=>⟨[],rfl,λx j=>by cases j⟩
 |y::ys,h=>by
  obtain⟨x,rfl,j⟩:=h y (yau ..);obtain⟨l,rfl,m⟩:=JG (λz g=>h z (yav _ g))
  exact⟨x::l,rfl,λz g=>by
   cases g with
   |head=>exact j
   |tail _ g=>exact m z g⟩
mutual
theorem pR{P:yg}:∀(m n:Nat)(t:yc)(T:Ty)(x:Pl),ow P m t T=ae->dU P n t x->∃v:T.aU,T.Wf v/\x=T.enc v
 |0,_,_,_,_,h,_=>by simp[ow]at h
 |_+1,0,_,_,_,_,h=>by simp[dU]at h
 |m+1,n+1,t,T,x,h,f=>by
  unfold ow at h;split at h
  .rename_i g;unfold dU at f;rw[g]at f;cases x <;> try exact f.elim
   obtain⟨rfl,j⟩:=f;obtain⟨b,rfl⟩:=ZMA j;exact⟨b,zP,rfl⟩
  .rename_i g;unfold dU at f;rw[g]at f;cases x <;> try exact f.elim
   obtain⟨rfl,j⟩:=f;obtain⟨b,rfl⟩:=ZLq j;exact⟨b,zP,rfl⟩
  .rename_i g;unfold dU at f;rw[g]at f;cases x <;> try exact f.elim
   obtain⟨rfl,j⟩:=f;obtain⟨b,rfl⟩:=ZLr j;exact⟨b,zP,rfl⟩
  .rename_i k M g;have h:=yF h;subst h;unfold dU at f;rw[g]at f;cases x <;> try exact f.elim
   obtain⟨rfl,j⟩:=f;exact⟨_,j,rfl⟩
  .rename_i g;unfold dU at f;rw[g]at f;cases x <;> try exact f.elim
   exact⟨_,zP,rfl⟩
  .rename_i g;unfold dU at f;rw[g]at f;cases x <;> try exact f.elim
   exact⟨_,f,rfl⟩
  .rename_i e T' g;simp only[yi,yT]at h;unfold dU at f;rw[g]at f;cases x <;> try exact f.elim
   obtain⟨rfl,rfl,z,A⟩:=f
   obtain⟨l,rfl,E⟩:=JG λy F=>(by
    obtain⟨v,a,b⟩:=pR m n e T' y h.2 (A y F);exact⟨v,b,a⟩:∃v:T'.aU,y=T'.enc v/\T'.Wf v)
   refine⟨l,⟨by simpa using z,E⟩, ?_⟩;rw[h.1];rfl
  .rename_i Q e R T' g;simp only[yi,yT]at h;obtain⟨rfl,h⟩:=h;unfold dU at f;rw[g]at f;cases x <;> try exact f.elim
   obtain⟨rfl,rfl,z,A⟩:=f
   obtain⟨l,rfl,E⟩:=JG λy F=>(by
    obtain⟨v,a,b⟩:=pR m n e T' y h.2 (A y F);exact⟨v,b,a⟩:∃v:T'.aU,y=T'.enc v/\T'.Wf v)
   refine⟨l,⟨by simpa using z,E⟩, ?_⟩;rw[h.1];rfl
  .rename_i G Ts g;unfold dU at f;rw[g]at f;cases x <;> try exact f.elim
   rename_i I;obtain⟨v,J,rfl⟩:=jY m n G.toList Ts I h f;exact⟨v,J,rfl⟩
  .cases h
theorem jY{P:yg}:∀(m n:Nat)(j:yL Field)(Ts:yL Ty)(xs:yL Pl),fh P m j Ts=ae->wU (dU P n) j xs->∃v:Ty.aO Ts,Ty.sW Ts v/\xs=Ty.encs Ts v
 |0,_,_,_,_,h,_=>by simp[fh]at h
 |m+1,n,[],[],[],h,g=>⟨(),zP,rfl⟩
 |m+1,n,[],[],_::_,h,g=>g.elim
 |m+1,n,[],_::_,_,h,g=>by cases h
 |m+1,n,_::_,[],_,h,g=>by cases h
 |m+1,n,_::_,_::_,[],h,g=>g.elim
 |m+1,n,f::j,[T],x::xs,h,g=>by
  simp only[fh,yi]at h;obtain⟨v,l,rfl⟩:=pR m n f.type T x h.1 g.1
  cases j with
  |nil=>cases xs with
   |nil=>exact⟨v,l,rfl⟩
   |cons _ _=>exact g.2.elim
  |cons _ _=>
   cases m with
   |zero=>exact absurd h.2 (by simp[fh])
   |succ m=>exact absurd h.2 (by simp[fh])
 |m+1,n,f::j,T::U::Ts,x::xs,h,g=>by
  simp only[fh,yi]at h;obtain⟨v,l,rfl⟩:=pR m n f.type T x h.1 g.1;obtain⟨w,y,rfl⟩:=jY m n j (U::Ts) xs h.2 g.2;exact⟨(v,w),⟨l,y⟩,rfl⟩
end
theorem Zu6{I X:Type}{step:I->yO (I⊕X)}(Inv:I->Prop)(f:I->Nat)(Post:X->Prop)
 (h:∀i,Inv i->(∃j,step i=ab (.inl j)/\Inv j/\f j < f i)\/(∃x,step i=ab (.inr x)/\Post x)):∀(n:Nat)(i:I),Inv i->f i < n->∃x,Zc step n i=ab x/\Post x
 |0,i,_,m=>by omega
 |n+1,i,y,m=>by
  unfold Zc;rcases h i y with⟨j,g,l,z⟩|⟨x,g,l⟩
  .rw[g,ya];exact Zu6 Inv f Post h n j l (by omega)
  .rw[g,ya];exact⟨x,rfl,l⟩
theorem Wz{I X:Type}{step:I->yO (I⊕X)}(Inv:I->Prop)(f:I->Nat)(Post:X->Prop)
 (h:∀i,Inv i->(∃j,step i=ab (.inl j)/\Inv j/\f j < f i)\/(∃x,step i=ab (.inr x)/\Post x)) (i:I) (hi:Inv i) (hm:f i < 18446744073709551616):∃x,Zc step yD i=ab x/\Post x:=by
 refine Zu6 Inv f Post h yD i hi ?_;rw[jW];exact hm
theorem ZJ{z:Int}(h1: -9223372036854775808<=z)(h2:z<=9223372036854775807):wi z=z:=by
 simp only[wi,IntKind.wrap,IntKind.signed,IntKind.bits];simp;omega
theorem sX{α:Type}{l:yL α}{i:Int}{y:α}(f:0<=i)(h:l[i.toNat]? =ab y):idx l i=ab y:=by
 unfold idx;rw[yW f,h]
theorem jp{α:Type}{l:yL α}{i:Nat}(h:i < l.length):∃y,l[i]? =ab y:=⟨_,yab h⟩
theorem X8{i:Int}{n:Nat}(h1:0<=i)(h2:i < (n:Int)):bi i n=ae:=by simp[bi,h1,h2]
theorem ZZ{n m b:Nat}(h1:(n+m)*b<=140737488355328)(h2:n+m<=9223372036854775807):cj n m b=ae:=by
 unfold cj;rw[yi];exact⟨yY h1,yY h2⟩
def sY:(ts:yL Ty)->Ty.aO ts->yL TD
 |[],_=>[]
 |[t],x=>[.p (.v t x)]
 |t::u::r,x=>.p (.v t x.1)::sY (u::r) x.2
theorem ZCt:∀(ts:yL Ty)(x:Ty.aO ts),Sh.fills (ts.map .v) (dD ts x)=ab (sY ts x,[])
 |[],_=>rfl
 |[t],x=>by
  rw[show dD [t] x=[⟨t,x⟩] from rfl,yah,List.map_nil,Sh.fills,Sh.fill]
  have e:=YZ t x;dsimp only;rw[e]
  rfl
 |t::u::r,x=>by
  have h:=ZCt (u::r) x.2;have e:=YZ t x.1;rw[show dD (t::u::r) x=⟨t,x.1⟩::dD (u::r) x.2 from rfl,yah,Sh.fills,Sh.fill]
  dsimp only;rw[e,yae,ya,h];rfl
theorem ZGx{L:Lk}:∀(ts:yL Ty)(x:Ty.aO ts),TD.aG L (sY ts x)=(Ty.encs ts x).map .p
 |[],_=>rfl
 |[t],x=>rfl
 |t::u::r,x=>by
  rw[show sY (t::u::r) x=.p (.v t x.1)::sY (u::r) x.2 from rfl,ZO,yah, <-ZO,ZGx (u::r) x.2]
  rfl
theorem ZI8{P:yg}{g:yw}{ts:yL Ty}{M:Ty.aO ts->yO Bool}(j:Fs.Ok (⟨g,ts.map .v,[],ts,[⟨.ret,[(0,.v .bool)],[],[.bool]⟩],M⟩:Fs P)){x:Ty.aO ts}(h:M x=ab ae):
 ce P g ((Ty.encs ts x).map .p) [] (.p (.bool ae)) []:=by
 obtain⟨f,R,H,l,m,y⟩:=j x ae h;have e:=(ZCt ts x).symm.trans (show Sh.fills (ts.map .v) (dD ts x)=ab (f,R) from l)
 cases e;cases m
 obtain⟨r,z,A⟩:=y _ [⟨.bool,ae⟩] ([.p (.v .bool ae)],[]) ⟨rfl,rfl⟩ (by
  simp only[V6,ss];rfl)
 cases z;rw[<-ZGx (L:=lk [])];exact A
theorem wW{P:yg}{s:Fs P}(h:s.Ok){M:Ty.aO s.ins->yO (cw.sum s.xs)}(e:∀x,M x=s.M x):Fs.Ok (P:=P) { s with M:=M}:=by
 have:M=s.M:=funext e;subst this;exact h
def sZ(P:yg)(m:Nat):yL yc->yL Ty->Bool
 |[],[]=>ae
 |t::ts,T::Ts=>ow P m t T&&sZ P m ts Ts
 |_,_=>af
theorem ZCu{P:yg}{m n:Nat}:∀{ts:yL yc}{Ts:yL Ty}{xs:yL Pl},sZ P m ts Ts=ae->wV P n ts xs->∃v:Ty.aO Ts,Ty.sW Ts v/\xs=Ty.encs Ts v
 |[],[],[],_,_=>⟨(),zP,rfl⟩
 |[],[],_::_,_,h=>h.elim
 |[],_::_,_,h,_=>by cases h
 |_::_,[],_,h,_=>by cases h
 |_::_,_::_,[],_,h=>h.elim
 |t::ts,[T],x::xs,h,f=>by
  simp only[sZ,yi]at h;obtain⟨v,g,rfl⟩:=pR m n t T x h.1 f.1
  cases ts with
  |nil=>cases xs with
   |nil=>exact⟨v,g,rfl⟩
   |cons _ _=>exact f.2.elim
  |cons _ _=>exact absurd h.2 (by simp[sZ])
 |t::ts,T::U::Ts,x::xs,h,f=>by
  simp only[sZ,yi]at h;obtain⟨v,g,rfl⟩:=pR m n t T x h.1 f.1;obtain⟨w,j,rfl⟩:=ZCu (Ts:=U::Ts) h.2 f.2;exact⟨(v,w),⟨g,j⟩,rfl⟩
end Go.Ev
end
section
namespace Go.Proofs.YtcbhhaigilifgaaGreat
open Go.Ev Go.RowKit Go.Lib
abbrev zN(t:Ty):List cw:=[⟨.ret,[(0,.v t)],[],[t]⟩]
theorem ZBd(w:yr):Calls yb 221 #[.slice ad 0 0,.int .i64 0] w λe w'=>e=.returned (.slice ad 0 0)/\w'=w:=by
 go_enter Tryz.func221,Tryz.ntmps221
 go_wp2
 go_ret
 exact⟨rfl,rfl⟩
theorem ZDY(n:Nat)(w:yr)(y:0 < n)(hn:n<=Zt):Calls yb 221 #[.slice ad 0 0,.int .i64 n] w λe w'=>e=.returned (.slice (ab ⟨w.heap.size,0,ad⟩) 0 (grownCap w n 0 5))/\
 w'=w.drew.alloc (.cells (Builtin.zeroCells #[.int .u8 0] n++Builtin.zeroCells #[.int .u8 0] (grownCap w n 0 5 - n)) 5):=by
 have J:n<=140737488355328:=hn;have z:¬((n:Int) < 0):=by omega
 have M:wrap64 ((n:Int) - ((0:Int) - (0:Int)))=(n:Int):=by unfold wrap64;omega
 have F:wrap64 ((n:Int) - 0)=(n:Int):=by unfold wrap64;omega
 have A:wrap64 (n:Int)=(n:Int):=by unfold wrap64;omega
 have Q:(n:Int) > 0:=by omega
 have I:∃i,yb.info? 5=ab i/\i.zero=ab (.int .u8 0)/\i.size=1/\i.bytes=1:=by
  have h:(yb.info? 5).map (λi=>(i.zero,i.size,i.bytes))=ab (ab (.int .u8 0),1,1):=by kernel_rfl
  obtain⟨i,z,j⟩:=yv.1 h;simp only[yq]at j;exact⟨i,z,j.1,j.2.1,j.2.2⟩
 obtain⟨i,lH,pY,hi3,hi4⟩:=I
 have g:∀l,(Builtin.append_ #[141,3] l #[.slice ad 0 0,.int .i64 n]).run yb w=
  .ok (.slice (ab ⟨w.heap.size,0,ad⟩) n (grownCap w n 0 5)) (w.drew.alloc (.cells (Builtin.zeroCells #[.int .u8 0] n++Builtin.zeroCells #[.int .u8 0] (grownCap w n 0 5 - n)) 5)):=λl=>by
  have h:=Lib.run_append_grow_zeros (P:=yb) w 141 3 l 5 i (.int .u8 0) .i64 .i64 Tryz.underlying141 Tryz.underlying3 lH pY ad 0 0 [] (by rw[hi3];simp[Builtin.firstCells]) n y (by omega) (by omega) (by omega)
   (by rw[hi4];omega) (by rw[yar];exact growslice_fits y (by rw[hi4];omega))
  simpa[Value.cells] using h
 obtain⟨G,E⟩:∃G,G=grownCap w n 0 5:=⟨_,rfl⟩;have m:=grownCap_ge w n 0 5;have f:=grownCap_le_maxLen w n 0 5 (by unfold maxLen;omega);unfold maxLen at f;rw[<-E]at g m f ⊢;clear E
 go_enter Tryz.func221,Tryz.ntmps221
 go_wp2_with (at_builtin;refine Lib.wpList_append_run _ rfl _ _ _ _ rfl _ _ rfl rfl _ _ (g _) ?_)
 all_goals (go_ret;exact⟨rfl,rfl⟩)
theorem ZGy(n:Nat)(hn:n<=Zt):ce yb 221 [.p (.sl (ab af) 1 []),.p (.int .i64 (n:Int))] [] (.own 0 ad 1 []) [.log 1 5 []]:=by
 intro σ vs E j l;simp only[aH]at l;obtain⟨v,_,rfl,S,T,_,rfl,F,rfl⟩:=l;obtain rfl:=nI S
 obtain rfl:T=.int .i64 n:=by
  have:=F.2 rfl;simpa[yH,aB] using this
 have M:σ.m=[]:=List.eq_nil_of_length_eq_zero (by rw[E.len,j];rfl);rcases Nat.eq_zero_or_pos n with rfl|h0
 .refine(ZBd σ.w).mono λe U⟨G,I⟩=> ?_;subst G;subst I;obtain⟨to,f⟩:=WD (σ':={ σ with m:=σ.m++[ad],H:=σ.H++[.log 1 5 []]}) E rfl rfl rfl rfl (World.grownBy.refl σ.w ad) (.inl rfl) (λ_=>.inl ⟨rfl,rfl⟩);refine⟨_,{ σ with m:=σ.m++[ad],H:=σ.H++[.log 1 5 []]},rfl,rfl,by simp[j],to,f, ?_⟩;rw[Zh rfl];simp only[yH];exact⟨λ_ y=>(by cases y),ad,0,rfl,ym _,by simp[maxLen],Ym _,λ_=>rfl,λh=>absurd rfl h,5,[],by simp[j],ym _,λ_=>.inl ⟨by simp[M],rfl,rfl⟩⟩
 .refine(ZDY n σ.w h0 hn).mono λe U⟨G,I⟩=> ?_;subst G;subst I;have W:=grownCap_ge σ.w n 0 5;have z:=grownCap_le_maxLen σ.w n 0 5 (by have:n<=140737488355328:=hn;unfold maxLen;omega)
  have A:(Builtin.zeroCells #[.int .u8 0] n++Builtin.zeroCells #[.int .u8 0] (grownCap σ.w n 0 5 - n):Array yh).size=grownCap σ.w n 0 5*1:=by
   simp only[Array.size_append,size_zeroCells];simp;omega
  let J:Array yh:=Builtin.zeroCells #[.int .u8 0] n++Builtin.zeroCells #[.int .u8 0] (grownCap σ.w n 0 5 - n);let g:Sg:={ σ with m:=σ.m++[ab σ.w.heap.size],H:=σ.H++[.log 1 5 []],w:=σ.w.drew.alloc (.cells J 5)};have Q:g.w.heap[σ.w.heap.size]? =ab (.cells J 5 (0,0)):=heap_alloc_new σ.w.drew _
  obtain⟨to,f⟩:=WD (σ':=g) E rfl rfl rfl rfl (YY σ.w (.cells J 5) ad) (.inr ⟨_,rfl,ym _,by simp[g]⟩)
   (λR=>.inr ⟨σ.w.heap.size,_,grownCap σ.w n 0 5,rfl,Q,A,Nat.zero_le _,z,λ_ y=>(by cases y),by simp[ar]⟩)
  refine⟨_,g,rfl,rfl,by simp[g,j],to,f, ?_⟩;rw[Zh rfl];simp only[yH];exact⟨λ_ y=>(by cases y),_,_,rfl,Nat.zero_le _,z,Ym _,λh=>(by cases h),λh=>absurd rfl h,5,[],by simp[g,j],ym _,λ_=>.inr ⟨_,_,by simp[g,M],rfl,Q,A⟩⟩
end Go.Proofs.YtcbhhaigilifgaaGreat
end
section
set_option maxRecDepth 4000
namespace Go.Proofs.YtcbhhaigilifgaaGreat
open Go Go.Ev
noncomputable section
abbrev yI:Ty:=.int .i64
abbrev Zm:Ty:=(.st [yI,yI,yI,.u64,yI])
abbrev Cond:Type:=(Int×Int×Int×yU×Int)
abbrev _root_.aNb:=yL Cond
def ta(F:Nat)(a0:aNb):yO (aNb):=
 if(cj 0 a0.length 40)=ae then
  ab a0
 else
 ad
abbrev _root_.aMT:Go.Ev.Ty:=.sl Zm
def ZBe:Fs yb:=⟨53,[.sl ae Zm],[],[aMT],(zN aMT),λx=>ta yD x⟩
theorem Zy5:ZBe.Ok:=be { own:=[5,7],still:=[2]} [] [] trivial
def ZmY(F:Nat):yO (aNb):=
 ab []
def ZtK:Fs yb:=⟨53,[.nil Zm],[],[],(zN aMT),λx=>ZmY yD⟩
theorem Zr4:ZtK.Ok:=be { own:=[5,7],still:=[2]} [] [] trivial
def ZmZ:Fs yb:=⟨53,[.v aMT],[],[aMT],(zN aMT),λx=>ta yD x⟩
theorem ZtL:ZmZ.Ok:=sQ (t:=Zm) (xs:=(zN aMT)) (MA:=λ(x:aNb)=>ta yD x) (MB:=λ_=>ZmY yD) Zy5 Zr4 rfl
abbrev _root_.aNe:Go.Ev.Ty:=.arr 2 yI
abbrev Zb:Ty:=(.st [yI,aNe,aMT,yI])
abbrev _root_.aNd:=yL Int
abbrev yG:Type:=(Int×aNd×aNb×Int)
def ZP(F:Nat)(a0:yG)(a1:aNd):yO (yG):=
 (a0.2.1[0]?).bind λf=>
 (a1[0]?).bind λg=>
 (a0.2.1[0]?).bind λl=>
 ((a0.2.1.set 0 (wi (f+g)))[1]?).bind λe4=>
 (a1[1]?).bind λh=>
 ((a0.2.1.set 0 (wi (f+g)))[1]?).bind λm=>
 (ta F a0.2.2.1).bind λj=>
 ab (a0.1,(a0.2.1.set 0 (wi (f+g))).set 1 (wi (e4+h)),j,a0.2.2.2)
def Zjf:Fs yb:=⟨15,[.v Zb,.v aNe],[],[Zb,aNe],(zN Zb),λx=>ZP yD x.1 x.2⟩
theorem Zii:Zjf.Ok:=be { still:=[22]} [] [ZmZ] ⟨ZtL,aw⟩
def mQ:ByteArray:=⟨#[0,1,2,2,3,3,3,3,4,4,4,4,4,4,4,4,5,5,5,5,5,5,5,5,5,5,5,5,5,5,5,5,6,6,6,6,6,6,6,6,6,6,6,6,6,6,6,6,6,6,6,6,6,6,6,6,6,6,6,6,6,6,6,6,7,7,7,7,7,7,7,7,7,7,7,7,7,7,7,7,7,7,7,7,7,7,7,7,7,7,7,7,7,7,7,7,7,7,7,7,7,7,7,7,7,7,7,7,7,7,7,7,7,7,7,7,7,7,7,7,7,7,7,7,7,7,7,7,8,8,8,8,8,8,8,8,8,8,8,8,8,8,8,8,8,8,8,8,8,8,8,8,8,8,8,8,8,8,8,8,8,8,8,8,8,8,8,8,8,8,8,8,8,8,8,8,8,8,8,8,8,8,8,8,8,8,8,8,8,8,8,8,8,8,8,8,8,8,8,8,8,8,8,8,8,8,8,8,8,8,8,8,8,8,8,8,8,8,8,8,8,8,8,8,8,8,8,8,8,8,8,8,8,8,8,8,8,8,8,8,8,8,8,8,8,8,8,8,8,8,8,8,8,8,8,8]⟩
def Zpw(F:Nat)(a0:yU):yO (Int):=
 if(ag (a0 >= 4294967296))=ae then
  if(ag ((ZB a0 32) >= 65536))=ae then
   if(ag ((ZB (ZB a0 32) 16) >= 256))=ae then
    let h:yB:=w8 ((ZB (ZB (ZB a0 32) 16) 8).toNat:Int)
    (idx (gn mQ) (h.toNat:Int)).bind λj=>
    ab (wi (56+(j.toNat:Int)))
   else
   (idx (gn mQ) ((w8 ((ZB (ZB a0 32) 16).toNat:Int)).toNat:Int)).bind λa=>
   ab (wi (48+(a.toNat:Int)))
  else
  if(ag ((ZB a0 32) >= 256))=ae then
   (idx (gn mQ) ((w8 ((ZB (ZB a0 32) 8).toNat:Int)).toNat:Int)).bind λb=>
   ab (wi (40+(b.toNat:Int)))
  else
  (idx (gn mQ) ((w8 ((ZB a0 32).toNat:Int)).toNat:Int)).bind λc=>
  ab (wi (32+(c.toNat:Int)))
 else
 if(ag (a0 >= 65536))=ae then
  if(ag ((ZB a0 16) >= 256))=ae then
   (idx (gn mQ) ((w8 ((ZB (ZB a0 16) 8).toNat:Int)).toNat:Int)).bind λd=>
   ab (wi (24+(d.toNat:Int)))
  else
  (idx (gn mQ) ((w8 ((ZB a0 16).toNat:Int)).toNat:Int)).bind λe=>
  ab (wi (16+(e.toNat:Int)))
 else
 if(ag (a0 >= 256))=ae then
  (idx (gn mQ) ((w8 ((ZB a0 8).toNat:Int)).toNat:Int)).bind λf=>
  ab (wi (8+(f.toNat:Int)))
 else
 (idx (gn mQ) ((w8 (a0.toNat:Int)).toNat:Int)).bind λg=>
 ab (wi (0+(g.toNat:Int)))
def Zm0:Fs yb:=⟨228,[.v .u64],[],[.u64],(zN yI),λx=>Zpw yD x⟩
theorem ZtM:Zm0.Ok:=be { still:=[2]} [] [] trivial
def Yz(F:Nat)(a0:yU):yO (Int):=
 (Zpw F a0).bind λa=>
 ab (wi (64 - a))
def ZbY:Fs yb:=⟨211,[.v .u64],[],[.u64],(zN yI),λx=>Yz yD x⟩
theorem ZhK:ZbY.Ok:=be { still:=[2,3]} [] [Zm0] ⟨ZtM,aw⟩
abbrev zJ:=yU×yU×yU×yU×yU×yU×yU×yU
def Qr(F:Nat):(yU×zJ)->yO ((yU×zJ)⊕(zJ))
 |(d,e,c,f,g,h,i,a,b)=>
 if(ag (a >= 4294967296))=ae then
  let j:Bool:=ag ((b+c) >= 4294967296)
  if j=ae then
   ab (.inr (d,e,c,f,g,h,i,a - 1))
  else
  ab (.inl (d,e,c,f,g,h,i,a - 1,b+c))
 else
 let k:Bool:=ag ((a*f) > ((4294967296*b)+h))
 if k=ae then
  let l:Bool:=ag ((b+c) >= 4294967296)
  if l=ae then
   ab (.inr (d,e,c,f,g,h,i,a - 1))
  else
  ab (.inl (d,e,c,f,g,h,i,a - 1,b+c))
 else
 ab (.inr (d,e,c,f,g,h,i,a))
def Zk1:Lp:=⟨[(2,.v .u64),(8,.v .u64),(9,.v .u64),(10,.v .u64),(11,.v .u64),(13,.v .u64),(14,.v .u64),(15,.v .u64),(16,.v .u64)],[],[.u64,.u64,.u64,.u64,.u64,.u64,.u64,.u64,.u64],[⟨.exit 0,[(2,.v .u64),(8,.v .u64),(9,.v .u64),(10,.v .u64),(11,.v .u64),(13,.v .u64),(14,.v .u64),(15,.v .u64)],[],[.u64,.u64,.u64,.u64,.u64,.u64,.u64,.u64]⟩],Zc (Qr yD) yD⟩
theorem ZoD:Zk1.bR yb 185 0:=ZG { still:=[6,7,34]} [] [] trivial
def Qs(F:Nat):(yU×zJ)->yO ((yU×zJ)⊕(yU×yU×yU×yU×yU×yU))
 |(d,e,c,i,f,g,b,h,a)=>
 if(ag (a >= 4294967296))=ae then
  let j:Bool:=ag ((b+c) >= 4294967296)
  if j=ae then
   ab (.inr (d,e,f,g,h,a - 1))
  else
  ab (.inl (d,e,c,i,f,g,b+c,h,a - 1))
 else
 let k:Bool:=ag ((a*i) > ((4294967296*b)+f))
 if k=ae then
  let l:Bool:=ag ((b+c) >= 4294967296)
  if l=ae then
   ab (.inr (d,e,f,g,h,a - 1))
  else
  ab (.inl (d,e,c,i,f,g,b+c,h,a - 1))
 else
 ab (.inr (d,e,f,g,h,a))
def Zk2:Lp:=⟨[(2,.v .u64),(8,.v .u64),(9,.v .u64),(10,.v .u64),(14,.v .u64),(15,.v .u64),(16,.v .u64),(17,.v .u64),(18,.v .u64)],[],[.u64,.u64,.u64,.u64,.u64,.u64,.u64,.u64,.u64],[⟨.exit 2,[(2,.v .u64),(8,.v .u64),(14,.v .u64),(15,.v .u64),(17,.v .u64),(18,.v .u64)],[],[.u64,.u64,.u64,.u64,.u64,.u64]⟩],Zc (Qs yD) yD⟩
theorem ZoE:Zk2.bR yb 185 1:=ZG { still:=[6,7,34]} [] [] trivial
def wX(F:Nat)(a0:yU)(a1:yU)(a2:yU):yO ((yU×yU)):=
 if(a2==0)=ae then
  ad
 else
 if(ag (a2<=a0))=ae then
  ad
 else
 if(a0==0)=ae then
  if(a2 !=0)=ae then
   if(a2 !=0)=ae then
    ab (a1 / a2,a1 % a2)
   else
   ad
  else
  ad
 else
 (Yz F a2).bind λo=>
 let p:yU:=ZB (V5 a2 (min ((dy o).toNat:Int).toNat 64)) 32;let q:yU:=(V5 a2 (min ((dy o).toNat:Int).toNat 64))&&&4294967295;let r:yU:=ZB a1 (min ((64 - (dy o)).toNat:Int).toNat 64);let s:yU:=(V5 a0 (min ((dy o).toNat:Int).toNat 64))|||r;let t:yU:=ZB (V5 a1 (min ((dy o).toNat:Int).toNat 64)) 32;let u:yU:=(V5 a1 (min ((dy o).toNat:Int).toNat 64))&&&4294967295
 if(p !=0)=ae then
  (Zc (Qr F) F (V5 a2 (min ((dy o).toNat:Int).toNat 64),dy o,p,q,s,t,u,s / p,s - ((s / p)*p))).bind λ(j,l,k,m,g,h,n,i)=>
  let v:yU:=((g*4294967296)+h) - (i*j)
  if(k !=0)=ae then
   (Zc (Qs F) F (j,l,k,m,n,i,v - ((v / k)*k),v,v / k)).bind λ(d,f,b,e,a,c)=>
   let w:yU:=((a*4294967296)+b) - (c*d)
   ab ((e*4294967296)+c,ZB w (min (f.toNat:Int).toNat 64))
  else
  ad
 else
 ad
def Zm1:Fs yb:=⟨185,[.v .u64,.v .u64,.v .u64],[],[.u64,.u64,.u64],[⟨.ret,[(0,.bp [.v .u64,.v .u64])],[],[.u64,.u64]⟩],λx=>wX yD x.1 x.2.1 x.2.2⟩
theorem ZtN:Zm1.Ok:=be { still:=[6,7,34]} [(0,Zk1),(1,Zk2)] [ZbY] ⟨ZhK,aw⟩ ⟨ZoD,ZoE,aw⟩
def td(F:Nat)(a0:yU)(a1:yU)(a2:yU):yO (yU):=
 if(a2 !=0)=ae then
  (wX F (a0 % a2) a1 a2).bind λa=>
  ab a.2
 else
 ad
def JH(F:Nat):Fs yb:=⟨127,[.v .u64,.v .u64,.v .u64],[],[.u64,.u64,.u64],(zN .u64),λx=>td F x.1 x.2.1 x.2.2⟩
def ZtO:Fs yb:=JH yD
theorem Zr5:ZtO.Ok:=be { still:=[6,12,13,14]} [] [Zm1] ⟨ZtN,aw⟩
end
end Go.Proofs.YtcbhhaigilifgaaGreat
end
section
namespace Go.Ev
theorem wY(a m:yU):(a - a / m*m).toNat=a.toNat % m.toNat:=by
 have g:a.toNat / m.toNat*m.toNat<=a.toNat:=Nat.div_mul_le_self _ _;have j:=ybv a
 have f:(a / m*m).toNat=a.toNat / m.toNat*m.toNat:=by
  rw[UInt64.toNat_mul,UInt64.toNat_div,yas (by omega)]
 have h:(a / m*m)<=a:=by rw[ycp,f];exact g
 rw[UInt64.toNat_sub_of_le _ _ h,f];have:=Nat.div_add_mod a.toNat m.toNat
 rw[ybo]at this;omega
theorem jZ(x:yU):(x&&&4294967295).toNat=x.toNat % 4294967296:=by
 rw[UInt64.toNat_and];exact Nat.and_two_pow_sub_one_eq_mod x.toNat 32
theorem gU(x:yU)(n:Nat):(ZB x n).toNat=x.toNat / 2 ^ n:=by
 unfold ZB;rw[ybi,yas (Nat.lt_of_le_of_lt (Nat.div_le_self ..) (ybv _))]
theorem pS{x y:yU}(h:x.toNat+y.toNat < 18446744073709551616):(x+y).toNat=x.toNat+y.toNat:=by
 rw[UInt64.toNat_add,yas h]
theorem pT{x y:yU}(h:x.toNat*y.toNat < 18446744073709551616):(x*y).toNat=x.toNat*y.toNat:=by
 rw[UInt64.toNat_mul,yas h]
theorem te{a b:Nat}(ha:a < 4294967296)(hb:b < 4294967296):a*b<=18446744065119617025:=Nat.mul_le_mul (Nat.le_of_lt_succ ha) (Nat.le_of_lt_succ hb)
end Go.Ev
end
section
set_option maxRecDepth 4000
namespace Go.Proofs.YtcbhhaigilifgaaGreat
open Go Go.Ev
section
variable{y1 y0 u d q r:Nat}
theorem ZMB(h:q*y1+r=u)(hc:4294967296*r+d < q*y0):u*4294967296+d < q*(y1*4294967296+y0):=by
 grind
theorem JI(h:q*y1+r=u)(hc:q*y0<=4294967296*r+d):q*(y1*4294967296+y0)<=u*4294967296+d:=by
 grind
theorem ZLs(hu:u < y1*4294967296+y0)(hd:d < 4294967296):(u*4294967296+d) / (y1*4294967296+y0) < 4294967296:=by
 rw[Nat.div_lt_iff_lt_mul (by omega)];omega
theorem ZCv(h:q*y1+r=u)(hq:1<=q):(q - 1)*y1+(r+y1)=u:=by
 have e:q*y1=(q - 1)*y1+y1:=by
  rw[<-Nat.succ_mul];congr 1;omega
 omega
theorem ZGA(hu:u < y1*4294967296+y0)(f:y0 < 4294967296)(h:q*y1+r=u)(g:4294967296<=r):q*y0<=4294967296*r+d:=by
 by_cases j:q < 4294967296
 .have:q*y0<=4294967295*4294967295:=Nat.mul_le_mul (by omega) (by omega);omega
 .have:4294967296*y1<=q*y1:=ycb _ (by omega);omega
end
theorem JJ{q T Y:Nat}(f:0 < Y)(h1:T / Y<=q)(h2:q*Y<=T):q=T / Y:=Nat.le_antisymm ((Nat.le_div_iff_mul_le f).2 h2) h1
theorem Zy6{y1 y0 u d:Nat}{Q R Y0 Y1 D:yU}(y:Y1.toNat=y1)(g:Y0.toNat=y0)(hD:D.toNat=d)(h1:y1 < 4294967296)(I:y0 < 4294967296)(hd:d < 4294967296)(hu:u < y1*4294967296+y0)
 (e:Q.toNat*y1+R.toNat=u) (T:R.toNat < 4294967296) (z:(u*4294967296+d) / (y1*4294967296+y0)<=Q.toNat):
 ((Q >= 4294967296\/(Q*Y0 > (4294967296*R)+D))/\(u*4294967296+d) / (y1*4294967296+y0)<=(Q - 1).toNat/\(Q - 1).toNat*y1+(R+Y1).toNat=u/\(R+Y1).toNat=R.toNat+y1)\/
 (¬Q >= 4294967296/\¬(Q*Y0 > (4294967296*R)+D)/\Q.toNat=(u*4294967296+d) / (y1*4294967296+y0)):=by
 have f:(R+Y1).toNat=R.toNat+y1:=by rw[pS (by omega),y]
 have J:((4294967296*R)+D).toNat=4294967296*R.toNat+d:=by
  have m:(4294967296*R:yU).toNat=4294967296*R.toNat:=by
   rw[pT (by show 4294967296*R.toNat < _;omega)];rfl
  rw[pS (by rw[m];omega),m,hD]
 have dec:1<=Q.toNat->(Q - 1).toNat=Q.toNat - 1:=λh=>by
  rw[UInt64.toNat_sub_of_le _ _ (by rw[ycp];exact h)];rfl
 by_cases j:Q >= 4294967296
 .left
  have F:4294967296<=Q.toNat:=by
   rw[ge_iff_le,ycp]at j;exact j
  have:=ZLs hu hd;refine⟨.inl j,by rw[dec (by omega)];omega, ?_,f⟩;rw[dec (by omega),f];exact ZCv e (by omega)
 have F:Q.toNat < 4294967296:=by
  rw[ge_iff_le,ycp]at j;grind
 have G:(Q*Y0).toNat=Q.toNat*y0:=by
  have:=te F I;rw[pT (by rw[g];omega),g]
 by_cases l:Q*Y0 > (4294967296*R)+D
 .left
  have A:4294967296*R.toNat+d < Q.toNat*y0:=by
   have:=ycs.1 l;grind
  have E:1<=Q.toNat:=by
   all_goals grind
  have M:=ZMB (d:=d) e A;have S:(u*4294967296+d) / (y1*4294967296+y0) < Q.toNat:=(Nat.div_lt_iff_lt_mul (by omega)).2 M;refine⟨.inr l,by rw[dec E];omega, ?_,f⟩;rw[dec E,f];exact ZCv e E
 .right
  have A:Q.toNat*y0<=4294967296*R.toNat+d:=by
   have:¬(((4294967296*R)+D).toNat < (Q*Y0).toNat):=λh=>l (ycs.2 h);grind
  exact⟨j,l,JJ (by omega) z (JI e A)⟩
theorem ZMC{y1 y0 u d:Nat}{Yv N Y1 Y0 U D E Q R:yU}(y:Y1.toNat=y1)(z:Y0.toNat=y0)(hD:D.toNat=d)(h1:y1 < 4294967296)(h3:0 < y1)(F:y0 < 4294967296)(hd:d < 4294967296)(hu:u < y1*4294967296+y0)
 (e:Q.toNat*y1+R.toNat=u) (A:R.toNat < 4294967296) (f:(u*4294967296+d) / (y1*4294967296+y0)<=Q.toNat):
 ∃q:yU,Zc (Qr yD) yD (Yv,N,Y1,Y0,U,D,E,Q,R)=ab (Yv,N,Y1,Y0,U,D,E,q)/\q.toNat=(u*4294967296+d) / (y1*4294967296+y0):=by
 obtain⟨x,M,q,rfl,S⟩:=Wz (step:=Qr yD) (λs=>∃Q R:yU,s=(Yv,N,Y1,Y0,U,D,E,Q,R)/\Q.toNat*y1+R.toNat=u/\R.toNat < 4294967296/\(u*4294967296+d) / (y1*4294967296+y0)<=Q.toNat)
  (λs=>4294967296 - s.2.2.2.2.2.2.2.2.toNat) (λx=>∃q:yU,x=(Yv,N,Y1,Y0,U,D,E,q)/\q.toNat=(u*4294967296+d) / (y1*4294967296+y0)) (by
  rintro _ ⟨Q,R,rfl,e,A,f⟩;unfold Qr;dsimp only;rcases Zy6 y z hD h1 F hd hu e A f with⟨c,I,G,T⟩|⟨m,J,k⟩
  .have g:(∃j,(if ag (R+Y1 >= 4294967296)=ae then ab (Sum.inr (Yv,N,Y1,Y0,U,D,E,Q - 1)) else ab (Sum.inl (Yv,N,Y1,Y0,U,D,E,Q - 1,R+Y1)):yO ((yU×zJ)⊕(zJ)))=ab (.inl j)/\
    (∃Q R:yU,j=(Yv,N,Y1,Y0,U,D,E,Q,R)/\Q.toNat*y1+R.toNat=u/\R.toNat < 4294967296/\(u*4294967296+d) / (y1*4294967296+y0)<=Q.toNat)/\4294967296 - j.2.2.2.2.2.2.2.2.toNat < 4294967296 - R.toNat)\/
    (∃x,(if ag (R+Y1 >= 4294967296)=ae then ab (Sum.inr (Yv,N,Y1,Y0,U,D,E,Q - 1)) else ab (Sum.inl (Yv,N,Y1,Y0,U,D,E,Q - 1,R+Y1)):yO ((yU×zJ)⊕(zJ)))=ab (.inr x)/\
    ∃q:yU,x=(Yv,N,Y1,Y0,U,D,E,q)/\q.toNat=(u*4294967296+d) / (y1*4294967296+y0)):=by
    by_cases h:R+Y1 >= 4294967296
    .right;rw[yW (yY h)]
     have l:4294967296<=(R+Y1).toNat:=by
      rw[ge_iff_le,ycp]at h;exact h
     exact⟨_,rfl,_,rfl,JJ (by omega) I (JI G (ZGA hu F G l))⟩
    .left;rw[yX (by rw[yN];exact h)]
     have l:(R+Y1).toNat < 4294967296:=by
      rw[ge_iff_le,ycp]at h;grind
     grind
   rcases c with c|c
   .rw[yW (yY c)];exact g
   .by_cases m:Q >= 4294967296
    .rw[yW (yY m)];exact g
    .rw[yX (by rw[yN];exact m),yW (yY c)];exact g
  .right;rw[yX (by rw[yN];exact m),yX (by rw[yN];exact J)];exact⟨_,rfl,_,rfl,k⟩) (Yv,N,Y1,Y0,U,D,E,Q,R) ⟨Q,R,rfl,e,A,f⟩ (by dsimp only;omega)
 grind
theorem ZMD{y1 y0 u d:Nat}{Yv N Y1 Y0 U D E Q R:yU}(y:Y1.toNat=y1)(z:Y0.toNat=y0)(hD:D.toNat=d)(h1:y1 < 4294967296)(h3:0 < y1)(F:y0 < 4294967296)(hd:d < 4294967296)(hu:u < y1*4294967296+y0)
 (e:Q.toNat*y1+R.toNat=u) (A:R.toNat < 4294967296) (f:(u*4294967296+d) / (y1*4294967296+y0)<=Q.toNat):
 ∃q:yU,Zc (Qs yD) yD (Yv,N,Y1,Y0,D,E,R,U,Q)=ab (Yv,N,D,E,U,q)/\q.toNat=(u*4294967296+d) / (y1*4294967296+y0):=by
 obtain⟨x,M,q,rfl,S⟩:=Wz (step:=Qs yD) (λs=>∃Q R:yU,s=(Yv,N,Y1,Y0,D,E,R,U,Q)/\Q.toNat*y1+R.toNat=u/\R.toNat < 4294967296/\(u*4294967296+d) / (y1*4294967296+y0)<=Q.toNat)
  (λs=>4294967296 - s.2.2.2.2.2.2.1.toNat) (λx=>∃q:yU,x=(Yv,N,D,E,U,q)/\q.toNat=(u*4294967296+d) / (y1*4294967296+y0)) (by
  rintro _ ⟨Q,R,rfl,e,A,f⟩;unfold Qs;dsimp only;rcases Zy6 y z hD h1 F hd hu e A f with⟨c,I,G,T⟩|⟨m,J,k⟩
  .have g:(∃j,(if ag (R+Y1 >= 4294967296)=ae then ab (Sum.inr (Yv,N,D,E,U,Q - 1)) else ab (Sum.inl (Yv,N,Y1,Y0,D,E,R+Y1,U,Q - 1)):yO ((yU×zJ)⊕(yU×yU×yU×yU×yU×yU)))=ab (.inl j)/\
    (∃Q R:yU,j=(Yv,N,Y1,Y0,D,E,R,U,Q)/\Q.toNat*y1+R.toNat=u/\R.toNat < 4294967296/\(u*4294967296+d) / (y1*4294967296+y0)<=Q.toNat)/\4294967296 - j.2.2.2.2.2.2.1.toNat < 4294967296 - R.toNat)\/
    (∃x,(if ag (R+Y1 >= 4294967296)=ae then ab (Sum.inr (Yv,N,D,E,U,Q - 1)) else ab (Sum.inl (Yv,N,Y1,Y0,D,E,R+Y1,U,Q - 1)):yO ((yU×zJ)⊕(yU×yU×yU×yU×yU×yU)))=ab (.inr x)/\
    ∃q:yU,x=(Yv,N,D,E,U,q)/\q.toNat=(u*4294967296+d) / (y1*4294967296+y0)):=by
    by_cases h:R+Y1 >= 4294967296
    .right;rw[yW (yY h)]
     have l:4294967296<=(R+Y1).toNat:=by
      rw[ge_iff_le,ycp]at h;exact h
     exact⟨_,rfl,_,rfl,JJ (by omega) I (JI G (ZGA hu F G l))⟩
    .left;rw[yX (by rw[yN];exact h)]
     have l:(R+Y1).toNat < 4294967296:=by
      rw[ge_iff_le,ycp]at h;grind
     grind
   rcases c with c|c
   .rw[yW (yY c)];exact g
   .by_cases m:Q >= 4294967296
    .rw[yW (yY m)];exact g
    .rw[yX (by rw[yN];exact m),yW (yY c)];exact g
  .right;rw[yX (by rw[yN];exact m),yX (by rw[yN];exact J)];exact⟨_,rfl,_,rfl,k⟩) (Yv,N,Y1,Y0,D,E,R,U,Q) ⟨Q,R,rfl,e,A,f⟩ (by dsimp only;omega)
 grind
theorem ZCw{A B:yU}{a b:Nat}(f:A.toNat=a % 18446744073709551616)(g:B.toNat=b % 18446744073709551616)(h:b<=a)(hd:a - b < 18446744073709551616):(A - B).toNat=a - b:=by
 rw[UInt64.toNat_sub,f,g];omega
theorem Zpx(u y1:Nat):u / y1*y1+u % y1=u:=by
 have:=Nat.div_add_mod u y1;grind
theorem ZGB{u y1 y0 d:Nat}(h1:0 < y1)(hd:d < 4294967296):(u*4294967296+d) / (y1*4294967296+y0)<=u / y1:=by
 have h:(u*4294967296+d) / (y1*4294967296+y0)<=(u*4294967296+d) / (y1*4294967296):=Nat.div_le_div_left (by omega) (by omega)
 have e:(u*4294967296+d) / (y1*4294967296)=u / y1:=by
  rw[ybo y1, <-Nat.div_div_eq_div_mul];congr 1;omega
 omega
theorem ZGC{a b y:yU}{s:Nat}{Y:yU}(T:y≠0)(hs:Yz yD y=ab (s:Int))(s0:0 < s)(s1:s < 64)(hY:V5 y s=Y)(m:Y.toNat=y.toNat*2 ^ s)(hY63:9223372036854775808<=Y.toNat)(ha:a.toNat < y.toNat):
 ∃q r,wX yD a b y=ab (q,r)/\r.toNat=(a.toNat*18446744073709551616+b.toNat) % y.toNat:=by
 have W:¬(y<=a):=by
  rw[ycp];omega
 unfold wX;rw[yX (by rw[yT];exact T),yX (by rw[yN];exact W)];by_cases h0:a=0
 .subst h0;rw[yW (by decide),yW (by rw[yE];exact T),yW (by rw[yE];exact T)];refine⟨_,_,rfl, ?_⟩;simp_all
 rw[yX (by rw[yT];exact h0),hs,ya];dsimp only
 have w:dy (s:Int)=yan s:=by
  unfold dy;congr 1;omega
 have X:(dy (s:Int)).toNat=s:=by rw[w,ybi,yas (by omega)]
 have e1:min ((dy (s:Int)).toNat:Int).toNat 64=s:=by rw[X];omega
 have e2:(64 - dy (s:Int)).toNat=64 - s:=by
  rw[UInt64.toNat_sub_of_le _ _ (by rw[ycp,X];show s<=64;omega),X];rfl
 have e3:min ((64 - dy (s:Int)).toNat:Int).toNat 64=64 - s:=by rw[e2];omega
 rw[e1,e3,hY];have hYl:=ybv Y;have hb:=ybv b
 have J:2 ^ (64 - s)*2 ^ s=18446744073709551616:=by
  rw[<-Nat.pow_add];grind
 have Z:0 < 2 ^ s:=Nat.pow_pos (by decide);obtain⟨y1,hy1⟩:∃y1,y1=Y.toNat / 4294967296:=⟨_,rfl⟩;obtain⟨y0,hy0⟩:∃y0,y0=Y.toNat % 4294967296:=⟨_,rfl⟩;have j:Y.toNat=y1*4294967296+y0:=by omega
 have f:(ZB Y 32).toNat=y1:=by rw[gU,hy1]
 have z:(Y&&&4294967295).toNat=y0:=by rw[jZ,hy0]
 have M:y1 < 4294967296:=by omega
 have g1:2147483648<=y1:=by omega
 have l0:y0 < 4294967296:=by omega
 have hash:a.toNat*2 ^ s < Y.toNat:=by rw[m];exact Nat.mul_lt_mul_of_pos_right ha Z
 have bd:b.toNat / 2 ^ (64 - s) < 2 ^ s:=by
  rw[Nat.div_lt_iff_lt_mul (Nat.pow_pos (by decide)),ybo,J];exact hb
 have G:((V5 a s)|||(ZB b (64 - s))).toNat=a.toNat*2 ^ s+b.toNat / 2 ^ (64 - s):=by
  rw[UInt64.toNat_or,gU];unfold V5;rw[ybi,yas (by omega),ybo, <-Nat.two_pow_add_eq_or_of_lt bd]
 have t10:(V5 b s).toNat=b.toNat*2 ^ s % 18446744073709551616:=by
  unfold V5;rw[ybi]
 obtain⟨u,hu⟩:∃u,u=a.toNat*2 ^ s+b.toNat / 2 ^ (64 - s):=⟨_,rfl⟩;obtain⟨v,hv⟩:∃v,v=b.toNat*2 ^ s % 18446744073709551616:=⟨_,rfl⟩;rw[<-hu]at G;rw[<-hv]at t10
 have hbs:b.toNat*2 ^ s=b.toNat / 2 ^ (64 - s)*18446744073709551616+v:=by
  have h1:=Nat.div_add_mod (b.toNat*2 ^ s) 18446744073709551616
  have h2:b.toNat*2 ^ s / 18446744073709551616=b.toNat / 2 ^ (64 - s):=by
   rw[<-J];exact Nat.mul_div_mul_right _ _ Z
  rw[h2, <-hv]at h1;omega
 have hN:(a.toNat*18446744073709551616+b.toNat)*2 ^ s=u*18446744073709551616+v:=by
  rw[yba,hbs,hu,Nat.mul_right_comm];omega
 have uY:u < y1*4294967296+y0:=by
  rw[<-j,hu,m];have h1:(a.toNat+1)*2 ^ s<=y.toNat*2 ^ s:=ycb _ ha;rw[yba,Nat.one_mul]at h1;omega
 have hvl:v < 18446744073709551616:=by rw[hv];exact Nat.mod_lt _ (by decide)
 obtain⟨d1,hd1⟩:∃d1,d1=v / 4294967296:=⟨_,rfl⟩;obtain⟨d0,hd0⟩:∃d0,d0=v % 4294967296:=⟨_,rfl⟩;have A:(ZB (V5 b s) 32).toNat=d1:=by rw[gU,t10,hd1]
 have F:((V5 b s)&&&4294967295).toNat=d0:=by rw[jZ,t10,hd0]
 generalize ((V5 a s)|||(ZB b (64 - s)):yU)=U at G ⊢;generalize (ZB (V5 b s) 32:yU)=D1 at A ⊢;generalize ((V5 b s)&&&4294967295:yU)=D0 at F ⊢;generalize (ZB Y 32:yU)=Y1 at f ⊢;generalize (Y&&&4294967295:yU)=Y0 at z ⊢
 have l:(Y1 !=0)=ae:=by
  rw[yE];intro h;rw[h]at f;have:(0:yU).toNat=0:=rfl;omega
 rw[yW l]
 have f1:(U / Y1).toNat*y1+(U - U / Y1*Y1).toNat=u:=by
  rw[wY,UInt64.toNat_div,G,f];exact Zpx u y1
 have f2:(U - U / Y1*Y1).toNat < 4294967296:=by
  rw[wY,G,f];exact Nat.lt_trans (Nat.mod_lt _ (by omega)) M
 have f3:(u*4294967296+d1) / (y1*4294967296+y0)<=(U / Y1).toNat:=by
  rw[UInt64.toNat_div,G,f];exact ZGB (by omega) (by omega)
 obtain⟨Q,k1,R⟩:=ZMC (Yv:=Y) (N:=dy (s:Int)) (U:=U) (E:=D0) f z A M (by omega) l0 (by omega) uY f1 f2 f3;rw[k1,ya];dsimp only;rw[yW l];have m1:=Nat.div_add_mod (u*4294967296+d1) Y.toNat
 have m2:(u*4294967296+d1) % Y.toNat < Y.toNat:=Nat.mod_lt _ (by omega);rw[<-j]at R
 have I:(((U*4294967296)+D1) - (Q*Y)).toNat=(u*4294967296+d1) % Y.toNat:=by
  rw[ZCw (a:=u*4294967296+d1) (b:=Q.toNat*Y.toNat) ?_ ?_ ?_ ?_]
  .rw[R,ybo ((u*4294967296+d1) / Y.toNat)];omega
  .rw[UInt64.toNat_add,UInt64.toNat_mul,G,A,show(4294967296:yU).toNat=4294967296 from rfl]
   omega
  .rw[UInt64.toNat_mul]
  .rw[R,ybo ((u*4294967296+d1) / Y.toNat)];omega
  .rw[R,ybo ((u*4294967296+d1) / Y.toNat)];omega
 obtain⟨g,hu2⟩:∃g,g=(u*4294967296+d1) % Y.toNat:=⟨_,rfl⟩;rw[<-hu2]at I m2 m1;generalize (((U*4294967296)+D1) - (Q*Y):yU)=V at I ⊢
 have f4:(V / Y1).toNat*y1+(V - V / Y1*Y1).toNat=g:=by
  rw[wY,UInt64.toNat_div,I,f];exact Zpx g y1
 have f5:(V - V / Y1*Y1).toNat < 4294967296:=by
  rw[wY,I,f];exact Nat.lt_trans (Nat.mod_lt _ (by omega)) M
 have f6:(g*4294967296+d0) / (y1*4294967296+y0)<=(V / Y1).toNat:=by
  rw[UInt64.toNat_div,I,f];exact ZGB (by omega) (by omega)
 obtain⟨q0,k3,S⟩:=ZMD (Yv:=Y) (N:=dy (s:Int)) (U:=V) (E:=Q) f z F M (by omega) l0 (by omega) (by rw[<-j];exact m2) f4 f5 f6;rw[k3,ya];refine⟨_,_,rfl, ?_⟩;dsimp only;rw[e1,gU];rw[<-j]at S;have m3:=Nat.div_add_mod (g*4294967296+d0) Y.toNat
 have m4:(g*4294967296+d0) % Y.toNat < Y.toNat:=Nat.mod_lt _ (by omega)
 have tr:(((V*4294967296)+D0) - (q0*Y)).toNat=(g*4294967296+d0) % Y.toNat:=by
  rw[ZCw (a:=g*4294967296+d0) (b:=q0.toNat*Y.toNat) ?_ ?_ ?_ ?_]
  .rw[S,ybo ((g*4294967296+d0) / Y.toNat)];omega
  .rw[UInt64.toNat_add,UInt64.toNat_mul,I,F,show(4294967296:yU).toNat=4294967296 from rfl]
   omega
  .rw[UInt64.toNat_mul]
  .rw[S,ybo ((g*4294967296+d0) / Y.toNat)];omega
  .rw[S,ybo ((g*4294967296+d0) / Y.toNat)];omega
 rw[tr]
 have hNm:((a.toNat*18446744073709551616+b.toNat)*2 ^ s) % Y.toNat=(g*4294967296+d0) % Y.toNat:=by
  have e:(a.toNat*18446744073709551616+b.toNat)*2 ^ s=g*4294967296+d0+Y.toNat*((u*4294967296+d1) / Y.toNat*4294967296):=by
   rw[hN, <-Nat.mul_assoc];omega
  rw[e,Nat.add_mul_mod_self_left]
 rw[<-hNm,m,Nat.mul_mod_mul_right,Nat.mul_div_cancel _ Z]
theorem JK{y Y:yU}{s:Nat}(a b:yU)(h:y≠0)(hs:Yz yD y=ab (s:Int))(s0:0 < s)(s1:s < 64)(l:V5 y s=Y)(g:Y.toNat=y.toNat*2 ^ s)(f:9223372036854775808<=Y.toNat):
 td yD a b y=ab (yan ((a.toNat*18446744073709551616+b.toNat) % y.toNat)):=by
 have m:0 < y.toNat:=by
  all_goals grind
 obtain⟨q,r,z,j⟩:=ZGC (a:=a % y) (b:=b) h hs s0 s1 l g f (by rw[UInt64.toNat_mod];exact Nat.mod_lt _ m);unfold td;rw[yW (by rw[yE];exact h),z,ya];dsimp only;rw[UInt64.toNat_mod,Nat.add_mod,Nat.mod_mul_mod, <-Nat.add_mod]at j;rw[<-j,UInt64.ofNat_toNat]
theorem ZLt:Yz yD 4611686018427377339=ab ((2:Nat):Int):=by kernel_rfl
theorem ZLu:Yz yD 2305843009213688669=ab ((3:Nat):Int):=by kernel_rfl
theorem ZLv:Yz yD 2305843009213688668=ab ((3:Nat):Int):=by kernel_rfl
noncomputable def Vk(F:Nat)(a0:yU)(a1:yU)(a2:yU):yO yU:=
 if(a2==4611686018427377339 || (a2==2305843009213688669 || a2==2305843009213688668))=ae then ab (yan ((a0.toNat*18446744073709551616+a1.toNat) % a2.toNat)) else td F a0 a1 a2
theorem ZGD(a b y:yU):td yD a b y=Vk yD a b y:=by
 unfold Vk;split
 .rename_i h;simp only[yck,yT]at h;rcases h with rfl|rfl|rfl
  .exact JK (Y:=18446744073709509356) (s:=2) a b (by decide) ZLt (by decide) (by decide) (by kernel_rfl) (by decide) (by decide)
  .exact JK (Y:=18446744073709509352) (s:=3) a b (by decide) ZLu (by decide) (by decide) (by kernel_rfl) (by decide) (by decide)
  .exact JK (Y:=18446744073709509344) (s:=3) a b (by decide) ZLv (by decide) (by decide) (by kernel_rfl) (by decide) (by decide)
 .rfl
noncomputable def ZtP(F:Nat):Fs yb:={ JH F with M:=λx=>Vk F x.1 x.2.1 x.2.2}
noncomputable def wZ:Fs yb:=ZtP yD
theorem JL:wZ.Ok:=wW (s:=JH yD) Zr5 λx=>(ZGD x.1 x.2.1 x.2.2).symm
end Go.Proofs.YtcbhhaigilifgaaGreat
end
section
set_option maxRecDepth 4000
namespace Go.Proofs.YtcbhhaigilifgaaGreat
open Go Go.Ev
noncomputable section
def xa(F:Nat)(a0:yU)(a1:yU):yO ((yU×yU)):=
 let a:yU:=ZB ((a0&&&4294967295)*(a1&&&4294967295)) 32;let b:yU:=(((ZB a0 32)*(a1&&&4294967295))+a)&&&4294967295;let c:yU:=ZB (((ZB a0 32)*(a1&&&4294967295))+a) 32;let d:yU:=ZB (b+((a0&&&4294967295)*(ZB a1 32))) 32
 ab ((((ZB a0 32)*(ZB a1 32))+c)+d,a0*a1)
def JM(F:Nat):Fs yb:=⟨222,[.v .u64,.v .u64],[],[.u64,.u64],[⟨.ret,[(0,.bp [.v .u64,.v .u64])],[],[.u64,.u64]⟩],λx=>xa F x.1 x.2⟩
def ZtQ:Fs yb:=JM yD
theorem Zr6:ZtQ.Ok:=be { still:=[4,5]} [] [] trivial
end
end Go.Proofs.YtcbhhaigilifgaaGreat
end
section
set_option maxRecDepth 4000
namespace Go.Proofs.YtcbhhaigilifgaaGreat
open Go Go.Ev
theorem ZGE(x y:yU):∃h l,xa yD x y=ab (h,l)/\h.toNat*18446744073709551616+l.toNat=x.toNat*y.toNat:=by
 unfold xa;refine⟨_,_,rfl, ?_⟩;have hx:=ybv x;have hy:=ybv y;have F:x.toNat % 4294967296 < 4294967296:=Nat.mod_lt _ (by decide);have G:y.toNat % 4294967296 < 4294967296:=Nat.mod_lt _ (by decide);have I:x.toNat / 4294967296 < 4294967296:=by omega
 have J:y.toNat / 4294967296 < 4294967296:=by omega
 have Z:x.toNat=x.toNat / 4294967296*4294967296+x.toNat % 4294967296:=by omega
 have ye:y.toNat=y.toNat / 4294967296*4294967296+y.toNat % 4294967296:=by omega
 generalize j:x.toNat / 4294967296=f at*;generalize m:x.toNat % 4294967296=g at*;generalize z:y.toNat / 4294967296=y1 at*;generalize E:y.toNat % 4294967296=y0 at*;have p00:=te F G;have p10:=te I G;have p01:=te F J;have p11:=te I J
 have prod:x.toNat*y.toNat=f*y1*18446744073709551616+(f*y0+g*y1)*4294967296+g*y0:=by
  rw[Z,ye,yba,Nat.mul_add,Nat.mul_add]
  have e1:f*4294967296*(y1*4294967296)=f*y1*18446744073709551616:=by
   rw[Nat.mul_assoc,Nat.mul_left_comm 4294967296 y1, <-Nat.mul_assoc]
  have e2:f*4294967296*y0=f*y0*4294967296:=by rw[Nat.mul_right_comm]
  have e3:g*(y1*4294967296)=g*y1*4294967296:=by rw[Nat.mul_assoc]
  rw[e1,e2,e3];omega
 have S:((x&&&4294967295)*(y&&&4294967295)).toNat=g*y0:=by
  rw[pT (by rw[jZ,jZ,m,E];omega),jZ,jZ,m,E]
 have M:((ZB x 32)*(y&&&4294967295)).toNat=f*y0:=by
  rw[pT (by rw[gU,jZ,show(2:Nat) ^ 32=4294967296 from rfl,j,E];omega),gU,jZ,show(2:Nat) ^ 32=4294967296 from rfl,j,E]
 have Q:((x&&&4294967295)*(ZB y 32)).toNat=g*y1:=by
  rw[pT (by rw[gU,jZ,show(2:Nat) ^ 32=4294967296 from rfl,m,z];omega),gU,jZ,show(2:Nat) ^ 32=4294967296 from rfl,m,z]
 have R:((ZB x 32)*(ZB y 32)).toNat=f*y1:=by
  rw[pT (by rw[gU,gU,show(2:Nat) ^ 32=4294967296 from rfl,j,z];omega),gU,gU,show(2:Nat) ^ 32=4294967296 from rfl,j,z]
 generalize hA:((x&&&4294967295)*(y&&&4294967295):yU)=A at*;generalize hB:((ZB x 32)*(y&&&4294967295):yU)=B at*;generalize hC:((x&&&4294967295)*(ZB y 32):yU)=C at*;generalize hD:((ZB x 32)*(ZB y 32):yU)=D at*;have s1:(ZB A 32).toNat=g*y0 / 4294967296:=by rw[gU,S]
 have T:(B+ZB A 32).toNat=f*y0+g*y0 / 4294967296:=by rw[pS (by rw[M,s1];omega),M,s1]
 have U:((B+ZB A 32)&&&4294967295).toNat=(f*y0+g*y0 / 4294967296) % 4294967296:=by rw[jZ,T]
 have W:(ZB (B+ZB A 32) 32).toNat=(f*y0+g*y0 / 4294967296) / 4294967296:=by rw[gU,T]
 have s5:(((B+ZB A 32)&&&4294967295)+C).toNat=(f*y0+g*y0 / 4294967296) % 4294967296+g*y1:=by rw[pS (by rw[U,Q];omega),U,Q]
 have X:(ZB (((B+ZB A 32)&&&4294967295)+C) 32).toNat=((f*y0+g*y0 / 4294967296) % 4294967296+g*y1) / 4294967296:=by rw[gU,s5]
 have Y:(D+ZB (B+ZB A 32) 32).toNat=f*y1+(f*y0+g*y0 / 4294967296) / 4294967296:=by rw[pS (by rw[R,W];omega),R,W]
 have s8:(x*y).toNat=x.toNat*y.toNat % 18446744073709551616:=UInt64.toNat_mul ..
 have s9:((D+ZB (B+ZB A 32) 32)+ZB (((B+ZB A 32)&&&4294967295)+C) 32).toNat=f*y1+(f*y0+g*y0 / 4294967296) / 4294967296+((f*y0+g*y0 / 4294967296) % 4294967296+g*y1) / 4294967296:=by
  rw[pS (by rw[Y,X];omega),Y,X]
 rw[s9,s8,prod];generalize g*y0=a at*;generalize f*y0=b at*;generalize g*y1=c at*;generalize f*y1=d at*;omega
theorem ZGF(x y:yU):xa yD x y=ab (yan (x.toNat*y.toNat / 18446744073709551616),yan (x.toNat*y.toNat % 18446744073709551616)):=by
 obtain⟨h,l,e,k⟩:=ZGE x y;have f:=ybv l;rw[e, <-k,show(h.toNat*18446744073709551616+l.toNat) / 18446744073709551616=h.toNat by omega,show(h.toNat*18446744073709551616+l.toNat) % 18446744073709551616=l.toNat by omega,UInt64.ofNat_toNat,UInt64.ofNat_toNat]
noncomputable def xb(F:Nat)(a0:yU)(a1:yU):yO (yU×yU):=ab (yan (a0.toNat*a1.toNat / 18446744073709551616),yan (a0.toNat*a1.toNat % 18446744073709551616))
noncomputable def ZtR(F:Nat):Fs yb:={ JM F with M:=λx=>xb F x.1 x.2}
noncomputable def JN:Fs yb:=ZtR yD
theorem Zk3:JN.Ok:=wW (s:=JM yD) Zr6 λx=>(ZGF x.1 x.2).symm
end Go.Proofs.YtcbhhaigilifgaaGreat
end
section
set_option maxRecDepth 4000
namespace Go.Proofs.YtcbhhaigilifgaaGreat
open Go Go.Ev
noncomputable section
def YC(F:Nat)(a0:yU)(a1:yU):yO (yU):=
 (xb F a0 a1).bind λa=>
 (Vk F a.1 a.2 4611686018427377339).bind λb=>
 ab b
def JO:Fs yb:=⟨200,[.v .u64,.v .u64],[],[.u64,.u64],(zN .u64),λx=>YC yD x.1 x.2⟩
theorem Zji:JO.Ok:=be { still:=[4,8,9,13,14]} [] [JN,wZ] ⟨Zk3,JL,aw⟩
def W8(F:Nat)(s:(yU×yU×yU)):yO ((yU×yU×yU)⊕yU):=
 if(ag (s.2.1 > 0))=ae then
  if((s.2.1&&&1)==1)=ae then
   (YC F s.2.2 s.1).bind λa=>
   (YC F s.1 s.1).bind λb=>
   ab (.inl (b,ZB s.2.1 1,a))
  else
  (YC F s.1 s.1).bind λc=>
  ab (.inl (c,ZB s.2.1 1,s.2.2))
 else
 ab (.inr s.2.2)
def Zij:Lp:=⟨[(0,.v .u64),(1,.v .u64),(5,.v .u64)],[],[.u64,.u64,.u64],[⟨.exit 0,[(5,.v .u64)],[],[.u64]⟩],Zc (W8 yD) yD⟩
theorem ZlN:Zij.bR yb 154 0:=ZG { still:=[4,13,14,16,17]} [] [JO] ⟨Zji,aw⟩
def JP(F:Nat)(a0:yU)(a1:yU):yO (yU):=
 (Zc (W8 F) F (a0,a1,1)).bind λa=>
 ab a
def JQ(F:Nat):Fs yb:=⟨154,[.v .u64,.v .u64],[],[.u64,.u64],(zN .u64),λx=>JP F x.1 x.2⟩
def Zr7:Fs yb:=JQ yD
theorem Zqc:Zr7.Ok:=be { still:=[4,13,14,16,17]} [(0,Zij)] [] trivial ⟨ZlN,aw⟩
end
end Go.Proofs.YtcbhhaigilifgaaGreat
end
section
namespace Go.Ev
theorem Zy7{h a m:Nat}(ha:h ^ a % m=1 % m)(k:Nat):h ^ (a*k) % m=1 % m:=by
 rw[Nat.pow_mul,Nat.pow_mod,ha, <-Nat.pow_mod,Nat.one_pow]
def gV(m:Nat):Nat->Nat->Nat->Nat->Nat
 |0,_,_,o=>o
 |f+1,a,n,o=>if n=0 then o else gV m f (a*a % m) (n / 2) (if n % 2=1 then o*a % m else o)
theorem ZCx{m:Nat}:∀(k a n o:Nat),n < 2 ^ k->gV m k a n o % m=o*a ^ n % m
 |0,a,n,o,h=>by
  have:n=0:=by rw[Nat.pow_zero]at h;omega
  subst this
  rw[gV,Nat.pow_zero,Nat.mul_one]
 |k+1,a,n,o,h=>by
  rw[gV];by_cases f:n=0
  .rw[yW f,f,Nat.pow_zero,Nat.mul_one]
  rw[yX f,ZCx k _ _ _ (by rw[Nat.pow_succ]at h;omega)]
  have e:a ^ n=(a*a) ^ (n / 2)*a ^ (n % 2):=by
   rw[<-Nat.pow_two, <-Nat.pow_mul, <-Nat.pow_add];congr 1;omega
  have g:(a*a % m) ^ (n / 2) % m=(a*a) ^ (n / 2) % m:=(Nat.pow_mod ..).symm;rw[e];split
  .rename_i j;rw[j,Nat.pow_one,Nat.mul_mod,g, <-Nat.mul_mod,Nat.mul_mod,Nat.mod_mod, <-Nat.mul_mod];congr 1;rw[Nat.mul_assoc,ybo a]
  .rename_i j;have:n % 2=0:=by omega
   rw[this,Nat.pow_zero,Nat.mul_one,Nat.mul_mod,g, <-Nat.mul_mod]
def kN:Nat:=2305843009213688669
def gW:Nat:=4611686018427377339
def eE(a:Nat):Prop:=0 < a/\a < gW/\a ^ kN % gW=1
theorem ZLw:eE 1:=⟨by decide,by decide,by rw[Nat.one_pow];decide⟩
theorem ZI9{a:Nat}(ha:eE a)(n:Nat):a ^ (n % kN) % gW=a ^ n % gW:=by
 have e:n=kN*(n / kN)+n % kN:=(Nat.div_add_mod n _).symm;have h:=Zy7 (m:=gW) (k:=n / kN) ha.2.2
 conv=>rhs;rw[e]
 rw[Nat.pow_add,Nat.mul_mod,h, <-Nat.mul_mod,Nat.one_mul]
end Go.Ev
end
