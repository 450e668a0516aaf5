/- Parts of the proof, in one file. -/
import Derived.Test.YtcbhhaigilifgaaGreatKd
open Option renaming some → ab, none → ad
open Bool renaming true → ae, false → af
open Decidable renaming decide → ag
open Bool renaming and_eq_true → yi, false_eq_true → yce, or_eq_true → yck
open Go renaming TypeId → yc, Program → yg, Value → yh, Oper → yj, Operand → yp, World → yr, FuncId → yw
open Go.Proofs.Tryz renaming prog → yb
open List renaming length_append → ym, range → yo, getElem?_eq_some_iff → yu, replicate → yx, nil_append → yz, getElem?_eq_getElem → yab, append_assoc → yac, length_map → yad, cons_append → yaf, length_cons → yag, map_cons → yah, getElem?_cons_succ → yak, all_eq_true → yal, getElem?_cons_zero → yam, getElem?_map → yao, getElem?_append_right → yaq, map_append → yau, mem_cons_self → yav, mem_cons_of_mem → yaw, map_map → ybd, getElem?_append_left → ybe, append_nil → ybf, mem_of_getElem? → ybj, map_set → ybn, ext_getElem? → ybp, map_congr_left → yci, getD_eq_getElem?_getD → ycx
open Nat renaming le_refl → yl, zero_add → yar, mod_eq_of_lt → yas, add_mul → ybb, mul_comm → ybo, mul_le_mul_right → ycb
open Option renaming bind_some → ya, bind_eq_some_iff → yf, map_eq_some_iff → yv, map_some → yae
open Option.some renaming injEq → yn
open Prod.mk renaming injEq → yq
open UInt32 renaming ofNat → ych
open UInt64 renaming ofNat → yan, toNat_ofNat' → ybh, toNat_lt → ybv, le_iff_toNat_le → ycp, lt_iff_toNat_lt → ycs
set_option linter.unusedVariables false
set_option linter.unusedSimpArgs false
section
namespace Go.Ev
mutual
def TD.rn(f:Nat->yO Nat):TD->yO TD
 |.p x=>ab (.p x)
 |.elem x=>ab (.elem x)
 |.ak id h=>(f id).map λi=>.ak i h
 |.own id m t c=>(f id).map λi=>.own i m t c
 |.view id h s lo n=>(f id).map λi=>.view i h s lo n
 |.agg j=>(TD.bB f j).map .agg
 |.arr n s j=>(TD.bB f j).map (.arr n s)
 |.fn g l=>(TD.bB f l).map (.fn g)
 |.iface t x=>(TD.rn f x).map (.iface t)
 |.bm j=>(TD.bB f j).map .bm
 |.mp id=>(f id).map .mp
 |.rv id v s lo n=>(f id).map λi=>.rv i v s lo n
 |.aZ id v h=>(f id).map λi=>.aZ i v h
 |.rw id=>(f id).map .rw
 |.rp id h=>(f id).map λi=>.rp i h
 |.an=>ab .an
def TD.bB(f:Nat->yO Nat):yL TD->yO (yL TD)
 |[]=>ab []
 |x::r=>match TD.rn f x,TD.bB f r with
  |some y,ab g=>ab (y::g)
  |_,_=>ad
end
def ah.rn(f:Nat->yO Nat):ah->yO ah
 |.var d st=>(d.rn f).map λg=>.var g st
 |.row v s st e d=>(d.rn f).map λg=>.row v s st e g
 |.bL t l v st e j d h=>(d.rn f).map λg=>.bL t l v st e j g h
 |e=>ab e
def ah.bB(f:Nat->yO Nat):yL ah->yO (yL ah)
 |[]=>ab []
 |x::r=>match ah.rn f x,ah.bB f r with
  |some y,ab g=>ab (y::g)
  |_,_=>ad
def Rc(f:Nat->yO Nat)(L M:Lk):Prop:=∀id j t,f id=ab j->Yb L id t ad=Yb M j t ad
theorem ZHP{f:Nat->yO Nat}{L M:Lk}(h:Rc f L M){id j:Nat}(e:f id=ab j)(t:Ty)(c:yO (yL t.aU)):Yb L id t c=Yb M j t c:=by
 cases c with
 |none=>exact h id j t e
 |some _=>rfl
mutual
theorem jL{f:Nat->yO Nat}{L M:Lk}(h:Rc f L M):∀(d d':TD),d.rn f=ab d'->Dv.rn f (d.er L)=ab (d'.er M)
 |.p x,d',e=>by cases e;rfl
 |.elem x,d',e=>by cases e;rfl
 |.ak id m,d',e=>by
  obtain⟨i,j,rfl⟩:=Zd e
  simp only[TD.er,Dv.rn,j,yae]
 |.own id y t c,d',e=>by
  obtain⟨i,j,rfl⟩:=Zd e
  simp only[TD.er,Dv.rn,j,yae,ZHP h j]
 |.view id m s lo n,d',e=>by
  obtain⟨i,j,rfl⟩:=Zd e
  simp only[TD.er,Dv.rn,j,yae]
 |.agg l,d',e=>by
  obtain⟨i,j,rfl⟩:=Zd e
  simp only[TD.er,Dv.rn,dw h l i j,yae]
 |.arr n s l,d',e=>by
  obtain⟨i,j,rfl⟩:=Zd e
  simp only[TD.er,Dv.rn,dw h l i j,yae]
 |.fn g l,d',e=>by
  obtain⟨i,j,rfl⟩:=Zd e
  simp only[TD.er,Dv.rn,dw h l i j,yae]
 |.iface t x,d',e=>by
  obtain⟨i,j,rfl⟩:=Zd e
  simp only[TD.er,Dv.rn,jL h x i j,yae]
 |.bm l,d',e=>by
  obtain⟨i,j,rfl⟩:=Zd e
  simp only[TD.er,Dv.rn,dw h l i j,yae]
 |.mp id,d',e=>by
  obtain⟨i,j,rfl⟩:=Zd e
  simp only[TD.er,Dv.rn,j,yae]
 |.rv id v s lo n,d',e=>by
  obtain⟨i,j,rfl⟩:=Zd e
  simp only[TD.er,Dv.rn,j,yae]
 |.aZ id v m,d',e=>by
  obtain⟨i,j,rfl⟩:=Zd e
  simp only[TD.er,Dv.rn,j,yae]
 |.rw id,d',e=>by
  obtain⟨i,j,rfl⟩:=Zd e
  simp only[TD.er,Dv.rn,j,yae,eO,h _ _ _ j]
 |.rp id m,d',e=>by
  obtain⟨i,j,rfl⟩:=Zd e
  simp only[TD.er,Dv.rn,j,yae,eO,h _ _ _ j]
 |.an,d',e=>by cases e;rfl
theorem dw{f:Nat->yO Nat}{L M:Lk}(h:Rc f L M):∀(g es:yL TD),TD.bB f g=ab es->Dv.bB f (TD.aG L g)=ab (TD.aG M es)
 |[],es,e=>by cases e;rfl
 |x::r,es,e=>by
  simp only[TD.bB]at e;split at e
  .rename_i y j l m;cases e;simp only[TD.aG,Dv.bB,jL h x y l,dw h r j m]
  .cases e
end
theorem GX{α:Type}(f:Nat->yO Nat)(g:α->Pl):∀(l:yL α)(m:yL Dv),Dv.bB f ((l.map λx=>.p (g x))++m)=(Dv.bB f m).map λq=>(l.map λx=>.p (g x))++q
 |[],m=>by cases h:Dv.bB f m <;> simp[h]
 |x::l,m=>by
  rw[yah,yaf,Dv.bB,Dv.rn,GX f g l m];cases Dv.bB f m <;> rfl
theorem ZHQ{α β:Type}{f:Nat->yO Nat}{g:α->Pl}{j:β->Pl}{l:yL α}{d d':Dv}{m:yL β}(h:Dv.rn f d=ab d'):
 Dv.bB f ((l.map λx=>.p (g x))++d::m.map λx=>.p (j x))=ab ((l.map λx=>.p (g x))++d'::m.map λx=>.p (j x)):=by
 have e:=GX f j m [];rw[ybf]at e;rw[GX,Dv.bB,h,e];simp[Dv.bB]
theorem ZE5{f:Nat->yO Nat}{L M:Lk}(h:Rc f L M){e j:ah}(k:e.rn f=ab j):aq.rn f (e.er L)=ab (j.er M):=by
 cases e with
 |var d st=>
  obtain⟨i,g,rfl⟩:=Zd k
  simp only[ah.er,aq.rn,jL h d i g,yae]
 |row v s st e d=>
  obtain⟨i,g,rfl⟩:=Zd k
  simp only[ah.er,aq.rn,jL h d i g,yae]
 |bL t y v st e m d l=>
  obtain⟨i,g,rfl⟩:=Zd k
  simp only[ah.er,aq.rn,Dv.rn,ZHQ (jL h d i g),yae]
 |_=>cases k;rfl
theorem ZBl{f:Nat->yO Nat}{L M:Lk}(h:Rc f L M):∀(g es:yL ah),ah.bB f g=ab es->aq.bB f (g.map (ah.er L))=ab (es.map (ah.er M))
 |[],es,e=>by cases e;rfl
 |x::r,es,e=>by
  simp only[ah.bB]at e;split at e
  .rename_i y j l m;cases e;simp only[yah,aq.bB,ZE5 h l,ZBl h r j m]
  .cases e
theorem ZE6{f:Nat->yO Nat}{e g:ah}(k:e.rn f=ab g):eP (ab g)=eP (ab e):=by
 cases e with
 |var d st=>obtain⟨i,h,rfl⟩:=Zd k;rfl
 |row v s st e d=>obtain⟨i,h,rfl⟩:=Zd k;rfl
 |bL t m v st e l d j=>obtain⟨i,h,rfl⟩:=Zd k;rfl
 |_=>cases k;rfl
theorem ZxR{f:Nat->yO Nat}:∀{g es:yL ah},ah.bB f g=ab es->es.length=g.length/\∀(j:Nat),eP (es[j]?)=eP (g[j]?)
 |[],es,e=>by cases e;exact⟨rfl,λ_=>rfl⟩
 |x::r,es,e=>by
  simp only[ah.bB]at e;split at e
  .rename_i y A h l;cases e;obtain⟨m,z⟩:=ZxR l;refine⟨by simp[m],λj=> ?_⟩
   cases j with
   |zero=>exact ZE6 h
   |succ j=>exact z j
  .cases e
def WS(H:yL ah)(all:yL Nat):yL Nat->yO (yL ah)
 |[]=>ab []
 |id::r=>match (H[id]?).bind (ah.rn (bc all)),WS H all r with
  |some e,ab f=>ab (e::f)
  |_,_=>ad
theorem GY{H:yL ah}{all:yL Nat}:∀{ids:yL Nat}{Hin:yL ah},WS H all ids=ab Hin->Hin.length=ids.length/\∀(j id:Nat),ids[j]? =ab id->id < H.length/\eP (Hin[j]?)=eP (H[id]?)
 |[],Hin,h=>by cases h;exact⟨rfl,λj id e=>by simp at e⟩
 |i::r,Hin,h=>by
  simp only[WS]at h;split at h
  .rename_i e E l m;cases h;obtain⟨y,z⟩:=GY m;obtain⟨F,f,A⟩:=yf.1 l;refine⟨by simp[y],λj id g=> ?_⟩
   cases j with
   |zero=>
    cases g
    exact⟨(yu.1 f).1,by rw[f];exact ZE6 A⟩
   |succ j=>exact z j id g
  .cases h
theorem V7{H:yL ah}{all:yL Nat}{M:Lk}(h:Rc (bc all) (lk H) M):∀{ids:yL Nat}{Hin:yL ah},WS H all ids=ab Hin->aQ (aK H) all ids=ab (Hin.map (ah.er M))
 |[],Hin,e=>by cases e;rfl
 |i::r,Hin,e=>by
  simp only[WS]at e;split at e
  .rename_i m y f g;cases e;obtain⟨z,j,l⟩:=yf.1 f;simp only[aQ,Z2 j,ya,ZE5 h l,V7 h g,yah]
  .cases e
mutual
def TD.lay(L:Lk)(S:yL Nat):TD->TD
 |.own id j t c=>if S.contains id then .own id j t (ab (Yb L id t c)) else .own id j t c
 |.agg h=>.agg (TD.lays L S h)
 |.arr m s h=>.arr m s (TD.lays L S h)
 |.fn f h=>.fn f (TD.lays L S h)
 |.iface t x=>.iface t (TD.lay L S x)
 |.bm h=>.bm (TD.lays L S h)
 |.p x=>.p x
 |.elem x=>.elem x
 |.ak id g=>.ak id g
 |.view id g s lo n=>.view id g s lo n
 |.mp id=>.mp id
 |.rv id v s lo n=>.rv id v s lo n
 |.aZ id v g=>.aZ id v g
 |.rw id=>if S.contains id then .rv id (eO L id 0) (eO L id 1) 0 (eO L id 2) else .rw id
 |.rp id g=>if S.contains id then .aZ id (eO L id 0) g else .rp id g
 |.an=>.an
def TD.lays(L:Lk)(S:yL Nat):yL TD->yL TD
 |[]=>[]
 |x::r=>TD.lay L S x::TD.lays L S r
end
mutual
def TD.under(n:Nat):TD->Bool
 |.own id _ _ c=>c.isSome || decide (id < n)
 |.rw id=>ag (id < n)
 |.rp id _=>ag (id < n)
 |.agg f=>TD.dM n f
 |.arr _ _ f=>TD.dM n f
 |.fn _ f=>TD.dM n f
 |.iface _ x=>TD.under n x
 |.bm f=>TD.dM n f
 |_=>ae
def TD.dM(n:Nat):yL TD->Bool
 |[]=>ae
 |x::r=>TD.under n x&&TD.dM n r
end
def ah.lay(L:Lk)(S:yL Nat):ah->ah
 |.var d st=>.var (d.lay L S) st
 |.row v s st e d=>.row v s st e (d.lay L S)
 |.bL t h v st e g d f=>.bL t h v st e g (d.lay L S) f
 |e=>e
def ah.under(n:Nat):ah->Bool
 |.var d _=>d.under n
 |.row _ _ _ _ d=>d.under n
 |.bL _ _ _ _ _ _ d _=>d.under n
 |_=>ae
def Lo(S:yL Nat)(n:Nat)(L M:Lk):Prop:=∀id t,S.contains id=af->id < n->Yb L id t ad=Yb M id t ad
mutual
theorem sa{L M:Lk}{S:yL Nat}{n:Nat}(h:Lo S n L M):∀(d:TD),d.under n=ae->(d.lay L S).er M=d.er L
 |.p _,_=>rfl
 |.elem _,_=>rfl
 |.ak _ _,_=>rfl
 |.own id l t c,f=>by
  rw[TD.lay];split
  .rfl
  .rename_i j
   cases c with
   |none=>
    have:id < n:=by simpa[TD.under] using f
    rw[TD.er,TD.er,h id t (by simpa using j) this]
   |some _=>rfl
 |.view _ _ _ _ _,_=>rfl
 |.agg g,f=>by rw[TD.lay,TD.er,TD.er,dO h g f]
 |.arr _ _ g,f=>by rw[TD.lay,TD.er,TD.er,dO h g f]
 |.fn _ g,f=>by rw[TD.lay,TD.er,TD.er,dO h g f]
 |.iface _ x,f=>by rw[TD.lay,TD.er,TD.er,sa h x f]
 |.bm g,f=>by rw[TD.lay,TD.er,TD.er,dO h g f]
 |.mp _,_=>rfl
 |.rv _ _ _ _ _,_=>rfl
 |.aZ _ _ _,_=>rfl
 |.rw id,f=>by
  rw[TD.lay];split
  .rfl
  .rename_i j;have:id < n:=by simpa[TD.under] using f
   simp only[TD.er,eO,h id _ (by simpa using j) this]
 |.rp id _,f=>by
  rw[TD.lay];split
  .rfl
  .rename_i j;have:id < n:=by simpa[TD.under] using f
   simp only[TD.er,eO,h id _ (by simpa using j) this]
 |.an,_=>rfl
theorem dO{L M:Lk}{S:yL Nat}{n:Nat}(h:Lo S n L M):∀(f:yL TD),TD.dM n f=ae->TD.aG M (TD.lays L S f)=TD.aG L f
 |[],_=>rfl
 |x::r,g=>by
  simp only[TD.dM,yi]at g;rw[TD.lays,TD.aG,TD.aG,sa h x g.1,dO h r g.2]
end
theorem ZxS{L:Lk}{S:yL Nat}:∀(l:yL TD),(TD.lays L S l).length=l.length
 |[]=>rfl
 |_::r=>by rw[TD.lays,yag,yag,ZxS r]
theorem ZHR{L M:Lk}{S:yL Nat}{n:Nat}(h:Lo S n L M){e:ah}(f:e.under n=ae):(e.lay L S).er M=e.er L:=by
 cases e with
 |var d st=>rw[ah.lay,ah.er,ah.er,sa h d f]
 |row v s st e d=>rw[ah.lay,ah.er,ah.er,sa h d f]
 |bL t l v st e j d g=>rw[ah.lay,ah.er,ah.er,sa h d f]
 |_=>rfl
theorem ZHS{L:Lk}{S:yL Nat}(e:yO ah):eP (e.map (ah.lay L S))=eP e:=by
 cases e with
 |none=>rfl
 |some e=>cases e <;> rfl
theorem ZoE{α β:Type}(f:α->β):∀(ids:yL Nat)(A B:yL α),(aw A ids B).map f=aw (A.map f) ids (B.map f)
 |[],A,B=>by simp[aw]
 |id::r,A,[]=>by simp[aw]
 |id::r,A,b::B=>by simp only[aw,yah];rw[ZoE f r,ybn]
def TD.cr(L:Lk)(ids:yL Nat):TD->TD
 |.own id g t c=>if ids.contains id then .own id g t c else .p (.sl g t (Yb L id t c))
 |.agg f=>if TD.dH ids f then .agg f else TD.dI L f
 |d=>d
theorem GZ{L:Lk}{ids:yL Nat}(d:TD):(d.cr L ids).er L=Dv.cr ids (d.er L):=by
 cases d with
 |own id f t c=>
  rw[TD.cr,TD.er,Dv.cr]
  split <;> rfl
 |p _=>rfl
 |elem _=>rfl
 |ak _ _=>rfl
 |view _ _ _ _ _=>rfl
 |agg g=>
  rw[TD.cr,TD.er,Dv.cr,fB];split
  .rw[TD.er]
  .exact ZA6 _
 |arr _ _ _=>rfl
 |fn _ _=>rfl
 |iface _ _=>rfl
 |bm _=>rfl
 |mp _=>rfl
 |rv _ _ _ _ _=>rfl
 |aZ _ _ _=>rfl
 |rw _=>rfl
 |rp _ _=>rfl
 |an=>rfl
def nY(P:yg)(ts:yL TD):yL yp->yL yc->yO (yL TD)
 |[],_=>ab []
 |_,[]=>ab []
 |x::r,t::q=>match bn P ts t x,nY P ts r q with
  |some a,ab b=>ab (a::b)
  |_,_=>ad
theorem wc{P:yg}{ts:yL TD}{L:Lk}(ids:yL Nat):∀{l:yL yp}{ty:yL yc}{f:yL TD},nY P ts l ty=ab f->
 ((l.zip ty).map λq=>(aF P (TD.aG L ts) q.2 q.1).cr ids)=TD.aG L (f.map (TD.cr L ids))
 |[],ty,f,h=>by cases h;rfl
 |x::r,[],f,h=>by cases h;rfl
 |x::r,t::q,f,h=>by
  simp only[nY]at h;split at h
  .rename_i a b g j;cases h;simp only[List.zip_cons_cons,yah,TD.aG,Zt (L:=L) g,GZ,wc ids j]
  .cases h
theorem ZBm{L:Lk}(ids:yL Nat)(f:yL TD):(TD.aG L f).map (Dv.cr ids)=TD.aG L (f.map (TD.cr L ids)):=by
 rw[ZM,ZM,ybd,ybd];exact yci λx _=>(GZ x).symm
structure Fs(P:yg)where
 g:yw
 ps:List Sh
 es:List bJ
 ins:List Ty
 xs:List cv
 M:Ty.aO ins->Option (cv.sum xs)
def Fs.Ok{P:yg}(s:Fs P):Prop:=
 ∀x o,s.M x=ab o->∃f R H,Sh.fills s.ps (dB s.ins x)=ab (f,R)/\bJ.fills s.es R=ab (H,[])/\
  ∀e vs h,nX s.xs o e vs->VT 1 e.sl e.es vs=ab h->∃r,h.1=[r]/\ca P s.g (TD.aG (lk H) f) (aK H) (r.er (lk h.2)) (aK h.2)
def dA{P:yg}:yL (Fs P)->Prop
 |[]=>True
 |s::r=>s.Ok/\dA r
mutual
def Sh.ids:Sh->TD->yL (Nat×Nat)
 |.own j _,d=>match d with
  |.own id _ _ ad=>[(j,id)]
  |_=>[]
 |.ak j _,d=>match d with
  |.ak id _=>[(j,id)]
  |_=>[]
 |.mp j,d=>match d with
  |.mp id=>[(j,id)]
  |_=>[]
 |.rw j,d=>match d with
  |.rw id=>[(j,id)]
  |_=>[]
 |.rp j _ _,d=>match d with
  |.rp id _=>[(j,id)]
  |_=>[]
 |.view j _ _ _ _,d=>match d with
  |.view id _ _ _ _=>[(j,id)]
  |_=>[]
 |.rv j _ _ _ _,d=>match d with
  |.rv id _ _ _ _=>[(j,id)]
  |_=>[]
 |.fn _ l,d=>match d with
  |.fn _ f=>Sh.gW l f
  |_=>[]
 |.agg l,d=>match d with
  |.agg f=>Sh.gW l f
  |_=>[]
 |.arr _ _ l,d=>match d with
  |.arr _ _ f=>Sh.gW l f
  |_=>[]
 |.bm l,d=>match d with
  |.bm f=>Sh.gW l f
  |_=>[]
 |.iface _ x,d=>match d with
  |.iface _ y=>Sh.ids x y
  |_=>[]
 |_,_=>[]
def Sh.gW:yL Sh->yL TD->yL (Nat×Nat)
 |[],_=>[]
 |s::r,f=>match f with
  |d::q=>Sh.ids s d++Sh.gW r q
  |[]=>[]
end
def HA(H:yL ah):yL bJ->Nat->yL (Nat×Nat)->yL (Nat×Nat)
 |[],_,l=>l
 |e::r,j,l=>HA H r (j+1) (match e,(l.lookup j).bind λid=>H[id]? with
  |.var s _,ab (.var d _)=>l++Sh.ids s d
  |.nW _ _ _ _ _ sl,ab (.row _ _ _ _ (.arr _ _ f))=>l++Sh.gW sl f
  |_,_=>l)
def ZE7(H:yL ah):yO Nat:=(yo H.length).reverse.find? λi=>match H[i]? with
 |some .gone=>ae
 |_=>af
def ZLx(H:yL ah)(f:yL Sh)(es:yL bJ)(g:yL TD):yO (yL Nat):=
 match f,es with
 |[],[.gone]=>(ZE7 H).map λi=>[i]
 |_,_=>
  let l:=HA H es 0 (Sh.gW f g)
  (yo es.length).mapM λj=>l.lookup j
def we{P:yg}(s:Fs P)(H:yL ah)(args:yL TD)(ids:yL Nat):yO (Ty.aO s.ins):=
 if once ids then(TD.bB (bc ids) (args.map (TD.cr (lk H) ids))).bind λf=>(WS H ids ids).bind λHin=>
  (Sh.eR (lk Hin) s.ps f).bind λq=>(bJ.eR (lk Hin) s.es Hin).bind λw=>jK s.ins (q.2++w.2)
 else ad
theorem il{H Hin:yL ah}{ids:yL Nat}(h:WS H ids ids=ab Hin):Rc (bc ids) (lk H) (lk Hin):=by
 intro id j t e;obtain⟨l,f⟩:=GY h;have g:=cA e;have:=(f j id g).2;unfold Yb lk;grind
theorem ZHT{P:yg}{s:Fs P}{H:yL ah}{args:yL TD}{ids:yL Nat}{x:Ty.aO s.ins}(h:we s H args ids=ab x):
 once ids=ae/\∃Hin a2 j H3 R,WS H ids ids=ab Hin/\aQ (aK H) ids ids=ab (aK Hin)/\Dv.bB (bc ids) (TD.aG (lk H) (args.map (TD.cr (lk H) ids)))=ab (TD.aG (lk Hin) a2)/\
  Sh.fills s.ps (dB s.ins x)=ab (j,R)/\bJ.fills s.es R=ab (H3,[])/\cP (TD.aG (lk Hin) a2) (TD.aG (lk H3) j)/\bX (aK Hin) (aK H3):=by
 unfold we at h;split at h
 .rename_i y;obtain⟨a2,z,h⟩:=yf.1 h;obtain⟨Hin,f,h⟩:=yf.1 h;obtain⟨q,l,h⟩:=yf.1 h;obtain⟨w,g,h⟩:=yf.1 h;obtain⟨E,A⟩:=rW g;have e:=mE _ _ _ h;have m:∀id t,Yb (lk Hin) id t ad=Yb (lk w.1) id t ad:=λid t=>by rw[A]
  refine⟨y,Hin,a2,q.1,w.1,w.2,f,V7 (il f) f,dw (il f) _ _ z, ?_, ?_,de m _ _ _ l,rX m g⟩
  .rw[e];exact bN _ _ _ l _
  .have:=rV g [];grind
 .cases h
section
variable{P:yg}{o:yj}{ts all:yL TD}{H:yL ah}{O:Type}{K:Kn O}{out:O}
def wg(all:yL TD)(H:yL ah)(K:Kn O)(ids:yL Nat)(r:TD)(Hn:yL ah):yO O:=
 if(ids.isEmpty&&Hn.isEmpty)=ae then(r.rn λ_=>ad).bind λf=>K all f H [.call (r.er (lk [])) [] []] 0 else
 (r.rn (aV ids H.length)).bind λf=>(ah.bB (aV ids H.length) Hn).bind λHb=>
   if(ag (ids.length<=Hn.length)&&TD.dM H.length all&&H.all (ah.under H.length))=ae then
    K (TD.lays (lk H) ids all) f (aw (H.map (ah.lay (lk H) ids)) ids Hb) [.call (r.er (lk Hn)) (aK Hn) ids] 2
   else ad
def HB(s:Fs P)(all:yL TD)(H:yL ah)(K:Kn O)(args:yL TD)(ids:yL Nat)(x:Ty.aO s.ins):yO O:=
 (s.M x).bind λy=>xT 1 s.xs y λ_ rs Hn=>match rs with
   |[r]=>wg all H K ids r Hn
   |_=>ad
def sb(g:yw)(all:yL TD)(H:yL ah)(K:Kn O)(args:yL TD)(f:yO O):yL (Fs P)->yO O
 |[]=>f
 |s::h=>if s.g=g then match (ZLx H s.ps s.es args).bind λids=>(we s H args ids).map λx=>(ids,x) with
   |some q=>HB s all H K args q.1 q.2
   |none=>sb g all H K args f h
  else sb g all H K args f h
structure Rs(P:yg)where
 g:yw
 ps:List Sh
 es:List bJ
 ins:List Ty
 r:Sh
 t:List Ty
 M:Ty.aO ins->Option (Ty.aO t)
def Rs.Ok{P:yg}(s:Rs P):Prop:=
 ∀x o,s.M x=ab o->∃f R H,Sh.fills s.ps (dB s.ins x)=ab (f,R)/\bJ.fills s.es R=ab (H,[])/\
  ∀q,Sh.fill s.r (dB s.t o)=ab q->ca P s.g (TD.aG (lk H) f) (aK H) (q.1.er (lk H)) (aK H)
def mF{P:yg}:yL (Rs P)->Prop
 |[]=>True
 |s::r=>s.Ok/\mF r
structure Sp(P:yg)where
 l:List (Fs P):=[]
 hd:(O:Type)->yw->List TD->List ah->(TD->List ah->Option O)->Option O:=λ_ _ _ _ _=>ad
 mt:List (yc×String×yw):=[]
 ro:List (Rs P):=[]
def nZ(P:yg)(hd:(O:Type)->yw->yL TD->yL ah->(TD->yL ah->yO O)->yO O):Prop:=
 ∀(O:Type)(g:yw)(f:yL TD)(H:yL ah)(K:TD->yL ah->yO O)(out:O),hd O g f H K=ab out->
  ∃r H',K r H'=ab out/\ca P g (TD.aG (lk H) f) (aK H) (r.er (lk H')) (aK H')
def gX(P:yg):yL (yc×String×yw)->Prop
 |[]=>True
 |q::r=>oI P q.1 q.2.1 q.2.2/\gX P r
def sd:yL (yc×String×yw)->yc->String->yO yw
 |[],_,_=>ad
 |q::r,t,n=>if q.1=t then if q.2.1=n then ab q.2.2 else sd r t n else sd r t n
theorem HC:∀{l:yL (yc×String×yw)}{t:yc}{n:String}{g:yw},gX P l->sd l t n=ab g->oI P t n g
 |[],_,_,_,_,h=>by cases h
 |q::r,t,n,g,f,h=>by
  unfold sd at h;split at h
  .rename_i j;split at h
   .rename_i m;cases h;rw[<-j, <-m];exact f.1
   .exact HC f.2 h
  .exact HC f.2 h
structure eK(s:Sp P):Prop where
 l:dA s.l
 hd:nZ P s.hd
 mt:gX P s.mt
 ro:mF s.ro
theorem ZHV:nZ P (λ_ _ _ _ _=>ad):=λ_ _ _ _ _ _ h=>by cases h
theorem mG{l:yL (Fs P)}(h:dA l):eK ({ l:=l}:Sp P):=⟨h,ZHV,zP,aB⟩
mutual
def TD.look:TD->yL Nat
 |.ak id _=>[id]
 |.own id _ _ _=>[id]
 |.view id _ _ _ _=>[id]
 |.mp id=>[id]
 |.rv id _ _ _ _=>[id]
 |.aZ id _ _=>[id]
 |.rw id=>[id]
 |.rp id _=>[id]
 |.agg f=>TD.looks f
 |.arr _ _ f=>TD.looks f
 |.fn _ f=>TD.looks f
 |.iface _ x=>TD.look x
 |.bm f=>TD.looks f
 |_=>[]
def TD.looks:yL TD->yL Nat
 |[]=>[]
 |x::r=>TD.look x++TD.looks r
end
def ah.look:ah->yL Nat
 |.var d _=>d.look
 |.row _ _ _ _ d=>d.look
 |.bL _ _ _ _ _ _ d _=>d.look
 |_=>[]
def se(h:yL ah):Nat->yL Nat->yL Nat->yL Nat
 |0,_,f=>f
 |_+1,[],f=>f
 |k+1,id::r,f=>if f.contains id then se h k r f else se h k (((h[id]?).map ah.look).getD []++r) (id::f)
def HD(sp:Sp P)(g:yw)(all:yL TD)(H:yL ah)(K:Kn O)(args:yL TD):yO O:=
 let ids:=se H 100000 (TD.looks args) []
 if once ids then(TD.bB (bc ids) (args.map (TD.cr (lk H) ids))).bind λf=>(WS H ids ids).bind λHin=>
  sp.hd O g f Hin λr Hn=>wg all H K ids r Hn
 else ad
def HE(sp:Sp P)(g:yw)(all:yL TD)(H:yL ah)(K:Kn O)(args:yL TD):yO O:=sb g all H K args (HD sp g all H K args) sp.l
structure ez(P:yg)(g:yw)(all args:List TD)(H:List ah)(a':List TD)(d:TD)(H':List ah)(hs:List ao)(bP:Nat):Prop where
 same:TD.aG (lk H') a'=TD.aG (lk H) all
 len:a'.length=all.length
 op:∃(ids:List Nat)(Hin Hn Hb:List aq)(az:List Dv)(r:Dv),once ids=ae/\ids.length<=Hn.length/\aQ (aK H) ids ids=ab Hin/\
  Dv.bB (bc ids) (TD.aG (lk H) (args.map (TD.cr (lk H) ids)))=ab az/\ca P g az Hin r Hn/\r.rn (aV ids H.length)=ab (d.er (lk H'))/\aq.bB (aV ids H.length) Hn=ab Hb/\
  aK H'=aw (aK H) ids Hb/\hs=[.call r Hn ids]/\(bP=2/\¬(ids=[]/\Hn=[])\/(bP=3/\aK H'=aK H/\¬(ids=[]/\Hn=[]))\/bP=0/\ids=[]/\Hn=[]/\H'=H/\a'=all/\r=d.er (lk H')/\r.rn (λ_=>ad)=ab r)
theorem Zz4(n:Nat):once (yo n)=ae:=by
 have f:∀(l:yL Nat),l.Nodup->once l=ae:=by
  intro l
  induction l with
  |nil=>intro _;rfl
  |cons x r g=>
   intro h;rw[List.nodup_cons]at h;simp only[once,yi,Bool.not_eq_true',g h.2,and_true];simpa using h.1
 grind
theorem ZtS{g:yw}{args:yL TD}{ids:yL Nat}{Hin:yL ah}{az:yL Dv}{A:TD}{Hn:yL ah}(l:once ids=ae)(p1:WS H ids ids=ab Hin)(p2:aQ (aK H) ids ids=ab (aK Hin))
 (p3:Dv.bB (bc ids) (TD.aG (lk H) (args.map (TD.cr (lk H) ids)))=ab az) (m:ca P g az (aK Hin) (A.er (lk Hn)) (aK Hn)) (h:wg all H K ids A Hn=ab out):
 ∃a d H' hs c,K a d H' hs c=ab out/\ez P g all args H a d H' hs c:=by
 unfold wg at h;split at h
 .rename_i y;rw[yi]at y;have i1:ids=[]:=by simpa using y.1
  have R:Hn=[]:=by simpa using y.2
  subst i1;subst R;obtain⟨Z,z,h⟩:=yf.1 h;have f1:=jL (L:=lk []) (M:=lk H) (λid j t e=>by cases e) _ _ z;have f2:=qG (f:=λ_=>ad) _ _ f1;have f3:A.er (lk [])=Z.er (lk H):=Option.some.inj (f2.symm.trans f1);have E:Hin=[]:=by cases p1;rfl
  subst E;refine⟨_,_,_,_,_,h,rfl,rfl,[],[],[],[],az,A.er (lk []),rfl,yl _,rfl,p3,m, ?_,rfl, ?_,rfl,.inr (.inr ⟨rfl,rfl,rfl,rfl,rfl,f3,f2⟩)⟩
  .rw[<-f3];exact qG _ _ f1
  .rw[SS]
 rename_i S;obtain⟨Z,z,h⟩:=yf.1 h;obtain⟨Hb,F,h⟩:=yf.1 h;obtain⟨hk,h⟩:=Za h;simp only[yi,yP]at hk;obtain⟨⟨Q,k2⟩,k3⟩:=hk;obtain⟨T,b2⟩:=ZxR F;obtain⟨s1,s2⟩:=GY p1
 have U:∀i,i∈ids->i < H.length:=λi W=>by
  obtain⟨j,hj⟩:=List.getElem?_of_mem W;grind
 have G:Lo ids H.length (lk H) (lk (aw (H.map (ah.lay (lk H) ids)) ids Hb)):=by
  intro id t X hl;unfold Yb lk;dsimp only
  rw[qD _ _ _ id (by rw[T];exact Q) (by rw[yad];exact hl) (λhm=>by
   rw[List.contains_eq_any_beq]at X;simp at X;exact X id hm rfl),yao,ZHS]
 have I:Rc (aV ids H.length) (lk Hn) (lk (aw (H.map (ah.lay (lk H) ids)) ids Hb)):=by
  intro j i t e
  have Y:lk (aw (H.map (ah.lay (lk H) ids)) ids Hb) i=lk Hn j:=by
   show eP ((aw (H.map (ah.lay (lk H) ids)) ids Hb)[i]?)=eP (Hn[j]?);rw[<-b2 j];unfold aV at e;split at e
   .rw[uN _ _ _ j i l (by rw[T];exact Q) (λi W=>by rw[yad];exact U i W) e]
   .rename_i hj;cases e;have:=uO (H.map (ah.lay (lk H) ids)) ids Hb j (by rw[T];exact Q) (by omega);grind
  unfold Yb;rw[Y]
 have e2:(aw (H.map (ah.lay (lk H) ids)) ids Hb).map (ah.er (lk (aw (H.map (ah.lay (lk H) ids)) ids Hb)))=aw (aK H) ids (Hb.map (ah.er (lk (aw (H.map (ah.lay (lk H) ids)) ids Hb)))):=by
  rw[ZoE,ybd];congr 1;refine yci λe he=> ?_;exact ZHR G (yal.1 k3 e he)
 have f1:=jL I _ _ z;have f2:=ZBl I _ _ F;refine⟨_,_,_,_,_,h,dO G all k2,ZxS all,ids,aK Hin,aK Hn,_,az,A.er (lk Hn),l,by rw[ZW];exact Q,p2,p3,m,f1,f2,e2,rfl,.inl ⟨rfl,λhh=>S ?_⟩⟩;have R:Hn=[]:=by have:=hh.2;unfold aK at this;simpa using this
 rw[R,hh.1];rfl
theorem ZsN{args:yL TD}{s:Fs P}{ids:yL Nat}{x:Ty.aO s.ins}(ok:s.Ok)(hp:we s H args ids=ab x)(h:HB s all H K args ids x=ab out):
 ∃a d H' hs c,K a d H' hs c=ab out/\ez P s.g all args H a d H' hs c:=by
 unfold HB at h;obtain⟨y,M,E⟩:=yf.1 h;obtain⟨e,vs,F,l,z,m⟩:=vZ E;clear E h;obtain⟨j,Hin,Z,a3,H3,R,Q,S,T,U,W,X,Y⟩:=ZHT hp;obtain⟨args,R1,H4,G,I,f⟩:=ok x y M;obtain⟨r4,A,f⟩:=f e vs F l z;rw[A]at m;dsimp only at m;rw[U]at G;cases G;rw[W]at I;cases I;generalize F.2=Hn at m f;exact ZtS j Q S T (ZHm f X Y) m
theorem HF{Q:yL TD->TD->yL ah->yL ao->Nat->Prop}{g:yw}{args:yL TD}{m:yO O}(y:∀{a d H' hs c},ez P g all args H a d H' hs c->Q a d H' hs c)(ho:m=ab out->∃a d H' hs c,K a d H' hs c=ab out/\Q a d H' hs c):∀{l:yL (Fs P)},dA l->sb g all H K args m l=ab out->
 ∃a d H' hs c,K a d H' hs c=ab out/\Q a d H' hs c
 |[],_,h=>ho h
 |s::r,f,h=>by
  unfold sb at h;split at h
  .rename_i A;split at h
   .rename_i q j;obtain⟨ids,E,j⟩:=yf.1 j;obtain⟨x,z,rfl⟩:=Zd j;obtain⟨a,d,H',hs,c,F,G⟩:=ZsN f.1 z h;grind
   .exact HF y ho f.2 h
  .exact HF y ho f.2 h
theorem ZFa{sp:Sp P}{g:yw}{args:yL TD}(ok:eK sp)(h:HD sp g all H K args=ab out):∃a d H' hs c,K a d H' hs c=ab out/\ez P g all args H a d H' hs c:=by
 unfold HD at h;dsimp only at h;generalize se H 100000 (TD.looks args) []=ids at h;obtain⟨j,h⟩:=Za h;obtain⟨z,l,h⟩:=yf.1 h;obtain⟨Hin,f,h⟩:=yf.1 h;obtain⟨r,Hn,m,y⟩:=ok.hd _ _ _ _ _ _ h;exact ZtS j f (V7 (il f) f) (dw (il f) _ _ l) y m
theorem ZxV{sp:Sp P}{g:yw}{args:yL TD}(ok:eK sp)(h:HE sp g all H K args=ab out):∃a d H' hs c,K a d H' hs c=ab out/\ez P g all args H a d H' hs c:=
 HF (λh=>h) (λh=>ZFa ok h) ok.l h
theorem ZCS{c:Call}{f:yp}{g:yw}{cap az:yL TD}{a:yL TD}{d:TD}{H':yL ah}{hs:yL ao}{Q:Nat}(ho:o.op=.call c)(hc:c.callee=.value f)(W:bn P ts 0 f=ab (.fn g cap))
 (hb:(iF P (fP g)&&c.args.size==c.argTypes.size)=ae) (ha:nY P ts c.args.toList c.argTypes.toList=ab az) (h:ez P (fP g) all (if g < big then az++cap else cap++az) H a d H' hs Q):Good P o ts all H a d H' hs Q:=by
 have m:=Zt (L:=lk H) W;obtain⟨ids,Hin,Hn,Hb,A,r,y,E,R,S,l,f1,f2,z,rfl,F⟩:=h.op
 have T:YJ P ids (TD.aG (lk H) ts) c g (TD.aG (lk H) cap)=TD.aG (lk H) ((if g < big then az++cap else cap++az).map (TD.cr (lk H) ids)):=by
  unfold YJ;split
  .rw[wc ids ha,ZBm,yau,ZM,ZM,ZM,yau]
  .rw[wc ids ha,ZBm,yau,ZM,ZM,ZM,yau]
 have U:¬(ids=[]/\Hn=[])->jG P o ts H d H' [.call r Hn ids]:=λj=>by
  refine⟨λG=> ?_,λG=> ?_,[ca P (fP g) A Hin r Hn],⟨l,aB⟩,λG=> ?_⟩
  .unfold bh;rw[ho];dsimp only;rw[hc];dsimp only;rw[m];dsimp only[TD.er];rw[yaf,yz];split
   .rename_i X z;exfalso;simp only[List.cons.injEq,ao.call.injEq]at z;exact j ⟨z.1.2.2,z.1.2.1⟩
   .rename_i z;cases z
   .rfl
  .unfold bG;rw[ho];dsimp only;rw[hc]
  .unfold cU;rw[ho];dsimp only;rw[hc];dsimp only;rw[m];dsimp only[TD.er];rw[yaf,yz];dsimp only;rw[yW (by simp only[yi,yP]at hb ⊢;exact⟨⟨hb,y⟩,E⟩)];rw[T,S,R,ZW,f1,f2];dsimp only;rw[z]
 rcases F with⟨rfl,j⟩|⟨rfl,I,j⟩|⟨rfl,rfl,rfl,rfl,rfl,rfl,M⟩
 .exact⟨h.same,h.len,dV ⟨rfl,U j⟩⟩
 .exact⟨h.same,h.len,.inr (.inr (.inr ⟨rfl,I,U j⟩))⟩
 .refine⟨h.same,h.len,.inl ⟨rfl,rfl,[ca P (fP g) A [] (d.er (lk H')) []],⟨?_,aB⟩,λG=> ?_⟩⟩
  .cases R;exact l
  .unfold bh;rw[ho];dsimp only;rw[hc];dsimp only;rw[m];dsimp only[TD.er];rw[yaf,yz];dsimp only;rw[yW hb,T, <-qF,S,qF,M]
theorem ZCT{c:Call}{j:yp}{f:String}{t:yc}{x:TD}{g:yw}{az:yL TD}{a:yL TD}{d:TD}{H':yL ah}{hs:yL ao}{F:Nat}(ho:o.op=.call c)(hc:c.callee=.invoke j f)(G:bn P ts 0 j=ab (.iface t x))
 (hm:oI P t f g) (hb:(iF P g&&c.args.size==c.argTypes.size)=ae) (ha:nY P ts c.args.toList c.argTypes.toList=ab az) (h:ez P g all (x::az) H a d H' hs F):Good P o ts all H a d H' (.iC g::hs) 2:=by
 have y:=Zt (L:=lk H) G;obtain⟨ids,Hin,Hn,Hb,z,r,l,A,I,M,m,f1,f2,S,rfl,Q⟩:=h.op
 have R:(x.er (lk H)).cr ids::YJ P ids (TD.aG (lk H) ts) c 0 []=TD.aG (lk H) ((x::az).map (TD.cr (lk H) ids)):=by
  unfold YJ;rw[yW (by decide),wc ids ha,List.map_nil,ybf,yah,TD.aG,GZ]
 refine⟨h.same,h.len,dV (⟨rfl,λE=> ?_,λE=> ?_,[oI P t f g,ca P g z Hin r Hn],⟨hm,m,aB⟩,λE=> ?_⟩)⟩
 .unfold bh;grind
 .unfold bG;grind
 .unfold cU;rw[ho];dsimp only;rw[hc];dsimp only;rw[y];dsimp only[TD.er];rw[yaf,yaf,yz];dsimp only;rw[yW (by simp only[yi,yP]at hb ⊢;exact⟨⟨hb,l⟩,A⟩)];rw[R,M,I,ZW,f1,f2];grind
end
end Go.Ev
end
section
namespace Go.Ev
section
variable{P:yg}{o:yj}{ts all:yL TD}{H:yL ah}{O:Type}{K:Kn O}{out:O}
def TD.od:TD->Bool
 |.view _ _ _ _ _=>ae
 |_=>af
def TD.fu:TD->Bool
 |.p (.sl (ab af) _ [])=>ae
 |_=>af
def TD.sf:TD->Bool
 |.ak _ _=>ae
 |_=>af
def TD.oe:TD->Bool
 |.aZ _ _ _=>ae
 |_=>af
def TD.sg:TD->Bool
 |.rv _ _ _ _ _=>ae
 |_=>af
def ZHW(a:TD)(lo hi:yO Int):Bool:=
 match a with
 |.rv _ _ _ _ n=> !dU n lo hi
 |_=>af
def TD.sh:TD->Bool
 |.own _ _ _ _=>ae
 |_=>af
def TD.HG:TD->Bool
 |.mp _=>ae
 |_=>af
def iJ(l:yL Tmp):yO Tmp->Bool
 |some t=>l.contains t
 |none=>af
def iK(P:yg)(o:yj)(ts all:yL TD)(H:yL ah)(K:Kn O):yO O:=EO (lk H) P o ts λd hs=>K all d H hs 0
theorem XO(h:iK P o ts all H K=ab out):∃a d H' hs c,K a d H' hs c=ab out/\Good P o ts all H a d H' hs c:=by
 obtain⟨d,hs,f,g⟩:=ZEJ h;exact⟨_,_,_,_,_,f,rfl,rfl,.inl ⟨rfl,rfl,g⟩⟩
def wh(P:yg)(hi:HI)(o:yj)(x:yp)(asg:Bool)(ts all:yL TD)(H:yL ah)(K:Kn O):yO O:=
 match o.dst,bn P ts o.type x with
 |some t,ab d=>if hi.still.contains t&&(d.od || d.sg) then vS t all H K d else if hi.still.contains t&&d.iI then GD t all H K d else if asg&&(hi.cL.contains t&&d.fu) then GJ P o.type t all H K d else if asg&&(hi.own.contains t&&d.fu) then FD P o.type t all H K d else iK P o ts all H K
 |_,_=>iK P o ts all H K
def TD.lx(d:TD):yO Num:=
 match d.num with
 |some a=>if a.k=.i64 then ab a else ad
 |none=>ad
def si(P:yg)(hi:HI)(aJ:Sp P)(o:yj)(ts all:yL TD)(H:yL ah)(K:Kn O):yO O:=
 if rnT P hi o ts H=ae then GR P hi o ts all H K else
 match o.op with
 |.move x=>wh P hi o x af ts all H K
 |.assign x=>wh P hi o x ae ts all H K
 |.slice t x lo h ad=>if iJ hi.eC o.dst then(bn P ts t x).bind λa=>(ft P ts lo).bind λl=>(ft P ts h).bind λr=>FX P t l r all H K a
  else(bn P ts t x).bind λa=>(ft P ts lo).bind λl=>(ft P ts h).bind λr=>if(iJ hi.cL o.dst&&a.iI)=ae then GK P t l r all H K a else if a.iI=ae then FZ P t l r all H K a else if ZHW a l r=ae then EU P t l r all H K a else iK P o ts all H K
 |.load t x=>(bn P ts 0 x).bind λd=>if d.sf || d.oe then ET P t all H K d else if d.rR then GB P t all H K d else iK P o ts all H K
 |.lookup t x ix G=>(bn P ts t x).bind λd=>FB P t all H G K (λE=>bn P ts E ix) d
 |.makeMap t ad=>FE P t all H K
 |.makeSlice t l c=>((bn P ts 0 l).bind TD.lx).bind λn=>((bn P ts 0 c).bind TD.lx).bind λF=>if iJ hi.cL o.dst then GI P t n.n F.n all H K else FF P t (iJ hi.own o.dst) (iJ hi.row o.dst) n.n F.n all H K
 |.mapUpdate t x k v=>(bn P ts t x).bind λd=>FG P t all H K (λE=>bn P ts E k) (λI=>bn P ts I v) d
 |.alloc t=>FL P hi o.dst t all H K
 |.box t x=>(bn P ts t x).bind (FM hi o.dst all H K)
 |.store t x y=>(bn P ts 0 x).bind λa=>(bn P ts t y).bind λv=>if a.rR then GC P t all H K v a else FP P (ZLu hi x) t all H K v a
 |.buildSlice t len parts=>if iJ hi.cL o.dst then(match (o.dst.bind λd=>hi.rew.lookup d).bind λs=>all[s]? with
  |some (.rw id)=>GH P ts t len parts.toList id all H K
  |_=>GG P ts t len parts.toList all H K) else if iJ hi.own o.dst then FQ P ts t len parts.toList all H K else iK P o ts all H K
 |.indexAddr t x ix=>(bn P ts t x).bind λa=>if a.iI then(bn P ts 0 ix).bind λb=>b.inner.bind λM=>(ji M).bind λq=>FY P t q.2 all H K a else iK P o ts all H K
 |.call c=>match c.callee with
  |.builtin .len=>match c.args.toList,c.argTypes.toList with
   |[x],[t]=>(bn P ts t x).bind λd=>if d.HG then FC P t all H K d else if d.iI then GA P t all H K d else iK P o ts all H K
   |_,_=>ad
  |.builtin .max=>iK P o ts all H K
  |.builtin .min=>iK P o ts all H K
  |.builtin .append=>match c.args.toList,c.argTypes.toList with
   |[x,y],[t,u]=>(bn P ts t x).bind λa=>(bn P ts u y).bind λb=>if a.iI || (a.fu&&iJ hi.cL o.dst) then GF P ae t u all H K b a else if a.sh || a.sg || (a.fu&&(iJ hi.own o.dst || iJ hi.row o.dst)) then FT P (iJ hi.own o.dst) (iJ hi.row o.dst) t u all H K b (if hi.eqs=ae then FU H a else a) else iK P o ts all H K
   |_,_=>ad
  |.builtin .copy=>match c.args.toList,c.argTypes.toList with
   |[x,y],[t,u]=>(bn P ts t x).bind λa=>(bn P ts u y).bind λb=>FV P t u all H K b a
   |_,_=>ad
  |.value f=>match bn P ts 0 f with
   |some (.fn g j)=>if(iF P (fP g)&&c.args.size==c.argTypes.size)=ae then(nY P ts c.args.toList c.argTypes.toList).bind λA=>HE aJ (fP g) all H K (if g < big then A++j else j++A) else iK P o ts all H K
   |_=>ad
  |.invoke m z=>match bn P ts 0 m with
   |some (.iface t x)=>(sd aJ.mt t z).bind λg=>if(iF P g&&c.args.size==c.argTypes.size)=ae then(nY P ts c.args.toList c.argTypes.toList).bind λA=>HE aJ g all H (λa d H' hs _=>K a d H' (.iC g::hs) 2) (x::A) else ad
   |_=>ad
  |_=>ad
 |_=>iK P o ts all H K
theorem mH{d:TD}{n:Num}(h:d.lx=ab n):d.num=ab n/\n.k=.i64:=by
 unfold TD.lx at h
 all_goals grind
theorem ZqY{hi:HI}{x:yp}{asg:Bool}(ho:if asg=ae then o.op=.assign x else o.op=.move x)(h:wh P hi o x asg ts all H K=ab out):∃a d H' hs c,K a d H' hs c=ab out/\Good P o ts all H a d H' hs c:=by
 unfold wh at h;split at h
 .rename_i t d g j;split at h
  .refine ZxG (x:=x) ?_ g j h
   all_goals grind
  split at h
  .refine Zvx (x:=x) ?_ g j h
   all_goals grind
  split at h
  .rename_i f;rw[yi]at f;rw[yW f.1]at ho;exact Zvz ho g j h
  .split at h
   .rename_i f;rw[yi]at f;rw[yW f.1]at ho;exact ZxA ho g j h
   .exact XO h
 .exact XO h
theorem HJ{hi:HI}{aJ:Sp P}(ok:eK aJ)(h:si P hi aJ o ts all H K=ab out):∃a d H' hs c,K a d H' hs c=ab out/\Good P o ts all H a d H' hs c:=by
 unfold si at h;split at h
 .exact ZCR h
 split at h
 .rename_i x j;exact ZqY (asg:=af) j h
 .rename_i x j;exact ZqY (asg:=ae) j h
 .rename_i t x lo hi' j;split at h
  .obtain⟨a,m,h⟩:=yf.1 h;obtain⟨l,z,h⟩:=yf.1 h;obtain⟨r,E,h⟩:=yf.1 h;exact ZCP j m z E h
  .obtain⟨a,m,h⟩:=yf.1 h;obtain⟨l,z,h⟩:=yf.1 h;obtain⟨r,E,h⟩:=yf.1 h;split at h
   .exact ZsL j m z E h
   split at h
   .exact ZzU j m z E h
   split at h
   .exact Zxv j m z E h
   .exact XO h
 .rename_i t x j;obtain⟨d,m,h⟩:=yf.1 h;split at h
  .exact ZzJ j m h
  split at h
  .exact ZxH j m h
  .exact XO h
 .rename_i t x ix okk j;obtain⟨d,m,h⟩:=yf.1 h;exact Zvg j m h
 .rename_i t j;exact ZsJ j h
 .rename_i t l c j;obtain⟨n,m,h⟩:=yf.1 h;obtain⟨n',z,h⟩:=yf.1 h;obtain⟨d1,U,I⟩:=yf.1 m;obtain⟨d2,W,M⟩:=yf.1 z;split at h
  .exact ZxK j (by rw[U];exact(mH I).1) (by rw[W];exact(mH M).1) (mH I).2 (mH M).2 h
  exact Zpn j (by rw[U];exact(mH I).1) (by rw[W];exact(mH M).1) (mH I).2 (mH M).2 h
 .rename_i t x k v j;obtain⟨d,m,h⟩:=yf.1 h;exact Zvk j m h
 .rename_i t j;exact ZxC j h
 .rename_i t x j;obtain⟨d,m,h⟩:=yf.1 h;exact ZCN j m h
 .rename_i t x y j;obtain⟨a,m,h⟩:=yf.1 h;obtain⟨v,z,h⟩:=yf.1 h;split at h
  .exact Zvv j m z h
  .exact ZxD j m z h
 .rename_i t len parts j;split at h
  .split at h
   .exact ZxJ j h
   .exact ZzX j h
  split at h
  .exact Zvo j h
  .exact XO h
 .rename_i t x ix j;obtain⟨a,m,h⟩:=yf.1 h;split at h
  .obtain⟨b,z,h⟩:=yf.1 h;obtain⟨ip,E,h⟩:=yf.1 h;obtain⟨q,h4,h⟩:=yf.1 h;rw[Y3 E]at z;exact Zvt j m z h4 h
  .exact XO h
 .rename_i c j;split at h
  .rename_i A;split at h
   .rename_i x t F G;obtain⟨d,m,h⟩:=yf.1 h;split at h
    .exact Zvi j A F G m h
    split at h
    .exact ZzV j A F G m h
    .exact XO h
   .cases h
  .exact XO h
  .exact XO h
  .rename_i A;split at h
   .rename_i x y t u F G;obtain⟨a,m,h⟩:=yf.1 h;obtain⟨b,z,h⟩:=yf.1 h;split at h
    .exact ZsK j A F G (Zt m) z h
    split at h
    .refine Zvq j A F G ?_ z h;split
     .rw[ZCO];exact Zt m
     .exact Zt m
    .exact XO h
   .cases h
  .rename_i A;split at h
   .rename_i x y t u F G;obtain⟨a,m,h⟩:=yf.1 h;obtain⟨b,z,h⟩:=yf.1 h;exact ZzS j A F G m z h
   .cases h
  .rename_i f A;split at h
   .rename_i g cap Q;split at h
    .rename_i R;obtain⟨az,m,h⟩:=yf.1 h;obtain⟨a,d,H',hs,X,S,T⟩:=ZxV ok h;exact⟨a,d,H',hs,X,S,ZCS j A Q R m T⟩
    .exact XO h
   .cases h
  .rename_i Y Z A;split at h
   .rename_i t x Q;obtain⟨g,hg,h⟩:=yf.1 h;obtain⟨R,h⟩:=Za h;obtain⟨az,m,h⟩:=yf.1 h;obtain⟨a,d,H',hs,X,S,T⟩:=ZxV ok h;exact⟨a,d,H',_,_,S,ZCT j A Q (HC ok.mt hg) R m T⟩
   .cases h
  .cases h
 .exact XO h
def HK(ops:Array yj)(j:Nat):yO Tmp:=(ops[j]?).bind (·.dst)
def kF(b:Bool):TD:=.p (.v .bool b)
def ZFb:TD->Bool
 |.bm []=>ae
 |_=>af
def gT(P:yg)(hi:HI)(aJ:Sp P)(ops:Array yj)(o:yj)(ts all:yL TD)(H:yL ah)(K:Kn O):yO O:=
 match o.guard with
 |none=>si P hi aJ o ts all H K
 |some (j,f)=>(HK ops j).bind λt=>match (ts.getD t .an).boolT with
  |some b=>
   if b=ae then
    if ae=f then si P hi aJ o (ts.set t (kF ae)) (all.set t (kF ae)) H λa d H' hs c=>K a d H' (.b ae::hs) c
    else K (all.set t (kF ae)) (.bm []) H [.b ae] 0
   else
    if af=f then si P hi aJ o (ts.set t (kF af)) (all.set t (kF af)) H λa d H' hs c=>K a d H' (.b af::hs) c
    else K (all.set t (kF af)) (.bm []) H [.b af] 0
  |none=>if ZFb (ts.getD t .an) then K all (.bm []) H [.raw] 0 else ad
structure sj(P:yg)(ops:Array yj)(o:yj)(ts all:List TD)(H:List ah)(all':List TD)(d:TD)(H':List ah)(hs:List ao)(bP:Nat):Prop where
 same:TD.aG (lk H') all'=TD.aG (lk H) all
 len:all'.length=all.length
 op:∃C,aX C/\∀yK,dh P ops o (TD.aG (lk H) ts) (aK H) (hs++yK)=ab (C,d.er (lk H'),aK H',yK)
 sam:bP=3->aK H'=aK H
 bP:∀yK,bM P o (TD.aG (lk H) ts) (aK H) (hs++yK)<=bP
theorem HL{d:TD}{a:yL TD}{H':yL ah}{hs:yL ao}{c:Nat}(h:Good P o ts all H a d H' hs c):∃C,aX C/\(∀yK,cC P o (TD.aG (lk H) ts) (aK H) (hs++yK)=ab (C,d.er (lk H'),aK H',yK))/\
 ∀yK,(if(bh P o (TD.aG (lk H) ts) (hs++yK)).isSome then 0 else if(bG P o (TD.aG (lk H) ts) (aK H) (hs++yK)).isSome then 1 else 2)<=c:=by
 rcases h.op with⟨rfl,rfl,C,l,g⟩|⟨rfl,rfl,j,C,l,g⟩|⟨rfl,j,f,C,l,g⟩|⟨rfl,_,j,f,C,l,g⟩
 .exact⟨C,l,λyK=>by unfold cC;rw[g yK],λyK=>by rw[g yK];simp⟩
 .exact⟨C,l,λyK=>by unfold cC;rw[j yK];dsimp only;rw[g yK],λyK=>by rw[j yK,g yK];simp⟩
 .exact⟨C,l,λyK=>by unfold cC;rw[j yK];dsimp only;rw[f yK];exact g yK,λyK=>by rw[j yK,f yK];simp⟩
 .exact⟨C,l,λyK=>by unfold cC;rw[j yK];dsimp only;rw[f yK];exact g yK,λyK=>by rw[j yK,f yK];simp⟩
theorem HM{d:TD}{a:yL TD}{H':yL ah}{hs:yL ao}{c:Nat}(h:Good P o ts all H a d H' hs c)(hc:c=3):aK H'=aK H:=by
 subst hc;rcases h.op with⟨e,_⟩|⟨e,_⟩|⟨e,_⟩|⟨_,e,_⟩
 all_goals grind
theorem ZxW{l:yL TD}{t:Nat}{b:Bool}(h:(l.getD t .an).boolT=ab b):l.getD t .an=kF b:=by
 unfold TD.boolT at h;split at h
 .rename_i x f;unfold TP.ik at h;split at h
  .cases h;exact f
  .cases h
 .cases h
theorem bE{l:yL TD}{t:Nat}{d:TD}(h:l.getD t .an=d):(l.set t d)=l:=by
 apply ybp
 all_goals grind
theorem ZBo{hi:HI}{aJ:Sp P}{ops:Array yj}(ok:eK aJ)(X:∀j z t,o.guard=ab (j,z)->HK ops j=ab t->ts.getD t .an=all.getD t .an)(h:gT P hi aJ ops o ts all H K=ab out):
 ∃a d H' hs c,K a d H' hs c=ab out/\sj P ops o ts all H a d H' hs c:=by
 unfold gT at h;split at h
 .rename_i g;obtain⟨a,d,H',hs,c,E,l⟩:=HJ ok h;obtain⟨C,I,M,S⟩:=HL l;refine⟨a,d,H',hs,c,E,l.same,l.len,⟨C++[],Zl.2 ⟨I,aB⟩,λm=> ?_⟩,HM l,λm=> ?_⟩
  .unfold dh;rw[g];dsimp only;rw[M m];rfl
  .unfold bM;grind
 .rename_i j z g;obtain⟨t,T,y⟩:=yf.1 h;clear h;have Q:=X j z t g T
  have f:((ops[j]?).bind (·.dst)).map (λt=>(TD.aG (lk H) ts).getD t .an)=ab ((ts.getD t .an).er (lk H)):=by
   rw[show(ops[j]?).bind (·.dst)=ab t from T,yae,vE]
  split at y
  .rename_i b U;have R:=ZxW U;have W:all.getD t .an=kF b:=by rw[<-Q];exact R
   have G:(ts.getD t .an).er (lk H)=.p (.bool b):=pj U;split at y
   .rename_i A;subst A;rw[bE R,bE W]at y;split at y
    .rename_i F;subst F;obtain⟨a,d,H',hs,c,E,l⟩:=HJ ok y;obtain⟨C,I,M,S⟩:=HL l;refine⟨a,d,H',_,c,E,l.same,l.len,⟨(ae=ae)::C++[],Zl.2 ⟨⟨rfl,I⟩,aB⟩,λm=> ?_⟩,HM l,λm=> ?_⟩
     .unfold dh;rw[g];dsimp only;rw[f,G];simp only[yaf,if_true,M m];rfl
     .unfold bM;grind
    .rename_i F;refine⟨_,_,_,_,_,y,rfl,rfl,⟨[ae=ae],⟨rfl,aB⟩,λm=> ?_⟩,λ_=>rfl,λm=> ?_⟩
     .unfold dh;rw[g];dsimp only;rw[f,G];simp only[yaf,yz,yX F];rfl
     .unfold bM;grind
   .rename_i A;have A:b=af:=by simpa using A
    subst A;rw[bE R,bE W]at y;split at y
    .rename_i F;subst F;obtain⟨a,d,H',hs,c,E,l⟩:=HJ ok y;obtain⟨C,I,M,S⟩:=HL l;refine⟨a,d,H',_,c,E,l.same,l.len,⟨(af=af)::C++[],Zl.2 ⟨⟨rfl,I⟩,aB⟩,λm=> ?_⟩,HM l,λm=> ?_⟩
     .unfold dh;rw[g];dsimp only;rw[f,G];simp only[yaf,if_true,M m];rfl
     .unfold bM;grind
    .rename_i F;refine⟨_,_,_,_,_,y,rfl,rfl,⟨[af=af],⟨rfl,aB⟩,λm=> ?_⟩,λ_=>rfl,λm=> ?_⟩
     .unfold dh;rw[g];dsimp only;rw[f,G];simp only[yaf,yz,yX F];rfl
     .unfold bM;grind
  .obtain⟨E,y⟩:=Za y
   have G:(ts.getD t .an).er (lk H)=.bm []:=by
    unfold ZFb at E;split at E
    .rename_i Y;rw[Y];rfl
    .cases E
   refine⟨_,_,_,_,_,y,rfl,rfl,⟨[],zP,λm=> ?_⟩,λ_=>rfl,λm=> ?_⟩
   .unfold dh;rw[g];dsimp only;rw[f,G];rfl
   .unfold bM;grind
def py(ts:yL TD)(dst:yO Tmp)(d:TD):yL TD:=
 match dst with
 |some i=>ts.set i d
 |none=>ts
theorem ZxX{L:Lk}(dst:yO Tmp)(d:TD):TD.aG L (py ts dst d)=fL (TD.aG L ts) dst (d.er L):=by
 cases dst with
 |none=>rfl
 |some i=>simp only[py,fL,ZM,ybn]
theorem ZtU(dst:yO Tmp)(d:TD):(py ts dst d).length=ts.length:=by
 cases dst <;> simp[py]
def sk(P:yg)(hi:HI)(aJ:Sp P)(ops:Array yj):yL yj->yL TD->yL ah->(yL TD->yL ah->yL ao->yO O)->yO O
 |[],all,H,K=>K all H []
 |o::r,all,H,K=>gT P hi aJ ops o all all H λa d H' hs _=>sk P hi aJ ops r (py a o.dst d) H' λf g hs'=>K f g (hs++hs')
theorem ZtV{hi:HI}{aJ:Sp P}{ops:Array yj}(ok:eK aJ):∀(l:yL yj)(all:yL TD)(H:yL ah)(K:yL TD->yL ah->yL ao->yO O),sk P hi aJ ops l all H K=ab out->
 ∃a h hs C,K a h hs=ab out/\a.length=all.length/\aX C/\∀yK,cz P ops l (TD.aG (lk H) all) (aK H) (hs++yK)=ab (C,TD.aG (lk h) a,aK h,yK)
 |[],all,H,K,h=>⟨all,H,[],[],h,rfl,zP,λ_=>rfl⟩
 |o::r,all,H,K,h=>by
  unfold sk at h;obtain⟨a,d,H',hs,c,g,f⟩:=ZBo ok (λ_ _ _ _ _=>rfl) h;obtain⟨j,m,hs',C',y,z,A,E⟩:=ZtV ok r _ _ _ g;obtain⟨C,F,G⟩:=f.op;refine⟨j,m,_,C++C',y,by rw[z,ZtU,f.len],Zl.2 ⟨F,A⟩,λyK=> ?_⟩;unfold cz;rw[yac,G (hs'++yK)];dsimp only;rw[<-f.same, <-ZxX,E yK]
end
end Go.Ev
end
section
namespace Go.Ev
section
variable{P:yg}{o:yj}{ts all:yL TD}{H:yL ah}{O:Type}{out:O}
def im(keep:yL Nat):Nat->yL TD->yL TD
 |_,[]=>[]
 |i,d::r=>(if keep.contains i then d else .an)::im keep (i+1) r
theorem wj{L:Lk}(keep:yL Nat):∀(l:yL TD)(k:Nat),TD.aG L (im keep k l)=aI keep k (TD.aG L l)
 |[],_=>rfl
 |d::r,k=>by
  rw[im,TD.aG,TD.aG,aI,wj keep r];split <;> rfl
theorem ZtW(keep:yL Nat):∀(l:yL TD)(k t:Nat),keep.contains (k+t)=ae->(im keep k l).getD t .an=l.getD t .an
 |[],_,_,_=>rfl
 |d::r,k,0,h=>by
  have f:keep.contains k=ae:=h
  simp only[im,f,if_true,List.getD_cons_zero]
 |d::r,k,t+1,h=>by
  simp only[im,List.getD_cons_succ];exact ZtW keep r (k+1) t (by rw[show k+1+t=k+(t+1) by omega];exact h)
mutual
def Pl.bq:Pl->Pl->Bool
 |.int k n,.int l m=>ag (k=l)&&ag (n=m)
 |.bool a,.bool b=>a==b
 |.str a,.str b=>ag (a=b)
 |.bW,.bW=>ae
 |.fn0,.fn0=>ae
 |.eE,.eE=>ae
 |.cB,.cB=>ae
 |.gq f,.gq g=>Nat.beq f g
 |.agg h,.agg j=>Pl.cw h j
 |.arr n s h,.arr m u j=>Nat.beq n m&&Nat.beq s u&&Pl.cw h j
 |.sl a s h,.sl b u j=>a==b&&Nat.beq s u&&Pl.cw h j
 |.iface t x,.iface u y=>Nat.beq t u&&Pl.bq x y
 |_,_=>af
def Pl.cw:yL Pl->yL Pl->Bool
 |[],[]=>ae
 |x::r,y::q=>Pl.bq x y&&Pl.cw r q
 |_,_=>af
end
mutual
theorem Pl.cM:∀(a b:Pl),Pl.bq a b=ae->a=b
 |.int k n,b,h=>by cases b <;> simp_all[Pl.bq]
 |.bool k,b,h=>by cases b <;> simp_all[Pl.bq]
 |.str k,b,h=>by cases b <;> simp_all[Pl.bq]
 |.bW,b,h=>by cases b <;> simp_all[Pl.bq]
 |.fn0,b,h=>by cases b <;> simp_all[Pl.bq]
 |.eE,b,h=>by cases b <;> simp_all[Pl.bq]
 |.cB,b,h=>by cases b <;> simp_all[Pl.bq]
 |.gq f,b,h=>by cases b <;> simp_all[Pl.bq]
 |.agg g,b,h=>by cases b <;> simp_all[Pl.bq];exact Pl.bO _ _ h
 |.arr n s g,b,h=>by cases b <;> simp_all[Pl.bq];exact Pl.bO _ _ h.2
 |.sl n s g,b,h=>by cases b <;> simp_all[Pl.bq];exact Pl.bO _ _ h.2
 |.iface t x,b,h=>by cases b <;> simp_all[Pl.bq];exact Pl.cM _ _ h.2
theorem Pl.bO:∀(a b:yL Pl),Pl.cw a b=ae->a=b
 |[],[],_=>rfl
 |[],_::_,h=>by cases h
 |_::_,[],h=>by cases h
 |x::r,y::q,h=>by
  simp only[Pl.cw,yi]at h;rw[Pl.cM x y h.1,Pl.bO r q h.2]
end
def pz:yL Nat->yL Nat->Bool
 |[],[]=>ae
 |x::r,y::q=>Nat.beq x y&&pz r q
 |_,_=>af
theorem wl:∀(a b:yL Nat),pz a b=ae->a=b
 |[],[],_=>rfl
 |[],_::_,h=>by cases h
 |_::_,[],h=>by cases h
 |x::r,y::q,h=>by
  simp only[pz,yi]at h;rw[Nat.eq_of_beq_eq_true h.1,wl r q h.2]
mutual
def Dv.bq:Dv->Dv->Bool
 |.p x,.p y=>Pl.bq x y
 |.elem x,.elem y=>Pl.bq x y
 |.ak i o l,.ak j q m=>Nat.beq i j&&Nat.beq o q&&pz l m
 |.own i a s h,.own j b u z=>Nat.beq i j&&a==b&&Nat.beq s u&&Pl.cw h z
 |.view i o l a b c,.view I M G A E F=>Nat.beq i I&&Nat.beq o M&&pz l G&&Nat.beq a A&&Nat.beq b E&&Nat.beq c F
 |.agg h,.agg z=>Dv.cw h z
 |.arr n s h,.arr m u z=>Nat.beq n m&&Nat.beq s u&&Dv.cw h z
 |.fn f h,.fn g z=>Nat.beq f g&&Dv.cw h z
 |.iface t x,.iface u y=>Nat.beq t u&&Dv.bq x y
 |.bm h,.bm z=>Dv.cw h z
 |.mp i,.mp j=>Nat.beq i j
 |.rv a b c d e,.rv A E F Q R=>Nat.beq a A&&Nat.beq b E&&Nat.beq c F&&Nat.beq d Q&&Nat.beq e R
 |.aZ a b c l,.aZ A E F G=>Nat.beq a A&&Nat.beq b E&&Nat.beq c F&&pz l G
 |.an,.an=>ae
 |_,_=>af
def Dv.cw:yL Dv->yL Dv->Bool
 |[],[]=>ae
 |x::r,y::q=>Dv.bq x y&&Dv.cw r q
 |_,_=>af
end
theorem fJ{a b:Nat}(h:Nat.beq a b=ae):a=b:=Nat.eq_of_beq_eq_true h
mutual
theorem Dv.cM:∀(a b:Dv),Dv.bq a b=ae->a=b
 |.p x,b,h=>by
  cases b <;> simp only[Dv.bq,yce]at h
  rw[Pl.cM _ _ h]
 |.elem x,b,h=>by
  cases b <;> simp only[Dv.bq,yce]at h
  rw[Pl.cM _ _ h]
 |.ak i o l,b,h=>by
  cases b <;> simp only[Dv.bq,yce,yi]at h
  rw[fJ h.1.1,fJ h.1.2,wl _ _ h.2]
 |.own i a s g,b,h=>by
  cases b <;> simp only[Dv.bq,yce,yi,yT]at h
  rw[fJ h.1.1.1,h.1.1.2,fJ h.1.2,Pl.bO _ _ h.2]
 |.view i o l a k c,b,h=>by
  cases b <;> simp only[Dv.bq,yce,yi]at h
  rw[fJ h.1.1.1.1.1,fJ h.1.1.1.1.2,wl _ _ h.1.1.1.2,fJ h.1.1.2,fJ h.1.2,fJ h.2]
 |.agg g,b,h=>by
  cases b <;> simp only[Dv.bq,yce]at h
  rw[Dv.bO _ _ h]
 |.arr n s g,b,h=>by
  cases b <;> simp only[Dv.bq,yce,yi]at h
  rw[fJ h.1.1,fJ h.1.2,Dv.bO _ _ h.2]
 |.fn f g,b,h=>by
  cases b <;> simp only[Dv.bq,yce,yi]at h
  rw[fJ h.1,Dv.bO _ _ h.2]
 |.iface t x,b,h=>by
  cases b <;> simp only[Dv.bq,yce,yi]at h
  rw[fJ h.1,Dv.cM _ _ h.2]
 |.bm g,b,h=>by
  cases b <;> simp only[Dv.bq,yce]at h
  rw[Dv.bO _ _ h]
 |.mp i,b,h=>by
  cases b <;> simp only[Dv.bq,yce]at h
  rw[fJ h]
 |.rv a k c d e,b,h=>by
  cases b <;> simp only[Dv.bq,yce,yi]at h
  rw[fJ h.1.1.1.1,fJ h.1.1.1.2,fJ h.1.1.2,fJ h.1.2,fJ h.2]
 |.aZ a k c l,b,h=>by
  cases b <;> simp only[Dv.bq,yce,yi]at h
  rw[fJ h.1.1.1,fJ h.1.1.2,fJ h.1.2,wl _ _ h.2]
 |.an,b,h=>by
  cases b <;> simp only[Dv.bq,yce]at h;rfl
theorem Dv.bO:∀(a b:yL Dv),Dv.cw a b=ae->a=b
 |[],[],_=>rfl
 |[],_::_,h=>by cases h
 |_::_,[],h=>by cases h
 |x::r,y::q,h=>by
  simp only[Dv.cw,yi]at h;rw[Dv.cM x y h.1,Dv.bO r q h.2]
end
def aq.bq:yO aq->yO aq->Bool
 |some (.var d _),ab (.var e _)=>Dv.bq d e
 |_,_=>af
theorem aq.jM{a b:yO aq}(h:aq.bq a b=ae):dE a=dE b:=by
 unfold aq.bq at h;split at h
 .rw[Dv.cM _ _ h];rfl
 .cases h
structure TR where
 bP:Nat
 rd:Option Nat
 tc:Option (List Nat)
 n:Nat
 push:Bool
 loc:Bool
 m:Nat
 sm:Nat->Bool
 ex:Bool
def wm(P:yg)(o:yj)(ts:yL Dv)(hs:yL ao)(n id:Nat):Bool:=
 match o.guard,hs with
 |some (_,f),.b β::hs'=>if β=f then(match kp P o ts hs' with|some l=> !l.contains id&&ag (id < n)|none=>af) else af
 |_,_=>af
def wn(P:yg)(hi:HI)(aJ:Sp P)(ops:Array yj):yL yj->yL TD->yL ah->(yL TD->yL ah->yL TR->yL ao->yO O)->yO O
 |[],all,H,K=>K all H [] []
 |o::r,all,H,K=>gT P hi aJ ops o (im (looks ops o) 0 all) all H λa d H' hs c=>wn P hi aJ ops r (py a o.dst d) H' λf g rs hs'=>
   K f g (⟨c,qn P o (TD.aG (lk H) (im (looks ops o) 0 all)),kT P o (TD.aG (lk H) (im (looks ops o) 0 all)) hs,H.length,je o hs H.length,kS o hs,H'.length,λid=>(c==3) || wm P o (TD.aG (lk H) (im (looks ops o) 0 all)) hs H.length id || aq.bq ((aK H')[id]?) ((aK H)[id]?),kq o⟩::rs) (hs++hs')
def jN(R:Rec)(r:TR):Prop:=R.bP<=r.bP/\(R.rd=r.rd/\R.ex=r.ex)/\(∀l,r.tc=ab l->R.tc=ab l)/\R.H.length=r.n/\(r.push=ae->R.push=ae)/\(r.loc=ae->R.loc=ae)/\R.H'.length=r.m/\∀id,r.sm id=ae->dE (R.H'[id]?)=dE (R.H[id]?)
inductive dx:List Rec->List TR->Prop where
 |nil:dx [] []
 |cons {R:Rec} {r:TR} {Rs:List Rec} {rs:List TR} (h:jN R r) (k:dx Rs rs):dx (R::Rs) (r::rs)
theorem Zq1{ts:yL Dv}{hs yK:yL ao}{l:yL Nat}(h:kp P o ts hs=ab l):kp P o ts (hs++yK)=ab l:=by
 unfold kp at h ⊢;split at h <;> first|exact h|skip
 all_goals grind
theorem ZHY{ts:yL Dv}{hs yK:yL ao}{l:yL Nat}(h:kT P o ts hs=ab l):kT P o ts (hs++yK)=ab l:=by
 unfold kT at h ⊢;split at h
 .rename_i f;rw[yW f];exact Zq1 h
 .cases h
theorem ZFd{hs yK:yL ao}(h:kS o hs=ae):kS o (hs++yK)=ae:=by
 unfold kS at h ⊢
 all_goals grind
theorem ZCU{hs yK:yL ao}{n:Nat}(h:je o hs n=ae):je o (hs++yK) n=ae:=by
 unfold je at h ⊢
 all_goals grind
theorem ZHZ{ops:Array yj}{ts:yL Dv}{H:yL aq}{hs yK:yL ao}{C:yL Prop}{d:Dv}{H':yL aq}{g:yL ao}{id:Nat}(h:dh P ops o ts H (hs++yK)=ab (C,d,H',g))(ht:wm P o ts hs H.length id=ae):dE (H'[id]?)=dE (H[id]?):=by
 unfold wm at ht;split at ht
 .rename_i j m β hs' A;split at ht
  .rename_i E;split at ht
   .rename_i l F;rw[yi]at ht;have G:id < H.length:=by simpa using ht.2
    have I:l.contains id=af:=by simpa using ht.1
    rw[yaf]at h;unfold dh at h;rw[A]at h;dsimp only at h;split at h
    .rename_i R S y T M;cases M;rw[yW E,yv]at h;obtain⟨⟨C1,d1,H1,Q⟩,f,z⟩:=h;simp only[yq]at z;obtain⟨_,_,rfl,_⟩:=z;unfold cC at f;split at f
     .cases f;rfl
     .split at f
      .cases f;rfl
      .exact UH f (Zq1 F) G I
    all_goals grind
   .cases ht
  .cases ht
 .cases ht
theorem Zq2{hi:HI}{aJ:Sp P}{ops:Array yj}(ok:eK aJ):∀(l:yL yj)(all:yL TD)(H:yL ah)(K:yL TD->yL ah->yL TR->yL ao->yO O),wn P hi aJ ops l all H K=ab out->
 ∃a h rs hs C,K a h rs hs=ab out/\a.length=all.length/\aX C/\∀yK,∃RS,ni P ops l (TD.aG (lk H) all) (aK H) (hs++yK)=ab (C,RS,TD.aG (lk h) a,aK h,yK)/\dx RS rs
 |[],all,H,K,h=>⟨all,H,[],[],[],h,rfl,zP,λ_=>⟨[],rfl,.nil⟩⟩
 |o::r,all,H,K,h=>by
  unfold wn at h
  have m:∀j f t,o.guard=ab (j,f)->HK ops j=ab t->(im (looks ops o) 0 all).getD t .an=all.getD t .an:=by
   intro j f t A hs;refine ZtW _ _ _ _ ?_;rw[yar];unfold looks;rw[A];dsimp only;rw[show(ops[j]?).bind (·.dst)=ab t from hs]
   simp
  obtain⟨a,d,H',hs,c,E,g⟩:=ZBo ok m h;obtain⟨F,G,rs,hs',C',I,M,Q,R⟩:=Zq2 ok r _ _ _ E;obtain⟨C,S,z⟩:=g.op;refine⟨F,G,_,_,C++C',I,by rw[M,ZtU,g.len],Zl.2 ⟨S,Q⟩,λyK=> ?_⟩;obtain⟨RS,T,U⟩:=R yK;unfold ni;rw[<-wj,yac,z (hs'++yK)];dsimp only;rw[<-g.same, <-ZxX,T]
  refine⟨_,rfl,.cons ⟨g.bP _,⟨rfl,rfl⟩,λl y=> ?_,ZW _,λW=>by rw[ZW];exact ZCU W,λy=>ZFd y,ZW _,λid hs=>by
   have hs:(c==3 || wm P o (TD.aG (lk H) (im (looks ops o) 0 all)) _ H.length id || aq.bq ((aK H')[id]?) ((aK H)[id]?))=ae:=hs;rw[yck,yck]at hs;rcases hs with(h5|h5)|h5
   .rw[g.sam (by simpa using h5)]
   .exact ZHZ (z []) (by rw[ZW];exact h5)
   .exact aq.jM h5⟩ U⟩
  exact ZHY y
def wo(ops:Array yj)(f:yL Nat)(free comm:Nat->Nat->Bool):Bool:=
 let l:=ops.toList;let A:=AP l;let n:=l.length
 (f.length==n)&&Qz l 0&&
 ((yo n).all λi=>match l[i]? with|some o=>A.getD i 0==nj A i o|none=>ae)&&
 ((yo n).all λi=>(yo n).all λj=>i==j || aT l i==ad || !(aT l i==aT l j))&&
 ((yo n).all λi=>match l[i]? with
   |some o=>let k:=looks ops o
    (yo n).all λj=>match aT l j with
      |some t=>i==j || !(k.contains t) || (if j < i then(A.getD i 0).testBit j else(A.getD j 0).testBit i)
      |none=>ae
   |none=>ae)&&
 ((yo n).all λi=>f.getD i 0==0 || (yo n).all λj=>i==j || decide (f.getD j 0 < 2) || (if j < i then(A.getD i 0).testBit j else(A.getD j 0).testBit i) || (ag (f.getD i 0<=1)&&free i j) || comm i j)
def HN(rs:yL TR)(i j:Nat):Bool:=
 match rs[i]?,rs[j]? with
 |some r,ab q=>match r.rd with
  |some id=>ag (id < q.n)&&ag (id < r.n)&&(if r.ex=ae then q.push else((match q.tc with|some l=> !l.contains id|none=>af) || q.sm id))
  |none=>af
 |_,_=>af
def cT(rs:yL TR)(c:Nat)(r:TR):Bool:=r.loc || (r.push&&r.m==r.n+1&&(rs.take c).all λq=>ag (q.n<=r.n))
def cI(rs:yL TR):Nat:=match rs.findIdx? (λr=>r.loc&&r.bP==2) with
 |some c=>c
 |none=>match rs.findIdx? (λr=>r.loc&&r.bP==3) with
  |some c=>c
  |none=>(rs.findIdx? (λr=>r.push)).getD 0
def wq(rs:yL TR)(i j:Nat):Bool:=
 let c:=cI rs
 ((rs[c]?).map (cT rs c)).getD af&&((i==c&&ag (c < j)&&((rs[j]?).map (·.push)).getD af) || (j==c&&ag (c < i)&&((rs[i]?).map (·.push)).getD af))
theorem HO{RS:yL Rec}{rs:yL TR}(h:dx RS rs):RS.length=rs.length:=by
 induction h with
 |nil=>rfl
 |cons _ _ f=>simp[f]
theorem sn{RS:yL Rec}{rs:yL TR}(h:dx RS rs):∀{i:Nat}{r:TR},rs[i]? =ab r->∃R,RS[i]? =ab R/\jN R r:=by
 induction h with
 |nil=>intro i r h;simp at h
 |cons h k g=>
  intro i r f
  cases i with
  |zero=>cases f;exact⟨_,rfl,h⟩
  |succ i=>exact g f
theorem ZCV{RS:yL Rec}{rs:yL TR}(h:dx RS rs):∀{i:Nat}{R:Rec},RS[i]? =ab R->∃r,rs[i]? =ab r/\jN R r:=by
 induction h with
 |nil=>intro i r h;simp at h
 |cons h k g=>
  intro i r f
  cases i with
  |zero=>cases f;exact⟨_,rfl,h⟩
  |succ i=>exact g f
theorem ZxY{RS:yL Rec}{rs:yL TR}(h:dx RS rs)(i:Nat):(RS.map (·.bP)).getD i 0<=(rs.map (·.bP)).getD i 0:=by
 simp only[ycx,yao]
 cases f:rs[i]? with
 |none=>
  have:RS[i]? =ad:=by rw[List.getElem?_eq_none_iff]at f ⊢;rw[HO h];exact f
  rw[this]
  exact yl _
 |some r=>
  obtain⟨R,e,k⟩:=sn h f;rw[e];exact k.1
theorem ZH0{ops:Array yj}{RS:yL Rec}{rs:yL TR}(h:dx RS rs)(k:wo ops (rs.map (·.bP)) (HN rs) (wq rs)=ae)(hn:rs.length=ops.size):uu ops RS=ae:=by
 unfold wo at k;unfold uu;simp only[yi]at k ⊢;obtain⟨⟨⟨⟨⟨k1,k2⟩,k3⟩,k4⟩,k5⟩,k6⟩:=k;refine⟨⟨⟨⟨⟨?_,k2⟩,k3⟩,k4⟩,k5⟩, ?_⟩
 .simpa[HO h] using k1
 .have I:∃c,c∈yo (ops.toList.length+1)/\∀i j,wq rs i j=ae->ku RS c i j=ae:=by
   have A:∀(k:Nat),((rs[k]?).map (·.push)).getD af=ae->((RS[k]?).map (·.push)).getD af=ae:=by
    intro k z
    cases y:rs[k]? with
    |none=>rw[y]at z;cases z
    |some r=>
     obtain⟨R,F,f⟩:=sn h y;rw[y]at z;rw[F];exact f.2.2.2.2.1 z
   refine⟨if cI rs < rs.length then cI rs else 0, ?_,λi j g=> ?_⟩
   .all_goals grind
   .unfold wq at g;dsimp only at g;generalize cI rs=c at g ⊢;rw[yi]at g;obtain⟨h1,h2⟩:=g
    cases y:rs[c]? with
    |none=>rw[y]at h1;cases h1
    |some r=>
     have M:=(yu.1 y).1;rw[yW M];obtain⟨R,F,f⟩:=sn h y;rw[y]at h1;unfold ku;rw[yi];refine⟨?_, ?_⟩
     .rw[F];show ur RS c R=ae;have h1:cT rs c r=ae:=h1;unfold cT at h1;unfold ur;rw[yck]at h1 ⊢;rcases h1 with h1|h1
      .exact .inl (f.2.2.2.2.2.1 h1)
      .simp only[yi,yT,yal,yP]at h1 ⊢;obtain⟨⟨b1,b2⟩,b3⟩:=h1;refine .inr ⟨⟨f.2.2.2.2.1 b1,by rw[f.2.2.2.2.2.2.1,f.2.2.2.1];exact b2⟩,λq S=> ?_⟩;obtain⟨k,z⟩:=List.mem_iff_getElem?.1 S;rw[List.getElem?_take]at z;split at z
       .rename_i T;obtain⟨q2,f1,f2⟩:=ZCV h z;rw[f2.2.2.2.1,f.2.2.2.1];refine b3 q2 (List.mem_iff_getElem?.2 ⟨k, ?_⟩);rw[List.getElem?_take,yW T];exact f1
       .cases z
     .simp only[yck,yi]at h2 ⊢;rcases h2 with⟨⟨U,W⟩,X⟩|⟨⟨U,W⟩,X⟩
      .exact .inl ⟨⟨U,W⟩,A _ X⟩
      .exact .inr ⟨⟨U,W⟩,A _ X⟩
  obtain⟨c,Y,Z⟩:=I;rw[List.any_eq_true];refine⟨c,Y, ?_⟩;rw[yal]at k6 ⊢;intro i hi;have:=k6 i hi;have hc:=ZxY h i;simp only[yck]at this ⊢;rcases this with h0|h1
  .grind
  .by_cases hz:(RS.map (·.bP)).getD i 0=0
   .grind
   .right;rw[yal]at h1 ⊢;intro j hj;have h2:=h1 j hj;have hd:=ZxY h j;simp only[yck,yi,yP]at h2 ⊢;rcases h2 with(((h2|h2)|h2)|h2)|h2
    .grind
    .grind
    .grind
    .refine .inl (.inr ⟨?_, ?_⟩)
     .grind
     .have E:=h2.2;unfold HN at E;unfold lV;split at E
      .rename_i r q y S;obtain⟨R,F,f⟩:=sn h y;obtain⟨Q,e3,e4⟩:=sn h S;rw[F,e3];dsimp only;split at E
       .rename_i id hrd;rw[f.2.1.1,hrd];dsimp only;rw[e4.2.2.2.1,f.2.2.2.1];rw[yi]at E ⊢;refine⟨E.1, ?_⟩;have m:=E.2;rw[f.2.1.2];by_cases G:r.ex=ae
        .rw[yW G]at m ⊢;exact e4.2.2.2.2.1 m
        rw[yX G]at m ⊢;rw[yck]at m ⊢;rcases m with h5|h5
        .left;split at h5
         .rename_i l htc;rw[e4.2.2.1 l htc];exact h5
         .cases h5
        .right;exact@decide_eq_true _ (Classical.propDecidable _) (e4.2.2.2.2.2.2.2 id h5)
       .cases E
      .cases E
    .exact .inr (Z i j h2)
def so:ah->ah
 |.var d _=>.var d af
 |e=>e
def pA(ids:yL Nat)(H:yL ah):yL ah:=(yo H.length).zipWith (λi e=>if ids.contains i then so e else e) H
theorem ZH1(e:ah):eP (ab (so e))=eP (ab e):=by cases e <;> rfl
theorem Zq4(ids:yL Nat)(H:yL ah)(i:Nat):(pA ids H)[i]? =(H[i]?).map λe=>if ids.contains i then so e else e:=by
 unfold pA
 all_goals grind
theorem ZtY(ids:yL Nat)(H:yL ah):lk (pA ids H)=lk H:=by
 funext i;unfold lk;rw[Zq4]
 cases H[i]? with
 |none=>rfl
 |some e=>
  show eP (ab (if ids.contains i=ae then so e else e))=_
  split
  .exact ZH1 e
  .rfl
theorem ZCW(ids:yL Nat)(H:yL ah):bX (aK H) (aK (pA ids H)):=by
 refine ZE3 (by rw[ZW,ZW];unfold pA;simp) λi a b f g=> ?_;unfold aK at f g;rw[yao]at f g;rw[ZtY,Zq4]at g
 cases h:H[i]? with
 |none=>rw[h]at f;cases f
 |some e=>
  rw[h]at f g;cases f;cases g;show eN (e.er (lk H)) (ah.er (lk H) (if ids.contains i=ae then so e else e))
  split
  .cases e <;> first|exact .refl _|exact .eC
  .exact .refl _
theorem ZFg{c:Code}{ts ts1:yL Dv}{H0 H1 H2:yL aq}{ex:Ex}(h:bX H0 H1)(r:Xn P c ts H1 ex ts1 H2):Xn P c ts H0 ex ts1 H2:=by
 intro J a g j l;obtain⟨to,f⟩:=la g (H':=H1) (by rw[j];exact h);refine wp_mono (r { J with H:=H1} a f rfl (l.to to.leaf)) ?_;rintro e F G ⟨rfl,J2,m,y,z,A,E⟩;exact⟨rfl,J2,m,y,to.trans z,A,E⟩
def ZFh(ops:yL yj)(all:yL TD):Nat->Tmp->yO Nat
 |0,_=>ad
 |n+1,x=>match ops.find? λo=>o.dst==ab x with
  |some o=>match o.op with
   |.fieldAddr _ (.tmp y) _=>ZFh ops all n y
   |_=>ad
  |none=>match all.getD x .an with
   |.ak id _=>ab id
   |_=>ad
def ZLy(hi:HI)(ops:yL yj)(all:yL TD)(o:yj):yO Nat:=
 match o.op with
 |.slice _ (.tmp x) _ _ ad=>if iJ hi.eC o.dst then ZFh ops all 4 x else ad
 |_=>ad
def sq(hi:HI)(ops:Array yj)(all:yL TD)(H:yL ah):yL ah:=
 match hi.eC with
 |[]=>H
 |_=>match ops.toList.filterMap (ZLy hi ops.toList all) with
  |[]=>H
  |ids=>pA ids H
theorem ZCX(hi:HI)(ops:Array yj)(all:yL TD)(H:yL ah):bX (aK H) (aK (sq hi ops all H))/\lk (sq hi ops all H)=lk H:=by
 unfold sq;split
 .exact⟨bX.refl _,rfl⟩
 .split
  .exact⟨bX.refl _,rfl⟩
  .exact⟨ZCW _ _,ZtY _ _⟩
def HP(P:yg)(hi:HI)(aJ:Sp P)(ops:Array yj)(all:yL TD)(H:yL ah)(K:yL TD->yL ah->yO O):yO O:=
 if P.follows .mixedOrders then wn P hi aJ ops ops.toList all (sq hi ops all H) λa h rs _=>if wo ops (rs.map (·.bP)) (HN rs) (wq rs)=ae then K a h else ad else ad
theorem ZCY{hi:HI}{aJ:Sp P}{ops:Array yj}{K:yL TD->yL ah->yO O}(ok:eK aJ)(h:HP P hi aJ ops all H K=ab out):∃a h,K a h=ab out/\a.length=all.length/\∀id,Xn P (.region id ops ae) (TD.aG (lk H) all) (aK H) .normal (TD.aG (lk h) a) (aK h):=by
 unfold HP at h;split at h
 .rename_i m;obtain⟨w1,g⟩:=ZCX hi ops all H;generalize sq hi ops all H=H0 at h w1 g;obtain⟨a,y,rs,hs,C,z,A,E,F⟩:=Zq2 ok _ _ _ _ h;obtain⟨f,G⟩:=Za z;refine⟨a,y,G,A,λid=> ?_⟩;obtain⟨RS,j,l⟩:=F [];rw[<-g];refine ZFg w1 (qT (hs:=hs) (hs':=[]) (C:=C) ?_ E);simp only[ev,if_true];unfold uv;rw[yW m];rw[ybf]at j;rw[j];dsimp only;rw[yW (ZH0 l f (by have:=HO l;unfold wo at f;simp only[yi]at f;simpa using f.1.1.1.1.1))];rfl
 .cases h
theorem ZCZ{hi:HI}{aJ:Sp P}{ops:Array yj}{K:yL TD->yL ah->yL ao->yO O}(ok:eK aJ)(h:sk P hi aJ ops ops.toList all H K=ab out):∃a h hs,K a h hs=ab out/\a.length=all.length/\∀id,Xn P (.region id ops af) (TD.aG (lk H) all) (aK H) .normal (TD.aG (lk h) a) (aK h):=by
 obtain⟨a,f,hs,C,g,j,l,m⟩:=ZtV ok _ _ _ _ h;refine⟨a,f,hs,g,j,λid=> ?_⟩;refine qT (hs:=hs) (hs':=[]) (C:=C) ?_ l;have:=m [];rw[ybf]at this;simp only[ev,yce,if_false,this];rfl
end
end Go.Ev
end
section
namespace Go.Ev
def We(H H':yL aq):Prop:=∀J:Sg,Ok J->J.H=H->∃J':Sg,J'.w=J.w/\J'.H=H'/\To J J'/\Ok J'
theorem We.refl(H:yL aq):We H H:=λJ f h=>⟨J,rfl,h,To.refl J,f⟩
theorem We.trans{A B C:yL aq}(h:We A B)(k:We B C):We A C:=λJ f e=>by
 obtain⟨J1,g,j,l,m⟩:=h J f e;obtain⟨J2,y,z,E,F⟩:=k J1 m j;exact⟨J2,y.trans g,z,l.trans E,F⟩
theorem pB{H H':yL aq}(h:bX H H'):We H H':=λJ f e=>by
 subst e;obtain⟨to,g⟩:=la f h;grind
theorem ZH2{P:yg}{c:Code}{ts ts1 f:yL Dv}{H H1 H2:yL aq}{ex:Ex}(h:We H H1/\∀(J:Sg)(a:Act),aC J ts a->aC J ts1 a)(r:Xn P c ts1 H1 ex f H2):Xn P c ts H ex f H2:=by
 intro J a j l m;obtain⟨J1,y,z,g,e4⟩:=h.1 J j l;have:=r J1 a e4 z (h.2 _ _ (m.to g.leaf));rw[y]at this;refine wp_mono this ?_;rintro M Q R ⟨rfl,J2,A,E,F,G,I⟩;exact⟨rfl,J2,A,E,g.trans F,G,I⟩
theorem ZFi{H:yL aq}{j:Nat}{x f y:aq}(Z:H[j]? =ab x)
 (hy:∀J:Sg,dG J ad y)
 (l:(∃d st,x=.var d st)->∃d st,f=.var d st) (z:(∃t bR,x=.map t bR)->∃t bR,f=.map t bR) (A:∀s e xs,x≠ .log s e xs)
 (E:∀o,x.bv o->f.bv o)
 (F:∀v s st e d,x=.row v s st e d->∃g d',f=.row v s g e d')
 (G:∀(J:Sg)(mi:yO Nat),J.H[H.length]? =ab y->J.m[H.length]? =ab ad->dG J mi x->dG J mi f):We H ((H++[y]).set j f):=by
 intro J S hH;subst hH;have T:j < J.H.length:=(yu.1 Z).1;obtain⟨U,I⟩:=Wv (J':={ J with m:=J.m++[ad],H:=J.H++[y]}) S rfl rfl rfl rfl (World.grownBy.refl J.w ad) (.inl rfl) (λ_=>hy _);obtain⟨mi,hm⟩:∃mi,J.m[j]? =ab mi:=⟨_,yab (by rw[S.len];exact T)⟩;let J1:Sg:={ J with m:=J.m++[ad],H:=J.H++[y]};let J2:Sg:={ J1 with m:=J1.m.set j mi,H:=J1.H.set j f}
 have M:J1.H[j]? =ab x:=by
  grind
 have Q:J1.m[j]? =ab mi:=by
  grind
 have hx:=I.dD j x mi M Q
 obtain⟨W,X⟩:=YF (J':=J2) (mi:=mi) (mi':=mi) I M Q rfl rfl rfl rfl rfl rfl rfl (yl _)
  (λ_ _ _=>rfl) (λ_ _ _ _ _ h=>h) (λo _ hu=>E o hu) (.inl rfl) (λq=>⟨rfl,l q⟩) (λq=>⟨rfl,z q⟩) (λs e xs q=>absurd q (A s e xs))
  (λR=>by
    refine G J2 mi ?_ ?_ (nu R (λb _=>rfl) hx)
    .show(J1.H.set j _)[J.H.length]? =_;rw[List.getElem?_set,yX (by omega)];simp[J1]
    .show(J1.m.set j _)[J.H.length]? =_;rw[List.getElem?_set,yX (by omega)];show(J.m++[ad])[J.H.length]? =_;rw[yaq (by rw[S.len];exact yl _),S.len];simp)
  (λv s st e d q=>by
    obtain⟨g,d',q'⟩:=F v s st e d q;exact⟨v,g,d',q',yl _,λ_=>⟨rfl,λb Y _ hc=>⟨Y,hc,rfl⟩⟩⟩)
 exact⟨J2,rfl,rfl,U.trans W,X⟩
theorem Zt0{J:Sg}{s:Nat}{a:yL yh}(h:yH J (.p (.sl (ab af) s [])) a):a=[.slice ad 0 0]:=by
 simp only[yH,aA]at h;obtain⟨_,A,c,rfl,w1,g,f,j,l⟩:=h
 have m:A=ad:=by
  have:=f af rfl;simp_all
 grind
theorem ZBs{H:yL aq}{j s:Nat}{e:yc}{d d':Dv}{st:Bool}{yQ:yL Nat}(l:H[j]? =ab (.var d st))(g:Xk d yQ s (.rv H.length 0 s 0 0)=ab d'):
 We H ((H++[aq.row 0 s ae e (.p (.arr 0 s []))]).set j (.var d' st)):=by
 have f:=qN yQ d d' s _ rfl g;refine ZFi l (λJ=>⟨0,by simp[aR],.inl ⟨rfl,rfl⟩⟩) (λ_=>⟨_,_,rfl⟩) (λ⟨_,_,q⟩=>by cases q) (λ_ _ _ q=>by cases q) (λo m=>m) (λ_ _ _ _ _ q=>by cases q) ?_;rintro J M y z ⟨b,A,t,rfl,E,F,G⟩;refine⟨b,A,t,rfl,E, ?_,by rw[f];exact G⟩;rw[f];refine qO yQ d d' s _ (λa I=> ?_) g _ F;have:=Zt0 I;subst this;simp only[yH];exact⟨ad,0,rfl,yl _,by simp[maxLen],λ_=>rfl,λh=>absurd h (Nat.lt_irrefl 0),0,s,ae,e,_,y,yl _,λ_=>⟨rfl,.inl ⟨z,rfl,rfl⟩⟩⟩
theorem ZFj{H:yL aq}{j s f v N:Nat}{st:Bool}{e G:yc}{xs:yL Pl}{k:Nat}{x:Pl}{y:Dv}{yQ:yL Nat}(R:H[j]? =ab (.row v s st e (.p (.arr N s xs))))(g:xs[k]? =ab x)
 (I:Xk (.p x) yQ f (.own H.length ad f [])=ab y):We H ((H++[aq.log f G []]).set j (.row v s st e (.arr N s ((xs.map .p).set k y)))):=by
 have l:=qN yQ (.p x) y f _ rfl I;refine ZFi R (λJ=>.inl ⟨rfl,rfl⟩) (λ⟨_,_,q⟩=>by cases q) (λ⟨_,_,q⟩=>by cases q) (λ_ _ _ q=>by cases q) (λo S=> ?_) (λv2 s2 T e2 d2 q=>by cases q;exact⟨_,_,rfl⟩) ?_
 .obtain⟨U,N',W,X⟩:=S;exact⟨U,N',by rw[<-W];simp[aR],X⟩
 rintro J mi Y Z ⟨N',q1,m⟩;refine⟨N',by rw[<-q1];simp[aR], ?_⟩;rcases m with m|⟨b,A,E,e3,e4,e5,e6,e7,M⟩
 .exact .inl m
 refine .inr ⟨b,A,E,e3,e4,e5,e6,e7, ?_⟩;have hk:(xs.map Dv.p)[k]? =ab (.p x):=by rw[yao,g];rfl
 simp only[yH,aA]at M ⊢;obtain⟨r1,Q,r3⟩:=M;refine⟨by simpa using r1,λz hz=> ?_, ?_⟩
 .rcases List.mem_or_eq_of_mem_set hz with hz|hz
  .obtain⟨w,hw,rfl⟩:=List.mem_map.1 hz;exact Q w hw
  .subst hz;rw[l];exact Q x (ybj g)
 .refine uS (x:=.p x) (y:=y) (λa F=>qO yQ (.p x) y f _ (λa F=> ?_) I a F) _ k _ hk (jw.2 r3);have:=Zt0 F;subst this;simp only[yH];exact⟨λ_ g=>(by cases g),ad,0,rfl,yl _,by simp[maxLen],Yg _,λ_=>rfl,λh=>absurd rfl h,G,[],Y,yl _,λ_=>.inl ⟨Z,rfl,rfl⟩⟩
theorem ZH3{H:yL aq}{j:Nat}{d d':Dv}{st:Bool}(y:H[j]? =ab (.var d st))(hsz:d'.size=d.size)(hd:∀J:Sg,Ok J->J.H=H->∀us,yH J d us->yH J d' us):We H (H.set j (.var d' st)):=by
 intro J g E;subst E;have z:j < J.H.length:=(yu.1 y).1;obtain⟨l,A⟩:∃l,J.m[j]? =ab l:=⟨_,yab (by rw[g.len];exact z)⟩;let J2:Sg:={ J with m:=J.m.set j l,H:=J.H.set j (.var d' st)};obtain⟨b,F,t,rfl,G,I,M⟩:=g.dD j _ l y A;have Q:=hd J g rfl _ I
 obtain⟨R,S⟩:=YF (J':=J2) (mi:=ab b) (mi':=ab b) g y A rfl rfl rfl rfl rfl rfl rfl (yl _)
  (λ_ _ _=>rfl) (λ_ _ _ _ _ h=>h) (λo _ T=>T) (.inl rfl) (λq=>⟨rfl,_,_,rfl⟩) (λ⟨_,_,q⟩=>by cases q) (λs e U q=>by cases q)
  (λf=>⟨b,F,t,rfl,G,by rw[hsz];exact Z9 f _ _ Q,by rw[hsz];exact M⟩)
  (λv s st e d q=>by cases q)
 grind
def wr{α O:Type}(l:yL α)(f:α->yL α->yO O):yO O:=match l with
 |x::r=>f x r
 |[]=>ad
inductive kG where
 |rows (t:Tmp) (yQ:List Nat) (T:Ty) (e:yc) (np:List Nat)
 |focus (t:Tmp) (U:Ty) (e:yc)
 |done (t:Tmp)
 |fresh (t:Tmp) (i:Nat)
 |cL (t:Tmp) (yQ:List Nat) (T:Ty) (e:yc)
 |gY (t:Tmp)
 |gZ (t:Tmp)
 |fU (t:Tmp) (i:Nat)
 |any (t:Tmp) (i:Nat) (T:Ty)
 |dI (t:Tmp)
 |split (t:Tmp) (ks:List Nat)
 |hole
 |flat (t:Tmp)
def ZFk:ah->Bool
 |.aR _ _ _ ae _ _ _=>ae
 |_=>af
section
variable{O:Type}{out:O}
abbrev Kh(O:Type):=yL TD->yL ah->yO O
def HQ(t:Tmp)(yQ:yL Nat)(T:Ty)(e:yc)(f:yL Nat)(a:yL TD)(h:yL ah)(K:Kh O):yO O:=
 match a[t]? with
 |some (.ak id [])=>match h[id]? with
  |some (.var d ae)=>(jI T (.rw h.length) yQ d).bind λg=>if(TD.frees h.length a&&h.all (ah.free h.length))=ae then K a ((h++[ah.aR T f [] ae e [] []]).set id (.var g ae)) else ad
  |_=>ad
 |_=>ad
def HR(t:Tmp)(yQ:yL Nat)(T:Ty)(e:yc)(a:yL TD)(h:yL ah)(K:Kh O):yO O:=
 match a[t]? with
 |some (.ak id [])=>match h[id]? with
  |some (.var d ae)=>(jI T (.rw h.length) yQ d).bind λf=>if(TD.frees h.length a&&h.all (ah.free h.length))=ae then K a ((h++[ah.aY T [] ae e []]).set id (.var f ae)) else ad
  |_=>ad
 |_=>ad
def HT(t:Tmp)(U:Ty)(e:yc)(a:yL TD)(h:yL ah)(K:Kh O):yO O:=
 let j:=h.findIdx ZFk
 match h[j]?,((a[t]?).bind TD.num) with
 |some (.aR T l v ae m f g),ab i=>if(TD.frees h.length a&&h.all (ah.free h.length))=ae then if ag (i.n=(f.length:Int))=ae then wr g λx r=>
   (jI U (.own h.length ad U ad) l (.p (Wb l (.v T x)))).bind λd=>K a ((h++[ah.log U e []]).set j (.bL T l v ae m f d r)) else ad else ad
 |_,_=>ad
def ss(h:yL ah):TD->yO (TD×yL Nat)
 |.rw j=>match h[j]? with
  |some (.aR T _ _ _ _ f [])=>ab (.p (.sl ad T f),[j])
  |some (.aY T _ _ _ l)=>ab (.p (.sl ad T l),[j])
  |_=>ad
 |d=>ab (d,[])
def HU(h:yL ah):TD->(TD->yL Nat->yO O)->yO O
 |.rw j,K=>match h[j]? with
  |some (.aR T _ _ _ _ g f)=>if f.isEmpty=ae then K (.p (.sl ad T g)) [j] else ad
  |some (.aY T _ _ _ l)=>K (.p (.sl ad T l)) [j]
  |_=>ad
 |d,K=>K d []
theorem Zz8{h:yL ah}{d:TD}{K:TD->yL Nat->yO O}(k:HU h d K=ab out):∃q,ss h d=ab q/\K q.1 q.2=ab out:=by
 unfold HU at k;unfold ss;split at k
 .rename_i j;dsimp only;split at k
  all_goals simp_all
 simp_all
def HV(h:yL ah):yL TD->(yL TD->yL Nat->yO O)->yO O
 |[],K=>K [] []
 |d::r,K=>HU h d λx l=>HV h r λy m=>K (x::y) (l++m)
def su(h:yL ah):yL TD->yO (yL TD×yL Nat)
 |[]=>ab ([],[])
 |d::r=>match ss h d,su h r with
  |some q,ab w=>ab (q.1::w.1,q.2++w.2)
  |_,_=>ad
theorem ZoF{h:yL ah}:∀{f:yL TD}{K:yL TD->yL Nat->yO O},HV h f K=ab out->∃q,su h f=ab q/\K q.1 q.2=ab out
 |[],K,k=>⟨_,rfl,k⟩
 |d::r,K,k=>by
  obtain⟨q,g,k⟩:=Zz8 k;obtain⟨w,j,k⟩:=ZoF k;exact⟨(q.1::w.1,q.2++w.2),by simp only[su,g,j],k⟩
def jO:ah->ah
 |.aR T f v _ e a b=>.aR T f v af e a b
 |.aY t v _ e l=>.aY t v af e l
 |e=>e
def iL(ids:yL Nat)(H:yL ah):yL ah:=(yo H.length).zipWith (λi e=>if ids.contains i then jO e else e) H
def sv(t:Tmp)(a:yL TD)(h:yL ah)(K:Kh O):yO O:=
 match a[t]? with
 |some (.ak id [])=>match h[id]? with
  |some (.var (.agg f) st)=>HV h f λx l=>K a ((iL l h).set id (.var (.agg x) st))
  |_=>ad
 |_=>ad
def wt(t:Tmp)(i:Nat)(a:yL TD)(h:yL ah)(K:Kh O):yO O:=
 match a[t]? with
 |some (.ak j [])=>match h[j]? with
  |some (.var (.agg f) st)=>match f[i]? with
   |some (.rv id v s 0 n)=>match h[id]? with
    |some (.aY T w _ _ l)=>if(ag (v=w.length)&&(ag (s=T.size)&&ag (n=l.length)))=ae then K a (h.set j (.var (.agg (f.set i (.rw id))) st)) else ad
    |_=>ad
   |_=>ad
  |_=>ad
 |_=>ad
def HW(t:Tmp)(a:yL TD)(h:yL ah)(K:Kh O):yO O:=
 match a[t]? with
 |some (.rv id v s 0 n)=>match h[id]? with
  |some (.aY T w _ _ l)=>if(ag (v=w.length)&&(ag (s=T.size)&&ag (n=l.length)))=ae then K (a.set t (.rw id)) h else ad
  |_=>ad
 |_=>ad
def HY(t:Tmp)(a:yL TD)(h:yL ah)(K:Kh O):yO O:=
 match a[t]? with
 |some (.ak j [])=>match h[j]? with
  |some (.var (.rv id v s 0 n) st)=>match h[id]? with
   |some (.aY T w _ _ l)=>if(ag (v=w.length)&&(ag (s=T.size)&&ag (n=l.length)))=ae then K a (h.set j (.var (.rw id) st)) else ad
   |_=>ad
  |_=>ad
 |_=>ad
def HZ(t:Tmp)(i:Nat)(T:Ty)(a:yL TD)(h:yL ah)(K:Kh O):yO O:=
 match a[t]? with
 |some (.ak j [])=>match h[j]? with
  |some (.var (.agg f) st)=>match f[i]? with
   |some (.p x)=>(TP.to jF x T).bind λy=>K a (h.set j (.var (.agg (f.set i (.p (.v T y)))) st))
   |_=>ad
  |some (.var (.p x) st)=>(TP.to jF x T).bind λy=>K a (h.set j (.var (.p (.v T y)) st))
  |_=>ad
 |_=>ad
def pC:TP->TD
 |.arr n s f=>.arr n s (f.map TD.p)
 |x=>.p x
def IA(t:Tmp)(a:yL TD)(h:yL ah)(K:Kh O):yO O:=
 match a[t]? with
 |some (.ak j [])=>match h[j]? with
  |some (.var (.p (.arr n s f)) st)=>K a (h.set j (.var (.arr n s (f.map TD.p)) st))
  |some (.var (.p (.agg f)) st)=>K a (h.set j (.var (.agg (f.map pC)) st))
  |_=>K a h
 |_=>K a h
def wu(z:Int)(t:Tmp)(a:yL TD)(h:yL ah)(K:Kh O):yL Nat->yO O
 |[]=>ad
 |n::r=>if(z==(n:Int))=ae then K (a.set t (.p (.v (.int .i64) (n:Int)))) h else wu z t a h K r
def IB(t:Tmp)(ks:yL Nat)(a:yL TD)(h:yL ah)(K:Kh O):yO O:=
 match a.getD t .an with
 |.p (.v (.int .i64) z)=>wu z t a h K ks
 |_=>ad
def ZKi(a:yL TD)(h:yL ah)(K:Kh O):yO O:=K a (h++[.gone])
def IC(t:Tmp)(a:yL TD)(h:yL ah)(K:Kh O):yO O:=
 match a[t]? with
 |some (.ak j [])=>match h[j]? with
  |some (.var d st)=>(d.flat (lk h)).bind λx=>K a (h.set j (.var (.p x) st))
  |_=>ad
 |_=>ad
def ghT:kG->yL TD->yL ah->Kh O->yO O
 |.rows t f T e g,a,h,K=>HQ t f T e g a h K
 |.focus t U e,a,h,K=>HT t U e a h K
 |.done t,a,h,K=>sv t a h K
 |.fresh t i,a,h,K=>wt t i a h K
 |.cL t f T e,a,h,K=>HR t f T e a h K
 |.gY t,a,h,K=>HW t a h K
 |.gZ t,a,h,K=>HY t a h K
 |.fU t i,a,h,K=>wt t i a h λa h=>sv t a h K
 |.any t i T,a,h,K=>HZ t i T a h K
 |.dI t,a,h,K=>IA t a h K
 |.split t ks,a,h,K=>IB t ks a h K
 |.hole,a,h,K=>ZKi a h K
 |.flat t,a,h,K=>IC t a h K
def ID(g:yO kG)(a:yL TD)(h:yL ah)(K:Kh O):yO O:=
 match g with
 |none=>K a h
 |some g=>ghT g a h K
theorem IE{H:yL ah}{e:ah}(h:H.all (ah.free H.length)=ae):aK (H++[e])=aK H++[e.er (lk (H++[e]))]:=by
 unfold aK;rw[yau];congr 1;refine yci λx f=> ?_;have g:=yal.1 h x f;exact(ZxI (λid t j=>lu id t j) x g).symm
theorem IF{H:yL ah}{e:ah}{a:yL TD}(h:TD.frees H.length a=ae):TD.aG (lk (H++[e])) a=TD.aG (lk H) a:=(cZ (λid t f=>lu id t f) a h).symm
theorem Zx0{t:Tmp}{yQ:yL Nat}{T:Ty}{e:yc}{f:yL Nat}{a:yL TD}{h:yL ah}{K:Kh O}(k:HQ t yQ T e f a h K=ab out):
 ∃y z,K y z=ab out/\y.length=a.length/\We (aK h) (aK z)/\∀(J:Sg)(g:Act),aC J (TD.aG (lk h) a) g->aC J (TD.aG (lk z) y) g:=by
 unfold HQ at k;split at k
 .rename_i id hid;split at k
  .rename_i d j;obtain⟨l,I,k⟩:=yf.1 k;obtain⟨m,k⟩:=Za k;rw[yi]at m;have A:id < h.length:=(yu.1 j).1;have E:(h++[ah.aR T f [] ae e [] []])[id]? =ab (.var d ae):=by rw[ybe A];exact j
   have F:lk ((h++[ah.aR T f [] ae e [] []]).set id (.var l ae))=lk (h++[ah.aR T f [] ae e [] []]):=Vh E rfl rfl;refine⟨_,_,k,rfl, ?_,λJ g r=> ?_⟩
   .have M:aK ((h++[ah.aR T f [] ae e [] []]).set id (.var l ae))=(aK h++[aq.row 0 T.size ae e (.p (.arr 0 T.size []))]).set id (.var (l.er (lk (h++[ah.aR T f [] ae e [] []]))) ae):=by
     rw[Xl F,IE m.2];rfl
    rw[M];have Q:(aK h)[id]? =ab (.var (d.er (lk h)) ae):=by rw[Z2 j];rfl
    refine ZBs (yQ:=yQ) Q ?_;have G:=pq (L:=lk (h++[ah.aR T f [] ae e [] []])) yQ d l I;have R:d.er (lk (h++[ah.aR T f [] ae e [] []]))=d.er (lk h):=(kE (λid t S=>lu id t S) d (yal.1 m.2 _ (ybj j))).symm;rw[R,(lw (q:=(0,T.size,0)) (x:=.aR T f [] ae e [] []) (List.getElem?_concat_length ..) rfl).1]at G;rw[ZW];exact G
   .rw[F,IF m.1];exact r
  .cases k
 .cases k
theorem Zx1{t:Tmp}{yQ:yL Nat}{T:Ty}{e:yc}{a:yL TD}{h:yL ah}{K:Kh O}(k:HR t yQ T e a h K=ab out):
 ∃y z,K y z=ab out/\y.length=a.length/\We (aK h) (aK z)/\∀(J:Sg)(f:Act),aC J (TD.aG (lk h) a) f->aC J (TD.aG (lk z) y) f:=by
 unfold HR at k;split at k
 .rename_i id hid;split at k
  .rename_i d g;obtain⟨j,I,k⟩:=yf.1 k;obtain⟨m,k⟩:=Za k;rw[yi]at m;have A:id < h.length:=(yu.1 g).1;have E:(h++[ah.aY T [] ae e []])[id]? =ab (.var d ae):=by rw[ybe A];exact g
   have F:lk ((h++[ah.aY T [] ae e []]).set id (.var j ae))=lk (h++[ah.aY T [] ae e []]):=Vh E rfl rfl;refine⟨_,_,k,rfl, ?_,λJ f r=> ?_⟩
   .have M:aK ((h++[ah.aY T [] ae e []]).set id (.var j ae))=(aK h++[aq.row 0 T.size ae e (.p (.arr 0 T.size []))]).set id (.var (j.er (lk (h++[ah.aY T [] ae e []]))) ae):=by
     rw[Xl F,IE m.2];rfl
    rw[M];have Q:(aK h)[id]? =ab (.var (d.er (lk h)) ae):=by rw[Z2 g];rfl
    refine ZBs (yQ:=yQ) Q ?_;have G:=pq (L:=lk (h++[ah.aY T [] ae e []])) yQ d j I;have R:d.er (lk (h++[ah.aY T [] ae e []]))=d.er (lk h):=(kE (λid t S=>lu id t S) d (yal.1 m.2 _ (ybj g))).symm;rw[R,(gG (T:=T) (v:=[]) (l:=[]) (List.getElem?_concat_length ..)).1]at G;rw[ZW];exact G
   .rw[F,IF m.1];exact r
  .cases k
 .cases k
theorem ZvP{t:Tmp}{U:Ty}{e:yc}{a:yL TD}{h:yL ah}{K:Kh O}(k:HT t U e a h K=ab out):
 ∃A E,K A E=ab out/\A.length=a.length/\We (aK h) (aK E)/\∀(J:Sg)(l:Act),aC J (TD.aG (lk h) a) l->aC J (TD.aG (lk E) A) l:=by
 unfold HT at k;dsimp only at k;generalize h.findIdx ZFk=j at k;split at k
 .rename_i T g v m f y i F hi;obtain⟨z,k⟩:=Za k;obtain⟨_,k⟩:=Za k;simp only[yi]at z;obtain⟨z,W⟩:=z
  cases y with
  |nil=>cases k
  |cons x r=>
   have k:((jI U (.own h.length ad U ad) g (.p (Wb g (.v T x)))).bind λd=>K a ((h++[ah.log U e []]).set j (.bL T g v ae m f d r)))=ab out:=k;obtain⟨d,X,k⟩:=yf.1 k;have G:j < h.length:=(yu.1 F).1;have I:(h++[ah.log U e []])[j]? =ab (.aR T g v ae m f (x::r)):=by rw[ybe G];exact F
   have Q:lk ((h++[ah.log U e []]).set j (.bL T g v ae m f d r))=lk (h++[ah.log U e []]):=ZBf I rfl;refine⟨_,_,k,rfl, ?_,λJ l Y=> ?_⟩
   .have Z:aK ((h++[ah.log U e []]).set j (.bL T g v ae m f d r))=(aK h++[aq.log U.size e []]).set j (.row v.length T.size ae m (.arr (f.length+(r.length+1)) T.size (((f.map T.enc++(x::r).map λx=>(Wb g (.v T x)).pe).map .p).set f.length (d.er (lk (h++[ah.log U e []])))))):=by
     rw[Xl Q,IE W];have R:=ZBg (f.map λx=>Dv.p (T.enc x)) (r.map λx=>.p (Wb g (.v T x)).pe) (.p (Wb g (.v T x)).pe) (d.er (lk (h++[ah.log U e []])));rw[yad]at R
     have M:((f.map T.enc++(x::r).map λx=>(Wb g (.v T x)).pe).map Dv.p).set f.length (d.er (lk (h++[ah.log U e []])))=(f.map λx=>Dv.p (T.enc x))++d.er (lk (h++[ah.log U e []]))::r.map λx=>.p (Wb g (.v T x)).pe:=by
      rw[yau,ybd,ybd];exact R
     rw[M];rfl
    rw[Z];have hj:(aK h)[j]? =ab (.row v.length T.size ae m (.p (.arr (f.length+(r.length+1)) T.size (f.map T.enc++(x::r).map λx=>(Wb g (.v T x)).pe)))):=by rw[Z2 F];rfl
    have hx:(f.map T.enc++(x::r).map λx=>(Wb g (.v T x)).pe)[f.length]? =ab (Wb g (.v T x)).pe:=by
     grind
    refine ZFj (yQ:=g) hj hx ?_;have S:=pq (L:=lk (h++[ah.log U e []])) g _ d X
    have e3:(TD.own h.length ad U ad).er (lk (h++[ah.log U e []]))=.own h.length ad U.size []:=by
     rw[TD.er,pp];rfl
    rw[e3,TD.er]at S;rw[ZW];exact S
   .rw[Q,IF z];exact Y
 .cases k
theorem ZFn(e:ah):eP (ab (jO e))=eP (ab e):=by cases e <;> rfl
theorem wv(ids:yL Nat)(H:yL ah)(i:Nat):(iL ids H)[i]? =(H[i]?).map λe=>if ids.contains i then jO e else e:=by
 unfold iL
 all_goals grind
theorem Zt2(ids:yL Nat)(H:yL ah):lk (iL ids H)=lk H:=by
 funext i;unfold lk;rw[wv]
 cases H[i]? with
 |none=>rfl
 |some e=>
  show eP (ab (if ids.contains i=ae then jO e else e))=_
  split
  .exact ZFn e
  .rfl
theorem ZC0(ids:yL Nat)(H:yL ah):bX (aK H) (aK (iL ids H)):=by
 refine ZE3 (by rw[ZW,ZW];unfold iL;simp) λi a b f g=> ?_;unfold aK at f g;rw[yao]at f g;rw[Zt2,wv]at g
 cases h:H[i]? with
 |none=>rw[h]at f;cases f
 |some e=>
  rw[h]at f g;cases f;cases g;show eN (e.er (lk H)) (ah.er (lk H) (if ids.contains i=ae then jO e else e))
  split
  .cases e <;> first|exact .refl _|exact .lock
  .exact .refl _
theorem ZFo{h H:yL ah}{d:TD}{q:TD×yL Nat}(hq:ss h d=ab q)(Q:lk H=lk h)(hl:∀j,j∈q.2->∀e,h[j]? =ab e->H[j]? =ab (jO e)):
 (q.1.er (lk H)).size=(d.er (lk H)).size/\∀J:Sg,Ok J->J.H=aK H->∀us,yH J (d.er (lk H)) us->yH J (q.1.er (lk H)) us:=by
 have R:∀x:TD,(q.1.er (lk H)).size=(q.1.er (lk H)).size/\∀J:Sg,Ok J->J.H=aK H->∀us,yH J (q.1.er (lk H)) us->yH J (q.1.er (lk H)) us:=λ_=>⟨rfl,λ_ _ _ _ r=>r⟩
 have row:∀(j:Nat)(v:Nat)(s:Nat)(e:yc)(m:yL Pl)(T:Ty)(l:yL T.aU),(TD.rw j).er (lk H)=.rv j v s 0 m.length->(aK H)[j]? =ab (.row v s af e (.p (.arr m.length s m)))->s=T.size->m=l.map T.enc->
  ((TD.p (.sl ad T l)).er (lk H)).size=((TD.rw j).er (lk H)).size/\∀J:Sg,Ok J->J.H=aK H->∀us,yH J ((TD.rw j).er (lk H)) us->yH J ((TD.p (.sl ad T l)).er (lk H)) us:=by
  intro j v s e m T l E F G e4;subst G;rw[E];refine⟨rfl,λJ I g us r=> ?_⟩;have A:=cV.vt (H:=J.H) (lo:=0) (n:=m.length) (by rw[g];exact F) (by omega);rw[List.drop_zero,List.take_length]at A;have:=CM I A us r;rw[TD.er,TP.pe, <-e4];simpa[yH] using this
 unfold ss at hq;split at hq
 .rename_i j;split at hq
  .rename_i T M v st e f y;cases hq;have g:=hl j (yav ..) _ y;have z:=lw (q:=(v.length,T.size,f.length+0)) (x:=jO (.aR T M v st e f [])) g rfl;refine row j v.length T.size e (f.map T.enc) T f (by rw[z.1,yad];rfl) ?_ rfl rfl;rw[Z2 g,yad];simp only[jO,ah.er,List.map_nil,ybf,List.length_nil,Nat.add_zero]
  .rename_i T v st e l y;cases hq;have g:=hl j (yav ..) _ y;have z:=gG (T:=T) (v:=v) (st:=af) (e:=e) (l:=l) g;refine row j v.length T.size e (l.map T.enc) T l (by rw[z.1,yad]) ?_ rfl rfl;rw[Z2 g,yad];rfl
  .cases hq
 grind
theorem Zt3{h H:yL ah}:∀{g:yL TD}{q:yL TD×yL Nat},su h g=ab q->lk H=lk h->(∀j,j∈q.2->∀e,h[j]? =ab e->H[j]? =ab (jO e))->
 Dv.sizes (TD.aG (lk H) q.1)=Dv.sizes (TD.aG (lk H) g)/\∀J:Sg,Ok J->J.H=aK H->∀us,aM J (TD.aG (lk H) g) us->aM J (TD.aG (lk H) q.1) us
 |[],q,f,l,m=>by cases f;exact⟨rfl,λ_ _ _ _ r=>r⟩
 |d::r,q,f,l,m=>by
  simp only[su]at f;split at f
  .rename_i I M z A;cases f;obtain⟨E,Q⟩:=ZFo z l (λj y=>m j (List.mem_append_left _ y));obtain⟨F,R⟩:=Zt3 A l (λj y=>m j (List.mem_append_right _ y));refine⟨by simp only[TD.aG,Dv.sizes];rw[E,F],λJ S T us G=> ?_⟩;simp only[TD.aG,aM]at G ⊢;grind
  .cases f
theorem ZoG{t:Tmp}{a:yL TD}{h:yL ah}{K:Kh O}(k:sv t a h K=ab out):
 ∃y z,K y z=ab out/\y.length=a.length/\We (aK h) (aK z)/\∀(J:Sg)(f:Act),aC J (TD.aG (lk h) a) f->aC J (TD.aG (lk z) y) f:=by
 unfold sv at k;split at k
 .rename_i id hid;split at k
  .rename_i m st F;obtain⟨q,G,k⟩:=ZoF k
   have g:(iL q.2 h)[id]? =ab (.var (.agg m) st):=by
    rw[wv,F];show ab (if q.2.contains id=ae then jO (.var (.agg m) st) else .var (.agg m) st)=_
    split <;> rfl
   have l:lk (iL q.2 h)=lk h:=Zt2 _ _;have E:lk ((iL q.2 h).set id (.var (.agg q.1) st))=lk (iL q.2 h):=Vh g rfl rfl;refine⟨_,_,k,rfl,(pB (ZC0 q.2 h)).trans ?_,λJ f I=>by rw[E,l];exact I⟩;rw[Xl E];have A:(aK (iL q.2 h))[id]? =ab (.var (.agg (TD.aG (lk (iL q.2 h)) m)) st):=by rw[Z2 g];rfl
   obtain⟨M,R⟩:=Zt3 (H:=iL q.2 h) G l (λj A e Q=>by
    rw[wv,Q];show ab (if q.2.contains j=ae then jO e else e)=_
    rw[yW (by simpa using A)])
   refine ZH3 A ?_ λJ S T U r=> ?_
   .exact M
   .simp only[TD.er,yH]at r ⊢;grind
  .cases k
 .cases k
theorem Zx2{L:Lk}{f:yL TD}{i:Nat}{x y:TD}(h:f[i]? =ab x)(e:y.er L=x.er L):TD.aG L (f.set i y)=TD.aG L f:=by
 rw[ZM,ZM,ybn,e];apply ybp
 all_goals grind
theorem Zmb{t:Tmp}{i:Nat}{a:yL TD}{h:yL ah}{K:Kh O}(k:wt t i a h K=ab out):
 ∃m y,K m y=ab out/\m.length=a.length/\We (aK h) (aK y)/\∀(J:Sg)(f:Act),aC J (TD.aG (lk h) a) f->aC J (TD.aG (lk y) m) f:=by
 unfold wt at k;split at k
 .rename_i j W;split at k
  .rename_i g st z;split at k
   .rename_i id v s n E;split at k
    .rename_i T w F e l G;obtain⟨c,I⟩:=Za k;clear k;rw[yi,yi,yP,yP,yP]at c;obtain⟨rfl,rfl,rfl⟩:=c;have A:lk (h.set j (.var (.agg (g.set i (.rw id))) st))=lk h:=Vh z rfl rfl
     have M:(TD.rw id).er (lk h)=(TD.rv id w.length T.size 0 l.length).er (lk h):=by
      refine(pu (v:=w) (s:=T.size) (N:=l.length) ?_).1;unfold Yb lk;dsimp only;rw[G];rfl
     refine⟨_,_,I,rfl, ?_,λJ f Q=>by rw[A];exact Q⟩
     have R:aK (h.set j (.var (.agg (g.set i (.rw id))) st))=aK h:=by
      rw[Xl A];show(aK h).set j (.var (.agg (TD.aG (lk h) (g.set i (.rw id)))) st)=aK h;rw[Zx2 E M];apply ybp;intro q;by_cases S:j=q
      .subst S;have U:(aK h)[j]? =ab (.var (.agg (TD.aG (lk h) g)) st):=by rw[Z2 z];rfl
       grind
      grind
     rw[R];exact We.refl _
    .cases k
   .cases k
  .cases k
 .cases k
theorem Zx3{h:yL ah}{id:Nat}{T:Ty}{w:yL Unit}{st:Bool}{e:yc}{l:yL T.aU}(f:h[id]? =ab (.aY T w st e l)):(TD.rw id).er (lk h)=(TD.rv id w.length T.size 0 l.length).er (lk h):=by
 refine(pu (v:=w) (s:=T.size) (N:=l.length) ?_).1;unfold Yb lk;dsimp only;rw[f];rfl
theorem ZsP{t:Tmp}{a:yL TD}{h:yL ah}{K:Kh O}(k:HW t a h K=ab out):
 ∃g j,K g j=ab out/\g.length=a.length/\We (aK h) (aK j)/\∀(J:Sg)(f:Act),aC J (TD.aG (lk h) a) f->aC J (TD.aG (lk j) g) f:=by
 unfold HW at k;split at k
 .rename_i id v s n m;split at k
  .rename_i T w y e l z;obtain⟨c,A⟩:=Za k;clear k;rw[yi,yi,yP,yP,yP]at c;obtain⟨rfl,rfl,rfl⟩:=c;exact⟨_,_,A,List.length_set,We.refl _,λJ f E=>by rw[Zx2 m (Zx3 z)];exact E⟩
  .cases k
 .cases k
theorem ZsQ{t:Tmp}{a:yL TD}{h:yL ah}{K:Kh O}(k:HY t a h K=ab out):
 ∃m y,K m y=ab out/\m.length=a.length/\We (aK h) (aK y)/\∀(J:Sg)(f:Act),aC J (TD.aG (lk h) a) f->aC J (TD.aG (lk y) m) f:=by
 unfold HY at k;split at k
 .rename_i j R;split at k
  .rename_i id v s n st z;split at k
   .rename_i T w F e l G;obtain⟨c,I⟩:=Za k;clear k;rw[yi,yi,yP,yP,yP]at c;obtain⟨rfl,rfl,rfl⟩:=c;have A:lk (h.set j (.var (.rw id) st))=lk h:=Vh z rfl rfl;refine⟨_,_,I,rfl, ?_,λJ f M=>by rw[A];exact M⟩
    have Q:aK (h.set j (.var (.rw id) st))=aK h:=by
     rw[Xl A];show(aK h).set j (.var ((TD.rw id).er (lk h)) st)=aK h;rw[Zx3 G];apply ybp;intro q;by_cases E:j=q
     .subst E;have g:(aK h)[j]? =ab (.var ((TD.rv id w.length T.size 0 l.length).er (lk h)) st):=by rw[Z2 z];rfl
      rw[List.getElem?_set_self (yu.1 g).1,g]
     .rw[List.getElem?_set_ne E]
    rw[Q];exact We.refl _
   .cases k
  .cases k
 .cases k
theorem ZBt:∀{l:yL Dv}{i:Nat}{d e:Dv},l[i]? =ab d->Wk d e->cP l (l.set i e)
 |[],_,_,_,h,_=>by simp at h
 |x::r,0,d,e,h,k=>by
  simp only[yam,yn]at h;subst h
  exact .cons k (cP.refl r)
 |x::r,i+1,d,e,h,k=>by
  simp only[yak]at h;exact .cons (Wk.refl x) (ZBt h k)
theorem ZFp{L:Lk}:∀{f:yL TD}{i:Nat}{d e:TD},f[i]? =ab d->(TD.aG L f)[i]? =ab (d.er L)/\TD.aG L (f.set i e)=(TD.aG L f).set i (e.er L)
 |[],_,_,_,h=>by simp at h
 |x::r,0,d,e,h=>by
  simp only[yam,yn]at h;subst h
  exact⟨rfl,rfl⟩
 |x::r,i+1,d,e,h=>by
  simp only[yak]at h;obtain⟨g,j⟩:=ZFp (e:=e) h;exact⟨g,by show x.er L::TD.aG L (r.set i e)=_;rw[j];rfl⟩
theorem ZAc{t:Tmp}{i:Nat}{T:Ty}{a:yL TD}{h:yL ah}{K:Kh O}(k:HZ t i T a h K=ab out):
 ∃A E,K A E=ab out/\A.length=a.length/\We (aK h) (aK E)/\∀(J:Sg)(f:Act),aC J (TD.aG (lk h) a) f->aC J (TD.aG (lk E) A) f:=by
 unfold HZ at k;split at k
 .rename_i j R;split at k
  .rename_i z st l;split at k
   .rename_i x I;obtain⟨y,F,k⟩:=yf.1 k;have m:lk (h.set j (.var (.agg (z.set i (.p (.v T y)))) st))=lk h:=Vh l rfl rfl;refine⟨_,_,k,rfl, ?_,λJ f G=>by rw[m];exact G⟩;rw[Xl m];have g:(aK h)[j]? =ab (.var (.agg (TD.aG (lk h) z)) st):=by rw[Z2 l];rfl
    obtain⟨M,Q⟩:=ZFp (L:=lk h) (e:=.p (.v T y)) I;refine pB (bX.ej g (eN.var ?_));show Wk (.agg (TD.aG (lk h) z)) (.agg (TD.aG (lk h) (z.set i (.p (.v T y)))));rw[Q];exact cP.agg (ZBt M (Wk.p (qZ F)))
   .cases k
  .rename_i x st l;obtain⟨y,F,k⟩:=yf.1 k;have m:lk (h.set j (.var (.p (.v T y)) st))=lk h:=Vh l rfl rfl;refine⟨_,_,k,rfl, ?_,λJ f G=>by rw[m];exact G⟩;rw[Xl m];have g:(aK h)[j]? =ab (.var (.p x.pe) st):=by rw[Z2 l];rfl
   exact pB (bX.ej g (eN.var (Wk.p (qZ F))))
  .cases k
 .cases k
theorem Wk.dI{n s:Nat}{xs:yL Pl}:Wk (.p (.arr n s xs)) (.arr n s (xs.map Dv.p)):=⟨rfl,rfl,λJ vs r=>by
 simp only[yH,aA]at r ⊢;exact⟨by rw[yad];exact r.1,λx f=>by obtain⟨y,g,rfl⟩:=List.mem_map.1 f;exact r.2.1 y g,jw.2 r.2.2⟩⟩
theorem ZFq(L:Lk)(x:TP):Wk (.p x.pe) ((pC x).er L):=by
 unfold pC;split
 .rename_i n s f;show Wk (.p (.arr n s (TP.cl f))) (.arr n s (TD.aG L (f.map TD.p)));rw[rG];exact Wk.dI
 .exact Wk.refl _
theorem Zt4(L:Lk):∀(xs:yL TP),cP ((TP.cl xs).map Dv.p) (TD.aG L (xs.map pC))
 |[]=>cP.nil
 |x::r=>cP.cons (ZFq L x) (Zt4 L r)
theorem Zx4{t:Tmp}{a:yL TD}{h:yL ah}{K:Kh O}(k:IA t a h K=ab out):
 ∃z A,K z A=ab out/\z.length=a.length/\We (aK h) (aK A)/\∀(J:Sg)(g:Act),aC J (TD.aG (lk h) a) g->aC J (TD.aG (lk A) z) g:=by
 unfold IA at k;split at k
 .rename_i j I;split at k
  .rename_i n s f st m;have y:lk (h.set j (.var (.arr n s (f.map TD.p)) st))=lk h:=Vh m rfl rfl;refine⟨_,_,k,rfl, ?_,λJ g E=>by rw[y];exact E⟩;rw[Xl y];have l:(aK h)[j]? =ab (.var (.p (.arr n s (TP.cl f))) st):=by rw[Z2 m];rfl
   refine pB (bX.ej l (eN.var ?_));show Wk (.p (.arr n s (TP.cl f))) (.arr n s (TD.aG (lk h) (f.map TD.p)))
   have e:TD.aG (lk h) (f.map TD.p)=(TP.cl f).map Dv.p:=by
    rw[ZM,WP,ybd,ybd];rfl
   rw[e];exact Wk.dI
  .rename_i f st m;have y:lk (h.set j (.var (.agg (f.map pC)) st))=lk h:=Vh m rfl rfl;refine⟨_,_,k,rfl, ?_,λJ g E=>by rw[y];exact E⟩;rw[Xl y];have l:(aK h)[j]? =ab (.var (.p (.agg (TP.cl f))) st):=by rw[Z2 m];rfl
   refine pB (bX.ej l (eN.var ?_));show Wk (.p (.agg (TP.cl f))) (.agg (TD.aG (lk h) (f.map pC)));have F:=ZxQ (TP.cl f);have G:=cP.agg (Zt4 (lk h) f);exact⟨F.size.trans G.size,F.agg.trans G.agg,λJ vs r=>G.dk J vs (F.dk J vs r)⟩
  .exact⟨_,_,k,rfl,We.refl _,λ_ _ r=>r⟩
 .exact⟨_,_,k,rfl,We.refl _,λ_ _ r=>r⟩
theorem Zx5{t:Tmp}{a:yL TD}{h:yL ah}{K:Kh O}(k:IC t a h K=ab out):
 ∃g l,K g l=ab out/\g.length=a.length/\We (aK h) (aK l)/\∀(J:Sg)(f:Act),aC J (TD.aG (lk h) a) f->aC J (TD.aG (lk l) g) f:=by
 unfold IC at k;split at k
 .rename_i j G;split at k
  .rename_i d st z;obtain⟨x,E,k⟩:=yf.1 k;have A:lk (h.set j (.var (.p x) st))=lk h:=Vh z rfl rfl;refine⟨_,_,k,rfl, ?_,λJ f F=>by rw[A];exact F⟩;rw[Xl A];have m:(aK h)[j]? =ab (.var (d.er (lk h)) st):=by rw[Z2 z];rfl
   have y:(d.er (lk h)).flat=ab x.pe:=by rw[rh,E];rfl
   refine pB (bX.ej m (eN.var ?_))
   exact⟨(uH _ _ y).symm,(AS y).symm,λJ vs r=>by
    have:=qq _ _ _ y r;show yH J (.p x.pe) vs;simp only[yH];exact this⟩
  .cases k
 .cases k
theorem ZoH{z:Int}{t:Tmp}{a:yL TD}{h:yL ah}{K:Kh O}(ha:a.getD t .an=.p (.v (.int .i64) z)):∀{ks:yL Nat},wu z t a h K ks=ab out->K a h=ab out
 |[],k=>by cases k
 |n::r,k=>by
  unfold wu at k;split at k
  .rename_i e;have e:z=(n:Int):=by simpa using e
   rw[bE (by rw[ha,e])]at k;exact k
  .exact ZoH ha k
theorem ZvQ{t:Tmp}{ks:yL Nat}{a:yL TD}{h:yL ah}{K:Kh O}(k:IB t ks a h K=ab out):
 ∃g j,K g j=ab out/\g.length=a.length/\We (aK h) (aK j)/\∀(J:Sg)(f:Act),aC J (TD.aG (lk h) a) f->aC J (TD.aG (lk j) g) f:=by
 unfold IB at k;split at k
 .rename_i z l;exact⟨_,_,ZoH l k,rfl,We.refl _,λ_ _ r=>r⟩
 .cases k
theorem ZFr{g:yO kG}{a:yL TD}{h:yL ah}{K:Kh O}(k:ID g a h K=ab out):
 ∃j l,K j l=ab out/\j.length=a.length/\We (aK h) (aK l)/\∀(J:Sg)(f:Act),aC J (TD.aG (lk h) a) f->aC J (TD.aG (lk l) j) f:=by
 unfold ID at k;split at k
 .exact⟨_,_,k,rfl,We.refl _,λ_ _ r=>r⟩
 .rename_i g
  cases g with
  |rows t z T e X=>exact Zx0 k
  |focus t U e=>exact ZvP k
  |done t=>exact ZoG k
  |fresh t i=>exact Zmb k
  |cL t z T e=>exact Zx1 k
  |gY t=>exact ZsP k
  |gZ t=>exact ZsQ k
  |fU t i=>
   obtain⟨Y,Z,k,A,E,F⟩:=Zmb (K:=λa h=>sv t a h K) k;obtain⟨G,I,k,M,Q,R⟩:=ZoG k
   exact⟨G,I,k,M.trans A,E.trans Q,λJ f r=>R J f (F J f r)⟩
  |any t i T=>exact ZAc k
  |dI t=>exact Zx4 k
  |split t ks=>exact ZvQ k
  |flat t=>exact Zx5 k
  |hole=>
   replace k:K a (h++[.gone])=ab out:=k
   refine⟨_,_,k,rfl, ?_,λJ f S=>by rw[lr rfl];exact S⟩;rw[nQ (lr rfl)];intro J W e;obtain⟨to,y⟩:=CC W;exact⟨{ J with m:=J.m++[ad],H:=J.H++[.gone]},rfl,by rw[<-e];rfl,to,y⟩
end
end Go.Ev
end
section
namespace Go.Ev
section
variable{P:yg}
theorem pD{x y:Code}{ts ts1 h:yL Dv}{H H1 H2:yL aq}{ex:Ex}(A:Xn P x ts H .normal ts1 H1)(E:Xn P y ts1 H1 ex h H2):Xn P (.seq x y) ts H ex h H2:=by
 intro J a F G I;refine wp_seq (wp_mono (A J a F G I) ?_);rintro e M U ⟨rfl,J1,rfl,Q,j,l,f⟩;refine wp_mono (E J1 M l Q f) ?_;rintro e R S ⟨rfl,J2,rfl,T,m,z,g⟩;exact⟨rfl,J2,rfl,T,j.trans m,z,g⟩
theorem Zt5{x y:Code}{ts ts1:yL Dv}{H H1:yL aq}{ex:Ex}(f:ex≠ .normal)(h:Xn P x ts H ex ts1 H1):Xn P (.seq x y) ts H ex ts1 H1:=by
 intro J a j l m;refine wp_seq (wp_mono (h J a j l m) ?_);rintro e z A ⟨rfl,g⟩
 cases ex with
 |normal=>exact absurd rfl f
 |exit id=>exact⟨rfl,g⟩
 |ret=>exact⟨rfl,g⟩
theorem ww{c:yp}{x y:Code}{ts ts1:yL Dv}{H H1:yL aq}{ex:Ex}{b:Bool}(hc:aF P ts 0 c=.p (.bool b))(h:Xn P (if b then x else y) ts H ex ts1 H1):Xn P (.cond c x y) ts H ex ts1 H1:=by
 intro J a j l f;have g:=Zo (P:=P) f 0 c;rw[hc]at g;cases b
 .exact wp_cond_false (Yh g) (h J a j l f)
 .exact wp_cond_true (Yh g) (h J a j l f)
def IG(id:Nat):Ex->Ex
 |.exit i=>if i=id then .normal else .exit i
 |f=>f
theorem ZAd{id:Nat}{f:Code}{ts ts1:yL Dv}{H H1:yL aq}{ex:Ex}(h:Xn P f ts H ex ts1 H1):Xn P (.block id f) ts H (IG id ex) ts1 H1:=by
 intro J a j l m;refine wp_block (wp_mono (h J a j l m) ?_);rintro e z A ⟨rfl,g⟩
 cases ex with
 |normal=>exact⟨rfl,g⟩
 |exit y=>
  simp only[Ex.to,Exit.inBlock,IG];split
  .exact⟨rfl,g⟩
  .exact⟨rfl,g⟩
 |ret=>exact⟨rfl,g⟩
theorem ZAe{f:Code}{ts ts1:yL Dv}{H H1:yL aq}{ex:Ex}(g:Xn P f ts H ex ts1 H1):Xn P (.scope f) ts H ex ts1 H1:=by
 intro J a h j l;refine wp_scope_straight (wp_mono (g J a h j l) ?_);rintro e y z ⟨rfl,m⟩;cases ex <;> exact⟨rfl,m⟩
theorem ZC1{ts:yL Dv}{H:yL aq}:Xn P .skip ts H .normal ts H:=λJ a f g h=>wp_skip ⟨rfl,J,rfl,g,To.refl J,f,h⟩
theorem ZAf{n:Nat}{ts:yL Dv}{H:yL aq}:Xn P (.label n) ts H .normal ts H:=λJ a f g h=>wp_label ⟨rfl,J,rfl,g,To.refl J,f,h⟩
theorem ZC2{n:Nat}{ts:yL Dv}{H:yL aq}:Xn P (.exit n) ts H (.exit n) ts H:=λJ a f g h=>wp_exit ⟨rfl,J,rfl,g,To.refl J,f,h⟩
theorem Zx6{ts:yL Dv}{H:yL aq}:Xn P .ret ts H .ret ts H:=λJ a f g h=>wp_ret ⟨rfl,J,rfl,g,To.refl J,f,h⟩
theorem ZC3{c:Code}{ts ts1:yL Dv}{H H1:yL aq}{ex:Ex}(keep:yL Nat)(r:Xn P c ts H ex ts1 H1):Xn P c ts H ex (aI keep 0 ts1) H1:=by
 intro J a j l m;refine wp_mono (r J a j l m) ?_;rintro e z A ⟨rfl,J1,rfl,y,g,h,f⟩;exact⟨rfl,J1,rfl,y,g,h,Vf keep f⟩
def sw(n0:Nat)(sl:cF)(es:yL bJ)(a:yL TD)(h:yL ah):yO (yL TV):=
 if once (yo n0++[]) then(WS h (yo n0++[]) (yo n0++[])).bind λf=>(TD.bB (bc (yo n0++[])) (im (sl.map (·.1)) 0 a)).bind λg=>
  (Sh.eR (lk f) (rY sl a.length) g).bind λq=>(bJ.eR (lk f) es f).bind λw=>ab (q.2++w.2)
 else ad
theorem ZAg{n0:Nat}{sl:cF}{es:yL bJ}{a:yL TD}{h:yL ah}{vs:yL TV}(k:sw n0 sl es a h=ab vs):
 ∃j h3,VT a.length sl es vs=ab (j,h3)/\∀{c:Code}{ts:yL Dv}{H:yL aq}{ex:Ex},H.length=n0->Xn P c ts H ex (TD.aG (lk h) a) (aK h)->Xn P c ts H ex (TD.aG (lk h3) j) (aK h3):=by
 unfold sw at k;split at k
 .rename_i z;obtain⟨A,f,k⟩:=yf.1 k;obtain⟨I,E,k⟩:=yf.1 k;obtain⟨q,l,k⟩:=yf.1 k;obtain⟨w,e4,k⟩:=yf.1 k;cases k;obtain⟨M,F⟩:=rW e4;have m:∀id t,Yb (lk A) id t ad=Yb (lk w.1) id t ad:=λid t=>by rw[F]
  refine⟨q.1,w.1, ?_,λ{c ts H ex}g r=> ?_⟩
  .unfold VT;rw[bN _ _ _ l];have:=rV e4 [];grind
  .have y:=ZC3 (sl.map (·.1)) r;rw[<-wj]at y;have G:=ZCE [] [] y (by rw[g];exact z) (by rw[g];exact V7 (il f) f) (by rw[g];exact dw (il f) _ _ E);exact UY G (de m _ _ _ l) (rX m e4)
 .cases k
theorem ZAh{n0:Nat}{sl:cF}{es:yL bJ}{a:yL TD}{h:yL ah}{vs:yL TV}(hn:h.length=n0)(k:sw n0 sl es a h=ab vs):
 ∃I h3,VT a.length sl es vs=ab (I,h3)/\∀(J:Sg)(f:Act),Ok J->J.H=aK h->aC J (TD.aG (lk h) a) f->∃J':Sg,J'.w=J.w/\J'.H=aK h3/\To J J'/\Ok J'/\aC J' (TD.aG (lk h3) I) f:=by
 subst hn;unfold sw at k;split at k
 .rename_i T;obtain⟨j,y,k⟩:=yf.1 k;obtain⟨U,W,k⟩:=yf.1 k;obtain⟨q,M,k⟩:=yf.1 k;obtain⟨w,e4,k⟩:=yf.1 k;cases k;obtain⟨g1,X⟩:=rW e4;have Q:∀id t,Yb (lk j) id t ad=Yb (lk w.1) id t ad:=λid t=>by rw[X]
  refine⟨q.1,w.1, ?_,λJ f R z Y=> ?_⟩
  .unfold VT;rw[bN _ _ _ M];have:=rV e4 [];grind
  .have S:=Vf (sl.map (·.1)) Y;rw[<-wj]at S
   have g:aQ J.H (yo J.H.length++[]) (yo J.H.length++[])=ab (aK j):=by
    rw[z,ZW];exact V7 (il y) y
   have l:once (yo J.H.length++[])=ae:=by rw[z,ZW];exact T
   have A:Dv.bB (bc (yo J.H.length++[])) (TD.aG (lk h) (im (sl.map (·.1)) 0 a))=ab (TD.aG (lk j) U):=by
    rw[z,ZW];exact dw (il y) _ _ W
   have Z:=vm (jD g) A S;have E:=oY R (To.refl J) l g;have F:=oX R l g;obtain⟨m,G⟩:=la (J:=gy J (yo J.H.length++[]) (aK j)) F (H':=aK w.1) (rX Q e4);exact⟨{ gy J (yo J.H.length++[]) (aK j) with H:=aK w.1},rfl,rfl,E.trans m,G,(de Q _ _ _ M).qv (Z.to m.leaf)⟩
 .cases k
def IH(L:Lk):bJ->ah->yO ah
 |.aR _ _ _ _,.bL u j v st e g h f=>(GS L u h).map λy=>.aR u j v st e (g++[y]) f
 |_,x=>ab x
def sx(L:Lk):yL bJ->yL ah->yO (yL ah)
 |[],h=>ab h
 |_::_,[]=>ab []
 |s::r,x::h=>match IH L s x,sx L r h with
  |some y,ab f=>ab (y::f)
  |_,_=>ad
theorem ZH4{L:Lk}{s:bJ}{x y:ah}(h:IH L s x=ab y):eP (ab y)=eP (ab x)/\eN (x.er L) (y.er L):=by
 unfold IH at h;split at h
 .rename_i u m v st e g j f;obtain⟨c,l,rfl⟩:=Zd h;refine⟨?_,ZBk (ZBh l)⟩;simp only[eP,ym,yag,List.length_nil];grind
 .cases h;exact⟨rfl,.refl _⟩
theorem ZBu{L:Lk}:∀{es:yL bJ}{h f:yL ah},sx L es h=ab f->f.length=h.length/\(∀j:Nat,eP (f[j]?)=eP (h[j]?))/\bX (h.map (ah.er L)) (f.map (ah.er L))
 |[],h,f,k=>by cases k;exact⟨rfl,λ_=>rfl,bX.refl _⟩
 |_::_,[],f,k=>by cases k;exact⟨rfl,λ_=>rfl,bX.refl _⟩
 |s::r,x::h,f,k=>by
  simp only[sx]at k;split at k
  .rename_i y E g l;cases k;obtain⟨F,m⟩:=ZH4 g;obtain⟨z,G,A⟩:=ZBu l;refine⟨by simp[z],λj=> ?_,.cons m A⟩;grind
  .cases k
theorem ZBv{es:yL bJ}{h f:yL ah}(k:sx (lk h) es h=ab f):f.length=h.length/\lk f=lk h/\bX (aK h) (aK f):=by
 obtain⟨a,b,c⟩:=ZBu k;have e:lk f=lk h:=funext b;refine⟨a,e, ?_⟩;unfold aK;rw[e];exact c
def sy(n0:Nat)(sl:cF)(es:yL bJ)(a:yL TD)(h:yL ah):yO (yL TV):=(sx (lk h) es h).bind λh=>sw n0 sl es a h
theorem ZC4{n0:Nat}{sl:cF}{es:yL bJ}{a:yL TD}{h:yL ah}{vs:yL TV}(k:sy n0 sl es a h=ab vs):
 ∃f h3,VT a.length sl es vs=ab (f,h3)/\∀{c:Code}{ts:yL Dv}{H:yL aq}{ex:Ex},H.length=n0->Xn P c ts H ex (TD.aG (lk h) a) (aK h)->Xn P c ts H ex (TD.aG (lk h3) f) (aK h3):=by
 obtain⟨E,g,j⟩:=yf.1 k;obtain⟨F,l,m⟩:=ZBv g;obtain⟨f,h3,y,z⟩:=ZAg (P:=P) j;refine⟨f,h3,y,λA r=>z A ?_⟩;rw[l];exact UY r (cP.refl _) m
theorem Zt6{n0:Nat}{sl:cF}{es:yL bJ}{a:yL TD}{h:yL ah}{vs:yL TV}(hn:h.length=n0)(k:sy n0 sl es a h=ab vs):
 ∃g h3,VT a.length sl es vs=ab (g,h3)/\∀(J:Sg)(f:Act),Ok J->J.H=aK h->aC J (TD.aG (lk h) a) f->∃J':Sg,J'.w=J.w/\J'.H=aK h3/\To J J'/\Ok J'/\aC J' (TD.aG (lk h3) g) f:=by
 obtain⟨l,m,y⟩:=yf.1 k;obtain⟨z,A,E⟩:=ZBv m;obtain⟨g,h3,F,G⟩:=ZAh (by rw[z];exact hn) y;refine⟨g,h3,F,λJ f I M Q=> ?_⟩;obtain⟨to,j⟩:=la I (H':=aK l) (by rw[M];exact E);obtain⟨J2,R,S,T,U,W⟩:=G { J with H:=aK l} f j rfl (by rw[A];exact Q.to to.leaf);exact⟨J2,R,S,to.trans T,U,W⟩
structure Lp where
 sl:cF
 es:List bJ
 I:List Ty
 xs:List cv
 L:Ty.aO I->Option (cv.sum xs)
def Lp.Is(P:yg)(n:Nat)(c:Code)(lp:Lp):Prop:=
 ∀v o,lp.L v=ab o->∀s,VT n lp.sl lp.es (dB lp.I v)=ab s->∀e vs f,nX lp.xs o e vs->VT n e.sl e.es vs=ab f->
  Xn P c (TD.aG (lk s.2) s.1) (aK s.2) e.ex (TD.aG (lk f.2) f.1) (aK f.2)
abbrev Lp.Ok(P:yg)(n:Nat)(f:Code)(lp:Lp):Prop:=lp.Is P n (.loop f)
structure FI where
 hi:HI:={}
 lp:List (Nat×Lp):=[]
 bk:List (Nat×Lp):=[]
 gh:List (Nat×kG):=[]
 un:Nat:=0
def Code.nl:Code->Nat
 |.seq a b=>Code.nl a+Code.nl b
 |.cond _ a b=>Code.nl a+Code.nl b
 |.block _ a=>Code.nl a
 |.scope a=>Code.nl a
 |.loop a=>Code.nl a+1
 |_=>0
def Code.ns:Code->Nat
 |.seq a b=>Code.ns a+Code.ns b+1
 |.cond _ a b=>Code.ns a+Code.ns b
 |.block _ a=>Code.ns a
 |.scope a=>Code.ns a
 |.loop a=>Code.ns a
 |_=>0
theorem lz:∀c:Code,(ZI c).length=Code.nl c
 |.seq a b=>by simp only[ZI,ym,lz a,lz b,Code.nl]
 |.cond _ a b=>by simp only[ZI,ym,lz a,lz b,Code.nl]
 |.block _ a=>by simp only[ZI,lz a,Code.nl]
 |.scope a=>by simp only[ZI,lz a,Code.nl]
 |.loop a=>by simp only[ZI,yag,lz a,Code.nl]
 |.skip=>rfl
 |.region _ _ _=>rfl
 |.rangeFunc _ _ _ _=>rfl
 |.exit _=>rfl
 |.ret=>rfl
 |.label _=>rfl
 |.goto _=>rfl
 |.refuse _=>rfl
def wz{O:Type}(step:yL TD->yL ah->Kc O->yO O):Nat->yL TD->yL ah->Kc O->yO O
 |0,_,_,_=>ad
 |k+1,a,h,K=>step a h λex f g=>match ex with
  |.normal=>wz step k f g K
  |ex=>K ex f g
theorem ZoI{O:Type}{f:Code}{N:Nat}{step:yL TD->yL ah->Kc O->yO O}
 (hs:∀(a:yL TD)(h:yL ah)(K:Kc O)(out:O),a.length=N->step a h K=ab out->∃ex g j,K ex g j=ab out/\g.length=N/\Xn P f (TD.aG (lk h) a) (aK h) ex (TD.aG (lk j) g) (aK j)):
 ∀(k:Nat)(a:yL TD)(h:yL ah)(K:Kc O)(out:O),a.length=N->wz step k a h K=ab out->∃ex g j,K ex g j=ab out/\g.length=N/\oW P f (TD.aG (lk h) a) (aK h) ex (TD.aG (lk j) g) (aK j)
 |0,_,_,_,_,_,k=>by cases k
 |n+1,a,h,K,out,G,k=>by
  unfold wz at k;obtain⟨ex,z,A,l,E,F⟩:=hs _ _ _ _ G k;split at l
  .obtain⟨m,I,M,Q,R,S⟩:=ZoI hs n z A K out E l;exact⟨m,I,M,Q,R,UT [] F S⟩
  .rename_i y;exact⟨_,z,A,l,E,US y F⟩
def pE(m:Nat)(a:yL TD)(h:yL ah):yL (Nat×Lp)->yO (Σ bk:Lp,Ty.aO bk.I)
 |[]=>ad
 |q::r=>if Nat.beq q.1 m=ae then match (sy h.length q.2.sl q.2.es a h).bind (jK q.2.I) with
   |some v=>ab ⟨q.2,v⟩
   |none=>pE m a h r
  else pE m a h r
theorem wA{m:Nat}{a:yL TD}{h:yL ah}{b:Σ bk:Lp,Ty.aO bk.I}:∀{l:yL (Nat×Lp)},pE m a h l=ab b->(m,b.1)∈l/\∃vs,sy h.length b.1.sl b.1.es a h=ab vs/\jK b.1.I vs=ab b.2
 |[],k=>by cases k
 |q::r,k=>by
  unfold pE at k;split at k
  .rename_i f;split at k
   .rename_i v g;cases k;have e:=Nat.eq_of_beq_eq_true f;refine⟨?_,yf.1 g⟩;grind
   .obtain⟨j,y⟩:=wA k;grind
  .obtain⟨j,y⟩:=wA k;grind
def fV{O:Type}(P:yg)(fi:FI)(aJ:Sp P):Code->Nat->Nat->yL TD->yL ah->Kc O->yO O
 |.skip,_,_,a,h,K=>K .normal a h
 |.label _,_,_,a,h,K=>K .normal a h
 |.region _ ops l,_,_,a,h,K=>if l=ae then HP P fi.hi aJ ops a h λg j=>K .normal g j else sk P fi.hi aJ ops ops.toList a h λg j _=>K .normal g j
 |.seq x y,n,m,a,h,K=>ID (fi.gh.lookup m) a h λa h=>match pE m a h fi.bk with
  |none=>fV P fi aJ x n (m+1) a h λex g j=>match ex with
   |.normal=>fV P fi aJ y (n+Code.nl x) (m+1+Code.ns x) g j K
   |ex=>K ex g j
  |some z=>(z.1.L z.2).bind λo=>xT a.length z.1.xs o λex g j=>match ex with
   |.normal=>fV P fi aJ y (n+Code.nl x) (m+1+Code.ns x) g j K
   |ex=>K ex g j
 |.cond c x y,n,m,a,h,K=>((bn P a 0 c).bind TD.boolT).bind λb=>match c with
  |.tmp t=>if b=ae then fV P fi aJ x n m (a.set t (kF ae)) h K else fV P fi aJ y (n+Code.nl x) (m+Code.ns x) (a.set t (kF af)) h K
  |_=>if b=ae then fV P fi aJ x n m a h K else fV P fi aJ y (n+Code.nl x) (m+Code.ns x) a h K
 |.block id f,n,m,a,h,K=>fV P fi aJ f n m a h λex g j=>K (IG id ex) g j
 |.loop f,n,m,a,h,K=>match pE n a h fi.lp with
  |some A=>(A.1.L A.2).bind λo=>xT a.length A.1.xs o K
  |none=>wz (λa h K=>fV P fi aJ f (n+1) m a h K) fi.un a h K
 |.scope f,n,m,a,h,K=>fV P fi aJ f n m a h K
 |.exit id,_,_,a,h,K=>K (.exit id) a h
 |.ret,_,_,a,h,K=>K .ret a h
 |_,_,_,_,_,_=>ad
def XX:Code->yL Code
 |.seq a b=>a::(XX a++XX b)
 |.cond _ a b=>XX a++XX b
 |.block _ a=>XX a
 |.scope a=>XX a
 |.loop a=>XX a
 |_=>[]
theorem jP:∀c:Code,(XX c).length=Code.ns c
 |.seq a b=>by simp only[XX,yag,ym,jP a,jP b,Code.ns]
 |.cond _ a b=>by simp only[XX,ym,jP a,jP b,Code.ns]
 |.block _ a=>by simp only[XX,jP a,Code.ns]
 |.scope a=>by simp only[XX,jP a,Code.ns]
 |.loop a=>by simp only[XX,jP a,Code.ns]
 |.skip=>rfl
 |.region _ _ _=>rfl
 |.rangeFunc _ _ _ _=>rfl
 |.exit _=>rfl
 |.ret=>rfl
 |.label _=>rfl
 |.goto _=>rfl
 |.refuse _=>rfl
def jl(P:yg)(fi:FI)(N:Nat)(c:Code)(m:Nat):Prop:=∀(k:Nat)(x:Code),(XX c)[k]? =ab x->∀f,(m+k,f)∈fi.bk->f.Is P N x
theorem ZFu{fi:FI}{N:Nat}{x y c:Code}{m:Nat}(e:XX c=XX x++XX y)(h:jl P fi N c m):jl P fi N x m:=λk b f=>h k b (by
 rw[e,ybe (yu.1 f).1];exact f)
theorem ZC5{fi:FI}{N:Nat}{x y c:Code}{m:Nat}(e:XX c=XX x++XX y)(h:jl P fi N c m):jl P fi N y (m+Code.ns x):=λk b f g j=>h (Code.ns x+k) b (by
 rw[e,yaq (by rw[jP];omega),jP];rw[show Code.ns x+k - Code.ns x=k by omega];exact f) g (by rw[<-Nat.add_assoc];exact j)
theorem ZFv{fi:FI}{N:Nat}{x y:Code}{m:Nat}(h:jl P fi N (.seq x y) m):jl P fi N x (m+1):=λk b f g j=>h (k+1) b (by
 rw[XX,yak,ybe (yu.1 f).1];exact f) g (by rw[show m+(k+1)=m+1+k by omega];exact j)
theorem Zx8{fi:FI}{N:Nat}{x y:Code}{m:Nat}(h:jl P fi N (.seq x y) m):jl P fi N y (m+1+Code.ns x):=λk b f g j=>h (Code.ns x+k+1) b (by
 rw[XX,yak,yaq (by rw[jP];omega),jP];rw[show Code.ns x+k - Code.ns x=k by omega];exact f) g (by rw[show m+(Code.ns x+k+1)=m+1+Code.ns x+k by omega];exact j)
def kH(P:yg)(fi:FI)(N:Nat)(c:Code)(n:Nat):Prop:=∀(k:Nat)(b:Code),(ZI c)[k]? =ab (.loop b)->∀f,(n+k,f)∈fi.lp->f.Ok P N b
theorem Zx9{fi:FI}{N:Nat}{x y c:Code}{n:Nat}(e:ZI c=ZI x++ZI y)(h:kH P fi N c n):kH P fi N x n:=λk b f=>h k b (by
 rw[e,ybe (yu.1 f).1];exact f)
theorem Zt7{fi:FI}{N:Nat}{x y c:Code}{n:Nat}(e:ZI c=ZI x++ZI y)(h:kH P fi N c n):kH P fi N y (n+Code.nl x):=λk b f g j=>h (Code.nl x+k) b (by
 rw[e,yaq (by rw[lz];omega),lz];rw[show Code.nl x+k - Code.nl x=k by omega];exact f) g (by rw[<-Nat.add_assoc];exact j)
theorem WT{O:Type}{fi:FI}{aJ:Sp P}{out:O}{N:Nat}(ok:eK aJ):∀(c:Code)(n m:Nat)(a:yL TD)(h:yL ah)(K:Kc O),a.length=N->kH P fi N c n->jl P fi N c m->fV P fi aJ c n m a h K=ab out->
 ∃ex F G,K ex F G=ab out/\F.length=N/\Xn P c (TD.aG (lk h) a) (aK h) ex (TD.aG (lk G) F) (aK G)
 |.skip,n,m,a,h,K,g,E,f,k=>⟨_,_,_,k,g,ZC1⟩
 |.label _,n,m,a,h,K,g,E,f,k=>⟨_,_,_,k,g,ZAf⟩
 |.exit _,n,m,a,h,K,g,E,f,k=>⟨_,_,_,k,g,ZC2⟩
 |.ret,n,m,a,h,K,g,E,f,k=>⟨_,_,_,k,g,Zx6⟩
 |.region id ops draw,n,m,a,h,K,g,E,f,k=>by
  unfold fV at k
  cases draw with
  |true=>
   rw[yW rfl]at k;obtain⟨F,G,z,A,j⟩:=ZCY ok k
   exact⟨_,_,_,z,by rw[A,g],j id⟩
  |false=>
   rw[yX (by decide)]at k;obtain⟨F,G,hs,z,A,j⟩:=ZCZ ok k
   exact⟨_,_,_,z,by rw[A,g],j id⟩
 |.seq x y,n,m,a,h,K,g,E,f,k=>by
  have hx:=Zx9 (x:=x) (y:=y) rfl E;have hy:=Zt7 (x:=x) (y:=y) rfl E;unfold fV at k;obtain⟨a0,h0,k,W,gM⟩:=ZFr k;rw[g]at W
  suffices key:∃ex F G,K ex F G=ab out/\F.length=N/\Xn P (.seq x y) (TD.aG (lk h0) a0) (aK h0) ex (TD.aG (lk G) F) (aK G) by
   obtain⟨ex,F,G,g1,Q,X⟩:=key;exact⟨ex,F,G,g1,Q,ZH2 gM X⟩
  clear gM;have g:=W;clear W;split at k
  .obtain⟨ex,T,U,z,A,j⟩:=WT ok x _ _ _ _ _ g hx (ZFv f) k;split at z
   .obtain⟨ex2,a2,h2,k4,k5,k6⟩:=WT ok y _ _ _ _ _ A hy (Zx8 f) z;exact⟨_,_,_,k4,k5,pD j k6⟩
   .rename_i Y;exact⟨_,_,_,z,A,Zt5 Y j⟩
  .rename_i bkv R;obtain⟨bk,v⟩:=bkv;obtain⟨R,vs,j1,j2⟩:=wA R;dsimp only at R j1 j2 k;obtain⟨o,j3,k⟩:=yf.1 k;obtain⟨e,Z,s,g1,Q,X⟩:=vZ k;obtain⟨a3,h3,j4,j5⟩:=Zt6 rfl j1;have hok:=f 0 x rfl bk (by rw[Nat.add_zero];exact R);rw[g]at Q j4;have e1:=mE _ _ _ j2;have r:=hok v o j3 (a3,h3) (by rw[e1];exact j4) e Z s g1 Q
   have j:Xn P x (TD.aG (lk h0) a0) (aK h0) e.ex (TD.aG (lk s.2) s.1) (aK s.2):=by
    intro J I okJ hH yM;obtain⟨J1,p1,p2,p3,p4,p5⟩:=j5 J I okJ hH yM;rw[<-p1];refine wp_mono (r J1 I p4 p2 p5) ?_;rintro e' F w' ⟨rfl,J2,q1,q2,q3,q4,q5⟩;exact⟨rfl,J2,q1,q2,p3.trans q3,q4,q5⟩
   split at X
   .rename_i he;rw[he]at j;obtain⟨ex2,a2,h2,k4,k5,k6⟩:=WT ok y _ _ _ _ _ (vY Q) hy (Zx8 f) X;exact⟨_,_,_,k4,k5,pD j k6⟩
   .rename_i Y
    exact⟨_,_,_,X,vY Q,Zt5 Y j⟩
 |.cond c x y,n,m,a,h,K,g,E,f,k=>by
  have hx:=Zx9 (x:=x) (y:=y) rfl E;have hy:=Zt7 (x:=x) (y:=y) rfl E;have bx:=ZFu (x:=x) (y:=y) rfl f;have bY:=ZC5 (x:=x) (y:=y) rfl f;unfold fV at k;obtain⟨b,k0,k⟩:=yf.1 k;obtain⟨d,k00,k01⟩:=yf.1 k0;have hc:=Zt (L:=lk h) k00;rw[pj k01]at hc;split at k
  .rename_i t;cases k00;have e:=ZxW k01;split at k
   .rename_i M;subst M;rw[bE e]at k;obtain⟨ex,T,U,z,A,j⟩:=WT ok x _ _ _ _ _ g hx bx k;exact⟨_,_,_,z,A,ww hc j⟩
   .rename_i M;have M:b=af:=by simpa using M
    subst M;rw[bE e]at k;obtain⟨ex,T,U,z,A,j⟩:=WT ok y _ _ _ _ _ g hy bY k;exact⟨_,_,_,z,A,ww hc j⟩
  .split at k
   .rename_i M;subst M;obtain⟨ex,T,U,z,A,j⟩:=WT ok x _ _ _ _ _ g hx bx k;exact⟨_,_,_,z,A,ww hc j⟩
   .rename_i M;have M:b=af:=by simpa using M
    subst M;obtain⟨ex,T,U,z,A,j⟩:=WT ok y _ _ _ _ _ g hy bY k
    exact⟨_,_,_,z,A,ww hc j⟩
 |.block id l,n,m,a,h,K,g,E,f,k=>by
  unfold fV at k;obtain⟨ex,T,U,z,A,j⟩:=WT ok l _ _ _ _ _ g E f k
  exact⟨_,_,_,z,A,ZAd j⟩
 |.scope l,n,m,a,h,K,g,E,f,k=>by
  unfold fV at k;obtain⟨ex,T,U,z,A,j⟩:=WT ok l _ _ _ _ _ g E f k
  exact⟨_,_,_,z,A,ZAe j⟩
 |.loop l,n,m,a,h,K,g,E,f,k=>by
  unfold fV at k;split at k
  .rename_i lpv S;obtain⟨lp,v⟩:=lpv;obtain⟨S,vs,j1,j2⟩:=wA S;dsimp only at S j1 j2 k;obtain⟨o,j3,k⟩:=yf.1 k;obtain⟨e,Z,s,g1,Q,X⟩:=vZ k;obtain⟨a3,h3,j4,j5⟩:=Zt6 rfl j1;have hok:=E 0 l rfl lp (by rw[Nat.add_zero];exact S);rw[g]at Q j4;have e1:=mE _ _ _ j2;have r:=hok v o j3 (a3,h3) (by rw[e1];exact j4) e Z s g1 Q;refine⟨_,_,_,X,vY Q, ?_⟩;intro J I okJ hH yM;obtain⟨J1,p1,p2,p3,p4,p5⟩:=j5 J I okJ hH yM;rw[<-p1];refine wp_mono (r J1 I p4 p2 p5) ?_;rintro e' F w' ⟨rfl,J2,q1,q2,q3,q4,q5⟩;exact⟨rfl,J2,q1,q2,p3.trans q3,q4,q5⟩
  .have hl1:kH P fi N l (n+1):=λk b hk lp hl2=>E (k+1) b (by rw[ZI,yak];exact hk) lp (by rw[show n+(k+1)=n+1+k by omega];exact hl2);obtain⟨ex,T,U,z,A,j⟩:=ZoI (λa h K out g k=>WT ok l _ _ _ _ K g hl1 f k) _ _ _ _ _ g k
   exact⟨ex,T,U,z,A,UU j⟩
 |.rangeFunc _ _ _ _,_,_,_,_,_,_,_,_,k=>by cases k
 |.goto _,_,_,_,_,_,_,_,_,k=>by cases k
 |.refuse _,_,_,_,_,_,_,_,_,k=>by cases k
def pF(n0:Nat)(sl:cF)(es:yL bJ)(a:yL TD)(h:yL ah):yO (yL TV):=sy n0 sl es a h
theorem Zt8{n0:Nat}{sl:cF}{es:yL bJ}{a:yL TD}{h:yL ah}{vs:yL TV}(k:pF n0 sl es a h=ab vs):
 ∃f h3,VT a.length sl es vs=ab (f,h3)/\∀{c:Code}{ts:yL Dv}{H:yL aq}{ex:Ex},H.length=n0->Xn P c ts H ex (TD.aG (lk h) a) (aK h)->Xn P c ts H ex (TD.aG (lk h3) f) (aK h3):=ZC4 k
end
end Go.Ev
end
section
namespace Go.Ev
def Zc{I X:Type}(step:I->yO (I⊕X)):Nat->I->yO X
 |0,_=>ad
 |n+1,i=>(step i).bind λr=>match r with
  |.inl j=>Zc step n j
  |.inr x=>ab x
theorem ZFw:∃n:Nat,n=18446744073709551616:=⟨_,rfl⟩
noncomputable def yD:Nat:=Classical.choose ZFw
theorem jQ:yD=18446744073709551616:=Classical.choose_spec ZFw
section
variable{P:yg}
def wB(n0:Nat)(ex:Ex)(a:yL TD)(h:yL ah):(l:yL cv)->yO (cv.sum l)
 |[]=>ad
 |[e]=>if ex=e.ex then(pF n0 e.sl e.es a h).bind λvs=>jK e.ty vs else ad
 |e::f::r=>match (if ex=e.ex then(pF n0 e.sl e.es a h).bind λvs=>jK e.ty vs else ad) with
  |some x=>ab (Sum.inl x:Ty.aO e.ty⊕cv.sum (f::r))
  |none=>(wB n0 ex a h (f::r)).map λx=>(Sum.inr x:Ty.aO e.ty⊕cv.sum (f::r))
theorem Zt9{n0:Nat}{ex:Ex}{a:yL TD}{h:yL ah}:∀{l:yL cv}{o:cv.sum l},wB n0 ex a h l=ab o->∀e vs,nX l o e vs->ex=e.ex/\pF n0 e.sl e.es a h=ab vs
 |[],_,k,_,_,_=>by cases k
 |[e],o,k,x,vs,hs=>by
  obtain⟨rfl,rfl⟩:=hs;have k:(if ex=x.ex then(pF n0 x.sl x.es a h).bind λvs=>jK x.ty vs else ad)=ab o:=k
  split at k
  .rename_i m;obtain⟨A,g,j⟩:=yf.1 k;exact⟨m,by rw[g,mE _ _ _ j]⟩
  .cases k
 |e::f::r,o,k,x,vs,hs=>by
  simp only[wB]at k;split at k
  .rename_i y z;cases k;obtain⟨rfl,rfl⟩:=hs;split at z
   .rename_i m;obtain⟨A,g,j⟩:=yf.1 z;exact⟨m,by rw[g,mE _ _ _ j]⟩
   .cases z
  .obtain⟨y,g,j⟩:=Zd k;subst j;exact Zt9 g x vs hs
def pG(P:yg)(fi:FI)(aJ:Sp P)(f:Code)(n N:Nat)(sl:cF)(es:yL bJ)(I:yL Ty)(xs:yL cv):Ty.aO I->yO (Ty.aO I⊕cv.sum xs):=λv=>
 (VT N sl es (dB I v)).bind λs=>fV P fi aJ f (n+1) 0 s.1 s.2 λex a h=>match ex with
   |.normal=>(pF s.2.length sl es a h).bind λvs=>(jK I vs).map .inl
   |ex=>(wB s.2.length ex a h xs).map .inr
theorem ZFx{fi:FI}{aJ:Sp P}{g:Code}{n N:Nat}{sl:cF}{es:yL bJ}{I:yL Ty}{xs:yL cv}(ok:eK aJ)(hl:kH P fi N g (n+1))(l:jl P fi N g 0):
 ∀(f:Nat)(v:Ty.aO I)(o:cv.sum xs),Zc (pG P fi aJ g n N sl es I xs) f v=ab o->∀s,VT N sl es (dB I v)=ab s->∀e vs j,nX xs o e vs->VT N e.sl e.es vs=ab j->
  oW P g (TD.aG (lk s.2) s.1) (aK s.2) e.ex (TD.aG (lk j.2) j.1) (aK j.2)
 |0,_,_,h,_,_,_,_,_,_,_=>by cases h
 |f+1,v,o,h,s,hs,e,vs,j,G,hs'=>by
  unfold Zc at h;obtain⟨r,z,M⟩:=yf.1 h;unfold pG at z;rw[hs,ya]at z;obtain⟨ex,a,Z,m,Q,R⟩:=WT ok g _ _ _ _ _ (vY hs) hl l z;split at m
  .obtain⟨ws,U,m⟩:=yf.1 m;obtain⟨w,A,rfl⟩:=Zd m;obtain⟨S,T,y,E⟩:=Zt8 (P:=P) U;rw[Q]at y;have W:=E (ZW _) R;have:=ZFx ok hl l f w o M (S,T) (by rw[mE _ _ _ A];exact y) e vs j G hs';exact UT [] W this
  .rename_i F;obtain⟨w,A,rfl⟩:=Zd m;cases M;obtain⟨X,Y⟩:=Zt9 A e vs G;obtain⟨S,T,y,E⟩:=Zt8 (P:=P) Y;rw[Q,hs']at y;cases y;subst X;exact US F (E (ZW _) R)
theorem ZLz{fi:FI}{aJ:Sp P}{g:Code}{n N:Nat}{sl:cF}{es:yL bJ}{I:yL Ty}{xs:yL cv}{step:Ty.aO I->yO (Ty.aO I⊕cv.sum xs)}(f:Nat)(ok:eK aJ)(hl:kH P fi N g (n+1))(j:jl P fi N g 0)
 (h:∀v,pG P fi aJ g n N sl es I xs v=step v):Lp.Ok P N g ⟨sl,es,I,xs,Zc step f⟩:=by
 intro v o l s hs e vs m y hs';have z:pG P fi aJ g n N sl es I xs=step:=funext h;subst z;exact UU (ZFx ok hl j f v o l s hs e vs m y hs')
theorem mI:∀(c:Code)(k:Nat)(b:Code),(ZI c)[k]? =ab (.loop b)->∀j x,(ZI b)[j]? =ab x->(ZI c)[k+1+j]? =ab x
 |.seq x y,k,b,h,j,z,f=>by
  simp only[ZI]at h ⊢;rcases Nat.lt_or_ge k (ZI x).length with hl|hl
  .rw[ybe hl]at h;have:=mI x k b h j z f;grind
  .rw[yaq hl]at h;have:=mI y _ b h j z f
   grind
 |.cond _ x y,k,b,h,j,z,f=>by
  simp only[ZI]at h ⊢;rcases Nat.lt_or_ge k (ZI x).length with hl|hl
  .rw[ybe hl]at h;have:=mI x k b h j z f;grind
  .rw[yaq hl]at h;have:=mI y _ b h j z f
   grind
 |.block _ a,k,b,h,j,z,f=>mI a k b h j z f
 |.scope a,k,b,h,j,z,f=>mI a k b h j z f
 |.loop a,k,b,h,j,z,f=>by
  simp only[ZI]at h ⊢
  cases k with
  |zero=>
   simp only[yam,yn,Code.loop.injEq]at h;subst h;rw[show 0+1+j=j+1 by omega,yak]
   exact f
  |succ k=>
   rw[yak]at h;rw[show k+1+1+j=(k+1+j)+1 by omega,yak]
   exact mI a k b h j z f
 |.skip,_,_,h,_,_,_=>by simp[ZI]at h
 |.region _ _ _,_,_,h,_,_,_=>by simp[ZI]at h
 |.rangeFunc _ _ _ _,_,_,h,_,_,_=>by simp[ZI]at h
 |.exit _,_,_,h,_,_,_=>by simp[ZI]at h
 |.ret,_,_,h,_,_,_=>by simp[ZI]at h
 |.label _,_,_,h,_,_,_=>by simp[ZI]at h
 |.goto _,_,_,h,_,_,_=>by simp[ZI]at h
 |.refuse _,_,_,h,_,_,_=>by simp[ZI]at h
def mJ(P:yg)(g:yw)(N:Nat):yL (Nat×Lp)->Prop
 |[]=>True
 |q::r=>q.2.Ok P N (iH P g q.1)/\mJ P g N r
theorem II{g:yw}{N:Nat}:∀{l:yL (Nat×Lp)}{n:Nat}{lp:Lp},mJ P g N l->(n,lp)∈l->lp.Ok P N (iH P g n)
 |[],_,_,_,h=>by cases h
 |q::r,n,lp,f,h=>by
  rcases List.mem_cons.1 h with h|h
  .subst h;exact f.1
  .exact II f.2 h
def ZR(P:yg)(g:yw):Code:=
 match P.funcs[g]? with
 |some fn=>fn.body.getD .skip
 |none=>.skip
theorem IJ{g:yw}{k:Nat}{b:Code}(h:(ZI (ZR P g))[k]? =ab (.loop b)):iH P g k=b:=by
 unfold iH UX;unfold ZR at h;split at h
 .rename_i fn j;rw[j];dsimp only
  cases f:fn.body with
  |none=>rw[f]at h;simp[ZI]at h
  |some c=>
   rw[f]at h;dsimp only[Option.getD]at h ⊢;rw[ycx,h];rfl
 .simp[ZI]at h
theorem ZH6{g:yw}{fi:FI}{N:Nat}(h:mJ P g N fi.lp):kH P fi N (ZR P g) 0:=by
 intro k b j lp f;rw[yar]at f;rw[<-IJ j];exact II h f
theorem ZFy{g:yw}{fi:FI}{N k:Nat}(f:(ZI (ZR P g))[k]? =ab (.loop (iH P g k)))(h:mJ P g N fi.lp):kH P fi N (iH P g k) (k+1):=by
 intro j b l lp m;have:=mI _ _ _ f j _ l;rw[<-IJ this];exact II h m
def wC(P:yg)(g k:Nat):Bool:=
 match (ZI (ZR P g))[k]? with
 |some (.loop _)=>ae
 |_=>af
theorem ZsR{g k:Nat}(h:wC P g k=ae):(ZI (ZR P g))[k]? =ab (.loop (iH P g k)):=by
 unfold wC at h;split at h
 .rename_i b f;rw[f,IJ f]
 .cases h
def io(c:Code)(m:Nat):Code:=((XX c)[m]?).getD .skip
def pH(P:yg)(N:Nat)(c:Code):yL (Nat×Lp)->Prop
 |[]=>True
 |q::r=>q.2.Is P N (io c q.1)/\pH P N c r
theorem IK{N:Nat}{c:Code}:∀{l:yL (Nat×Lp)}{m:Nat}{bk:Lp},pH P N c l->(m,bk)∈l->bk.Is P N (io c m)
 |[],_,_,_,h=>by cases h
 |q::r,m,bk,f,h=>by
  rcases List.mem_cons.1 h with h|h
  .subst h;exact f.1
  .exact IK f.2 h
theorem ZBw{fi:FI}{N:Nat}{c:Code}(h:pH P N c fi.bk):jl P fi N c 0:=by
 intro k x g bk f;rw[yar]at f;have:=IK h f;unfold io at this;grind
theorem IL{fi:FI}{aJ:Sp P}{g k N:Nat}{sl:cF}{es:yL bJ}{I:yL Ty}{xs:yL cv}{step:Ty.aO I->yO (Ty.aO I⊕cv.sum xs)}(ok:eK aJ)(hl:mJ P g N fi.lp:=by exact True.intro)(f:wC P g k=ae:=by kernel_rfl)
 (h:∀v,pG P fi aJ (iH P g k) k N sl es I xs v=step v:=by intro v;kernel_rfl) (hb:pH P N (iH P g k) fi.bk:=by exact True.intro):Lp.Ok P N (iH P g k) ⟨sl,es,I,xs,Zc step yD⟩:=
 ZLz yD ok (ZFy (ZsR f) hl) (ZBw hb) h
def mK{O:Type}(P:yg)(a:yL TD)(h:yL ah):yL ResultVar->(yL TD->yL ao->yO O)->yO O
 |[],K=>K [] []
 |.tmp t::r,K=>mK P a h r λf hs=>K (a.getD t .an::f) hs
 |.cell t g::r,K=>match a.getD t .an with
  |.ak id j=>(nT h id).bind λd=>fk (lk h) j d λsub hs _=>if gb P g (sub.er (lk h))=ae then mK P a h r λf hs'=>K (sub::f) (hs++hs') else ad
  |_=>ad
theorem wD{O:Type}{a:yL TD}{h:yL ah}{out:O}:∀(l:yL ResultVar)(K:yL TD->yL ao->yO O),mK P a h l K=ab out->∃f hs C,K f hs=ab out/\aX C/\∀yK,gx P (TD.aG (lk h) a) (aK h) l (hs++yK)=ab (C,TD.aG (lk h) f)
 |[],K,k=>⟨[],[],[],k,zP,λ_=>rfl⟩
 |.tmp t::r,K,k=>by
  obtain⟨f,hs,C,g,j,m⟩:=wD r _ k;refine⟨_,_,C,g,j,λyK=> ?_⟩
  simp only[gx,m yK,yae,vE,TD.aG]
 |.cell t S::r,K,k=>by
  unfold mK at k;split at k
  .rename_i id y z;obtain⟨d,A,k⟩:=yf.1 k;obtain⟨st,T,E⟩:=rI A;obtain⟨sub,hs,F,C,G,I,M,_⟩:=Xo _ _ _ _ k;obtain⟨Q,R⟩:=Za G;obtain⟨f,hs',C',g,j,m⟩:=wD r _ R;refine⟨_,_,C++[ew y=Wc y]++C',g,Zl.2 ⟨Zl.2 ⟨I,(XK _).symm,aB⟩,j⟩,λyK=> ?_⟩;unfold gx;rw[vE,z];dsimp only[TD.er];rw[E];dsimp only;rw[yac,M (hs'++yK)];dsimp only;rw[yW Q,m yK];rfl
  .cases k
def kI:yL TD->TD
 |[d]=>d
 |f=>.bm f
theorem wE{L:Lk}(f:yL TD):(kI f).er L=kU (TD.aG L f):=by
 match f with
 |[]=>rfl
 |[d]=>rfl
 |_::_::_=>rfl
def TD.arg(L:Lk):TD->TD
 |.own id f t c=>.p (.sl f t (Yb L id t c))
 |.agg g=>TD.dI L g
 |d=>d
theorem ZFz{L:Lk}(d:TD):(d.arg L).er L=(d.er L).arg:=by
 cases d <;> first|rfl|exact ZA6 _
def ZKk(h:yL ah)(rs:Sh)(es:yL bJ)(n0:Nat)(r:TD):yO (yL Nat):=
 let l:=HA h es 0 ((yo n0).map (λi=>(i,i))++Sh.ids rs r)
 ((yo es.length).drop n0).mapM λj=>l.lookup j
def wF(h:yL ah)(n0:Nat)(g:yL TD)(e:cv):yO (Ty.aO e.ty):=
 match e.sl with
 |[(0,rs)]=>(ZKk h rs e.es n0 (kI g)).bind λf=>
  if once (yo n0++f) then(match Dv.rn (bc (yo n0++f)) ((kI g).er (lk h)) with
   |some _=>(kI g).rn (bc (yo n0++f))
   |none=>(kI (g.map (TD.arg (lk h)))).rn (bc (yo n0++f))).bind λr=>
   (WS h (yo n0++f) (yo n0++f)).bind λj=>(Sh.mt (lk j) rs r).bind λq=>(bJ.eR (lk j) e.es j).bind λw=>jK e.ty (q.2++w.2)
  else ad
 |_=>ad
def sA(h:yL ah)(n0:Nat)(g:yL TD):(l:yL cv)->yO (cv.sum l)
 |[]=>ad
 |[e]=>wF h n0 g e
 |e::f::r=>match wF h n0 g e with
  |some x=>ab (Sum.inl x:Ty.aO e.ty⊕cv.sum (f::r))
  |none=>(sA h n0 g (f::r)).map λx=>(Sum.inr x:Ty.aO e.ty⊕cv.sum (f::r))
theorem Zra{h:yL ah}{n0:Nat}{g:yL TD}:∀{l:yL cv}{o:cv.sum l},sA h n0 g l=ab o->∀e vs,nX l o e vs->∃x,wF h n0 g e=ab x/\vs=dB e.ty x
 |[],_,k,_,_,_=>by cases k
 |[e],o,k,x,vs,hs=>by
  obtain⟨rfl,rfl⟩:=hs
  exact⟨o,k,rfl⟩
 |e::f::r,o,k,x,vs,hs=>by
  simp only[sA]at k;split at k
  .rename_i y z;cases k;obtain⟨rfl,rfl⟩:=hs;grind
  .obtain⟨y,j,m⟩:=Zd k;subst m;exact Zra j x vs hs
def IM(P:yg)(fi:FI)(aJ:Sp P)(g:yw)(f:yL Sh)(es:yL bJ)(ins:yL Ty)(xs:yL cv):Ty.aO ins->yO (cv.sum xs):=λx=>
 match P.funcs[g]? with
 |some fn=>match fn.body with
  |some c=>(Sh.fills f (dB ins x)).bind λq=>(bJ.fills es q.2).bind λw=>if w.2.isEmpty then
    fV P fi aJ c 0 0 (q.1++yx (fn.ntmps - q.1.length) .an) w.1 λj a h=>match j with
     |.exit _=>ad
     |_=>mK P a h fn.results.toList λl _=>sA h w.1.length l xs
    else ad
  |none=>ad
 |none=>ad
def iq(P:yg)(g:yw):Nat:=
 match P.funcs[g]? with
 |some fn=>fn.ntmps
 |none=>0
theorem sB{fi:FI}{aJ:Sp P}{g:yw}{ps:yL Sh}{es:yL bJ}{ins:yL Ty}{xs:yL cv}{M:Ty.aO ins->yO (cv.sum xs)}(ok:eK aJ)(hl:mJ P g (iq P g) fi.lp:=by exact True.intro)(hn:ps.length<=iq P g:=by decide+kernel)
 (h:∀x,IM P fi aJ g ps es ins xs x=M x:=by intro v;kernel_rfl) (hb:pH P (iq P g) (ZR P g) fi.bk:=by exact True.intro):Fs.Ok (⟨g,ps,es,ins,xs,M⟩:Fs P):=by
 intro x o j;have j:M x=ab o:=j;rw[<-h x]at j;have F:=ZH6 hl;unfold IM at j;split at j
 .rename_i fn hf;split at j
  .rename_i c G;obtain⟨q,h1,j⟩:=yf.1 j;obtain⟨w,h2,j⟩:=yf.1 j;obtain⟨h3,j⟩:=Za j;have hN:iq P g=fn.ntmps:=by unfold iq;rw[hf]
   have hc:ZR P g=c:=by unfold ZR;rw[hf];dsimp only;rw[G];rfl
   rw[hc,hN]at F hb;have hb0:=ZBw hb;rw[hN]at hn
   have zW:(q.1++yx (fn.ntmps - q.1.length) TD.an).length=fn.ntmps:=by
    rw[ym,List.length_replicate,GV h1];omega
   obtain⟨W,a,l,I,k2,k3⟩:=WT ok c _ _ _ _ _ zW F hb0 j
   have A:(W=.ret\/W=.normal)/\(mK P a l fn.results.toList λX _=>sA l w.1.length X xs)=ab o:=by
    cases W with
    |exit _=>cases I
    |normal=>exact⟨.inr rfl,I⟩
    |ret=>exact⟨.inl rfl,I⟩
   obtain⟨A,I⟩:=A;obtain⟨X,hs,C,f,g2,g3⟩:=wD _ _ I;refine⟨q.1,q.2,w.1,h1, ?_,λe vs s' Q m=> ?_⟩
   .grind
   obtain⟨o1,f,hvs⟩:=Zra f e vs Q;unfold wF at f;split at f
   case h_2=>cases f
   rename_i rs hsl;obtain⟨R,g4,f⟩:=yf.1 f;obtain⟨g5,f⟩:=Za f;obtain⟨r,g6,f⟩:=yf.1 f;obtain⟨Y,Z,f⟩:=yf.1 f;obtain⟨z,g8,f⟩:=yf.1 f;obtain⟨y,g9,f⟩:=yf.1 f;obtain⟨b1,b2⟩:=rW g9;have S:∀id t,Yb (lk Y) id t ad=Yb (lk y.1) id t ad:=λid t=>by rw[b2]
   have eo:=mE _ _ _ f
   have E:s'=([z.1],y.1):=by
    rw[hvs,eo,hsl]at m;unfold VT at m;rw[show rY [(0,rs)] 1=[rs] from rfl]at m
    simp only[Sh.fills,nV _ _ _ g8,ya,yae]at m;have:=rV g9 [];grind
   subst E;refine⟨z.1,rfl, ?_⟩
   have T:fin P fn (TD.aG (lk l) a) (aK l) (aK w.1).length R hs=ab (C,r.er (lk Y),aK Y):=by
    unfold fin;have:=g3 [];rw[ybf]at this;rw[this];dsimp only;rw[ZW,g5, <-wE,show aQ (aK l) _ _=ab (aK Y) from V7 (il Z) Z]
    split at g6
    .rename_i r0 U;have e4:=jL (il Z) _ _ g6;rw[e4]
    .rename_i U;have e4:=jL (il Z) _ _ g6;rw[wE,ZM,ybd]at e4
     rw[U,show(TD.aG (lk l) X).map Dv.arg=X.map (TD.er (lk l) ∘ TD.arg (lk l)) by
      rw[ZM,ybd];exact yci λd _=>(ZFz d).symm,e4]
   have zB:Xn P c (TD.aG (lk w.1) q.1++yx (fn.ntmps - (TD.aG (lk w.1) q.1).length) .an) (aK w.1) W (TD.aG (lk l) a) (aK l):=by
    have e5:TD.aG (lk w.1) (q.1++yx (fn.ntmps - q.1.length) TD.an)=TD.aG (lk w.1) q.1++yx (fn.ntmps - (TD.aG (lk w.1) q.1).length) .an:=by
     rw[ZA0,ZM,ZM,yau,List.map_replicate];rfl
    grind
   exact vn (qS hf G zB A T g2) (mD S _ _ _ g8) (rX S g9)
  .cases j
 .cases j
end
theorem sC{P:yg}{g:yw}{t:Ty}{xs:yL cv}{MA:Ty.aO [.sl t]->yO (cv.sum xs)}{MB:Ty.aO []->yO (cv.sum xs)}(I:Fs.Ok (⟨g,[.sl ae t],[],[.sl t],xs,MA⟩:Fs P))(M:Fs.Ok (⟨g,[.nil t],[],[],xs,MB⟩:Fs P))
 (h:MB ()=MA ([]:yL t.aU)):Fs.Ok (⟨g,[.v (.sl t)],[],[.sl t],xs,MA⟩:Fs P):=by
 intro l o z;have j:∀(l:yL t.aU),Ty.cast (.sl t) (.sl t) l=ab l:=λl=>YS (.sl t) l;obtain⟨A,R1,H1,f1,f2,f3⟩:=I l o z
 have Q:A=[.p (.sl (ab ae) t l)]/\R1=[]:=by
  have:Sh.fills [.sl ae t] [(⟨.sl t,l⟩:TV)]=ab (A,R1):=f1;simp only[Sh.fills,Sh.fill]at this;grind
 obtain⟨rfl,rfl⟩:=Q;cases f2;refine⟨[.p (.v (.sl t) l)],[],[], ?_,rfl,λe vs E hs F=> ?_⟩
 .show Sh.fills [.v (.sl t)] [(⟨.sl t,l⟩:TV)]=_;simp only[Sh.fills,Sh.fill];rw[j l];rfl
 .obtain⟨r,G,R⟩:=f3 e vs E hs F;refine⟨r,G, ?_⟩;refine ZHn (xs:=l.map t.enc) R λm=> ?_;have m:l=[]:=List.map_eq_nil_iff.1 m;subst m;obtain⟨W,R2,H2,S,T,U⟩:=M () o (by rw[<-z];exact h);cases S;cases T;obtain⟨X,f,y⟩:=U e vs E hs F;rw[G]at f;cases f;exact y
def og(n:Int):yO aLu:=if(ag (0<=n)&&ag (n.toNat<=Zs))=ae then ab [] else ad
theorem ZH8{P:yg}{g:yw}{e:yc}(h:∀n:Nat,n<=Zs->ca P g [.p (.sl (ab af) 1 []),.p (.int .i64 (n:Int))] [] (.own 0 ad 1 []) [.log 1 e []]):
 Fs.Ok (⟨g,[.nil .u8,.v (.int .i64)],[],[.int .i64],[⟨.ret,[(0,.own 0 .u8)],[.log .u8 e],[.sl .u8]⟩],og⟩:Fs P):=by
 intro n o f
 have j:∀(n:Int),og n=ab o->(0<=n/\n.toNat<=Zs)/\([]:yL yB)=o:=λn f=>by
  unfold og at f;grind
 obtain⟨l,m⟩:=j n f;cases m;refine⟨[.p (.sl (ab af) .u8 []),.p (.v (.int .i64) n)],[],[],rfl,rfl,λx vs z hs y=> ?_⟩;obtain⟨rfl,rfl⟩:=hs;cases y;refine⟨_,rfl, ?_⟩;have:=h (Int.toNat n) l.2;rw[Int.toNat_of_nonneg l.1]at this;exact this
mutual
theorem IN:∀(s:Sh)(vs w:yL TV)(q:TD×yL TV),s.fill vs=ab q->s.fill (vs++w)=ab (q.1,q.2++w)
 |.v t,vs,w,q,h=>by
  cases vs with
  |nil=>cases h
  |cons x r=>
   obtain⟨y,f,rfl⟩:=Zd (show(Ty.cast x.1 t x.2).map (λy=>((TD.p (.v t y),r):TD×yL TV))=ab q from h)
   show(Ty.cast x.1 t x.2).map (λy=>((TD.p (.v t y),r++w):TD×yL TV))=_
   rw[f];rfl
 |.elem t,vs,w,q,h=>by
  cases vs with
  |nil=>cases h
  |cons x r=>
   obtain⟨y,f,rfl⟩:=Zd (show(Ty.cast x.1 t x.2).map (λy=>((TD.elem (.v t y),r):TD×yL TV))=ab q from h)
   show(Ty.cast x.1 t x.2).map (λy=>((TD.elem (.v t y),r++w):TD×yL TV))=_
   rw[f];rfl
 |.sl m t,vs,w,q,h=>by
  cases vs with
  |nil=>cases h
  |cons x r=>
   obtain⟨y,f,rfl⟩:=Zd (α:=(Ty.sl t).aU) (show(Ty.cast x.1 (.sl t) x.2).map (λ(y:yL t.aU)=>((TD.p (.sl (ab m) t y),r):TD×yL TV))=ab q from h)
   show(Ty.cast x.1 (.sl t) x.2).map (λ(y:yL t.aU)=>((TD.p (.sl (ab m) t y),r++w):TD×yL TV))=_
   rw[f];rfl
 |.nil _,vs,w,q,h=>by cases h;rfl
 |.own _ _,vs,w,q,h=>by cases h;rfl
 |.ak _ _,vs,w,q,h=>by cases h;rfl
 |.mp _,vs,w,q,h=>by cases h;rfl
 |.rw _,vs,w,q,h=>by cases h;rfl
 |.rp j s p,vs,w,q,h=>by
  cases vs with
  |nil=>cases h
  |cons x r=>
   obtain⟨y,f,rfl⟩:=Zd (α:=Int) (show(Ty.cast x.1 (.int .i64) x.2).map (λ(i:Int)=>((TD.rp j (.ix i.toNat s::p),r):TD×yL TV))=ab q from h)
   show(Ty.cast x.1 (.int .i64) x.2).map (λ(i:Int)=>((TD.rp j (.ix i.toNat s::p),r++w):TD×yL TV))=_
   rw[f];rfl
 |.view _ _ _ _ _,vs,w,q,h=>by cases h;rfl
 |.rv _ _ _ _ _,vs,w,q,h=>by cases h;rfl
 |.fn g l,vs,w,q,h=>by
  simp only[Sh.fill]at h ⊢;obtain⟨y,f,rfl⟩:=Zd h
  rw[cJ l vs w y f];rfl
 |.agg l,vs,w,q,h=>by
  simp only[Sh.fill]at h ⊢;obtain⟨y,f,rfl⟩:=Zd h
  rw[cJ l vs w y f];rfl
 |.arr n s l,vs,w,q,h=>by
  simp only[Sh.fill]at h ⊢;obtain⟨y,f,rfl⟩:=Zd h
  rw[cJ l vs w y f];rfl
 |.bm l,vs,w,q,h=>by
  simp only[Sh.fill]at h ⊢;obtain⟨y,f,rfl⟩:=Zd h
  rw[cJ l vs w y f];rfl
 |.iface t x,vs,w,q,h=>by
  simp only[Sh.fill]at h ⊢;obtain⟨y,f,rfl⟩:=Zd h
  rw[IN x vs w y f];rfl
 |.rU t u x,vs,w,q,h=>by
  cases vs with
  |nil=>cases h
  |cons z r=>
   simp only[Sh.fill,yaf]at h ⊢
   cases A:Ty.cast z.1 .bool z.2 with
   |none=>rw[A]at h;cases h
   |some b=>
    rw[A]at h;obtain⟨y,f,rfl⟩:=Zd h;show((Sh.fill x (r++w)).map _)=_
    rw[IN x r w y f];rfl
 |.bW,vs,w,q,h=>by cases h;rfl
 |.fn0,vs,w,q,h=>by cases h;rfl
 |.eE,vs,w,q,h=>by cases h;rfl
 |.cB,vs,w,q,h=>by cases h;rfl
 |.an,vs,w,q,h=>by cases h;rfl
theorem cJ:∀(l:yL Sh)(vs w:yL TV)(q:yL TD×yL TV),Sh.fills l vs=ab q->Sh.fills l (vs++w)=ab (q.1,q.2++w)
 |[],vs,w,q,h=>by simp only[Sh.fills]at h;cases h;rfl
 |s::r,vs,w,q,h=>by
  simp only[Sh.fills]at h ⊢;obtain⟨a,f,h⟩:=yf.1 h;obtain⟨b,g,rfl⟩:=Zd h;rw[IN s vs w a f,ya,cJ r a.2 w b g];rfl
end
theorem ZKl{P:yg}{g:yw}{t:Ty}{e:yc}{yK:yL Sh}{i1 i2:yL Ty}{xs:yL cv}{M:Ty.aO i2->yO (cv.sum xs)}(pk:Ty.aO i1->Ty.aO i2)(h:Fs.Ok (⟨g,.own 0 t::yK,[.log t e],i2,xs,M⟩:Fs P))
 (hp:∀x,dB i2 (pk x)=dB i1 x++[⟨.sl t,([]:yL t.aU)⟩]) (E:∀x,∃a,Sh.fills yK (dB i1 x)=ab (a,[])):Fs.Ok (⟨g,.nil t::yK,[],i1,xs,λx=>M (pk x)⟩:Fs P):=by
 intro x o F;obtain⟨f,R,H,f1,f2,f3⟩:=h (pk x) o F;obtain⟨a,A⟩:=E x;have f1:Sh.fills (.own 0 t::yK) (dB i2 (pk x))=ab (f,R):=f1;rw[hp x]at f1;simp only[Sh.fills,Sh.fill,ya,cJ yK _ _ _ A,yae,yn,yq,yz]at f1;obtain⟨rfl,rfl⟩:=f1;have f2:((Ty.cast (.sl t) (.sl t) ([]:yL t.aU)).map λ(y:yL t.aU)=>((ah.log t e y,[]):ah×yL TV)).bind (λa=>(bJ.fills [] a.2).map λb=>(a.1::b.1,b.2))=ab (H,[]):=f2;have l:Ty.cast (.sl t) (.sl t) ([]:yL t.aU)=ab ([]:yL t.aU):=YS (.sl t) ([]:yL t.aU);rw[l]at f2;cases f2;refine⟨.p (.sl (ab af) t [])::a,[],[], ?_,rfl,λG vs m hs z=> ?_⟩
 .show Sh.fills (.nil t::yK) (dB i1 x)=_;simp only[Sh.fills,Sh.fill,ya,A,yae]
 .obtain⟨r,I,j⟩:=f3 G vs m hs z;refine⟨r,I, ?_⟩
  have Q:TD.aG (lk [.log t e []]) (.own 0 ad t ad::a)=.own 0 ad t.size []::TD.aG (lk []) a:=by
   have S:TD.aG (lk [.log t e []]) a=TD.aG (lk []) a:=(cD (λid U=>vP (H:=[]) (T:=t) (e:=e) id U) a).symm;rw[TD.aG,S];congr 1;rw[TD.er,show Yb (lk [.log t e []]) 0 t ad=[] from pp (H:=[])]
   rfl
  have j:ca P g (TD.aG (lk [.log t e []]) (.own 0 ad t ad::a)) (aK [.log t e []]) (r.er (lk m.2)) (aK m.2):=j;rw[Q]at j;exact Zxg (H:=[]) (e:=e) j
section
variable{P:yg}
theorem bg(h:HI)(lp:yL (Nat×Lp))(l:yL (Fs P))(a:dA l){g:yw}{f:yL Sh}{es:yL bJ}{ins:yL Ty}{xs:yL cv}{M:Ty.aO ins->yO (cv.sum xs)}(hl:mJ P g (iq P g) lp:=by exact True.intro)(hn:f.length<=iq P g:=by decide+kernel)
 (k:∀x,IM P { hi:=h,lp:=lp} { l:=l} g f es ins xs x=M x:=by intro v;kernel_rfl):Fs.Ok (⟨g,f,es,ins,xs,M⟩:Fs P):=sB (mG a) hl hn k
abbrev Lp.cj(L:Lp)(P:yg)(g k:Nat):Prop:=L.Ok P (iq P g) (iH P g k)
theorem ZQ(h:HI)(lp:yL (Nat×Lp))(l:yL (Fs P))(a:dA l){g k N:Nat}{sl:cF}{es:yL bJ}{I:yL Ty}{xs:yL cv}{step:Ty.aO I->yO (Ty.aO I⊕cv.sum xs)}(hl:mJ P g N lp:=by exact True.intro)(f:wC P g k=ae:=by kernel_rfl)
 (j:∀v,pG P { hi:=h,lp:=lp} { l:=l} (iH P g k) k N sl es I xs v=step v:=by intro v;kernel_rfl):Lp.Ok P N (iH P g k) ⟨sl,es,I,xs,Zc step yD⟩:=IL (mG a) hl f j
end
end Go.Ev
end
section
namespace Go.Ev
universe u
variable{O:Type u}
def fd(n:Nat)(k:Nat->O):O:=Nat.rec (motive:=λ_=>O) (k 0) (λm _=>k (Nat.succ m)) n
theorem YY(n:Nat)(k:Nat->O):fd n k=k n:=by cases n <;> rfl
def hJ{α:Type}(f:α->(α->O)->O):yL α->(yL α->O)->O
 |[],k=>k []
 |a::r,k=>f a λa=>hJ f r λr=>k (a::r)
theorem WU{α:Type}{f:α->(α->O)->O}(g:∀a k,f a k=k a):∀(l:yL α)(k:yL α->O),hJ f l k=k l
 |[],k=>rfl
 |a::r,k=>by rw[hJ,g,WU g r]
def IP(n:Int)(k:Int->O):O:=match n with
 |.ofNat n=>fd n λn=>k (.ofNat n)
 |.negSucc n=>fd n λn=>k (.negSucc n)
theorem ZH9(n:Int)(k:Int->O):IP n k=k n:=by cases n <;> (rw[IP,YY])
def oh(b:Bool)(k:Bool->O):O:=match b with
 |true=>k ae
 |false=>k af
theorem pI(b:Bool)(k:Bool->O):oh b k=k b:=by cases b <;> rfl
mutual
def Ty.fo:(t:Ty)->t.aU->(t.aU->O)->O
 |.int _,x,k=>IP x k
 |.u8,x,k=>fd (UInt8.toNat x) λn=>k (UInt8.ofNat n)
 |.u32,x,k=>fd (UInt32.toNat x) λn=>k (ych n)
 |.u64,x,k=>fd (UInt64.toNat x) λn=>k (yan n)
 |.bool,x,k=>oh x k
 |.str,x,k=>k x
 |.sl t,x,k=>hJ (Ty.fo t) x k
 |.arr _ t,x,k=>hJ (Ty.fo t) x k
 |.st f,x,k=>Ty.fe f x k
def Ty.fe:(f:yL Ty)->Ty.aO f->(Ty.aO f->O)->O
 |[],_,k=>k ()
 |[t],x,k=>Ty.fo t x k
 |t::u::r,x,k=>Ty.fo t x.1 λa=>Ty.fe (u::r) x.2 λb=>k (a,b)
end
mutual
theorem Ty.bK:∀(t:Ty)(x:t.aU)(k:t.aU->O),t.fo x k=k x
 |.int _,x,k=>ZH9 x k
 |.u8,x,k=>by rw[Ty.fo,YY];exact congrArg k UInt8.ofNat_toNat
 |.u32,x,k=>by rw[Ty.fo,YY];exact congrArg k UInt32.ofNat_toNat
 |.u64,x,k=>by rw[Ty.fo,YY];exact congrArg k UInt64.ofNat_toNat
 |.bool,x,k=>pI x k
 |.str,x,k=>rfl
 |.sl t,x,k=>by rw[Ty.fo];exact WU (Ty.bK t) x k
 |.arr _ t,x,k=>by rw[Ty.fo];exact WU (Ty.bK t) x k
 |.st f,x,k=>Ty.bU f x k
theorem Ty.bU:∀(f:yL Ty)(x:Ty.aO f)(k:Ty.aO f->O),Ty.fe f x k=k x
 |[],_,k=>rfl
 |[t],x,k=>Ty.bK t x k
 |t::u::r,x,k=>by rw[Ty.fe,Ty.bK t];exact Ty.bU (u::r) x.2 _
end
mutual
def TP.fo:TP->(TP->O)->O
 |.v t x,k=>t.fo x λx=>k (.v t x)
 |.sl g t f,k=>hJ t.fo f λf=>k (.sl g t f)
 |.agg f,k=>TP.fe f λf=>k (.agg f)
 |.arr n s f,k=>TP.fe f λf=>k (.arr n s f)
 |.lh g s f,k=>TP.fe f λf=>k (.lh g s f)
 |.iface t x,k=>TP.fo x λx=>k (.iface t x)
 |x,k=>k x
def TP.fe:yL TP->(yL TP->O)->O
 |[],k=>k []
 |x::r,k=>TP.fo x λx=>TP.fe r λr=>k (x::r)
end
mutual
theorem TP.bK:∀(x:TP)(k:TP->O),x.fo k=k x
 |.v t x,k=>by rw[TP.fo,Ty.bK]
 |.sl g t f,k=>by rw[TP.fo,WU (Ty.bK t)]
 |.agg f,k=>by rw[TP.fo,TP.bU f]
 |.arr n s f,k=>by rw[TP.fo,TP.bU f]
 |.lh g s f,k=>by rw[TP.fo,TP.bU f]
 |.iface t x,k=>by rw[TP.fo,TP.bK x]
 |.bW,k=>rfl
 |.fn0,k=>rfl
 |.eE,k=>rfl
 |.cB,k=>rfl
 |.gq _,k=>rfl
theorem TP.bU:∀(x:yL TP)(k:yL TP->O),TP.fe x k=k x
 |[],k=>rfl
 |x::r,k=>by rw[TP.fe,TP.bK x,TP.bU r]
end
def ZLA{α:Type}(f:α->(α->O)->O):yO α->(yO α->O)->O
 |none,k=>k ad
 |some a,k=>f a λa=>k (ab a)
theorem ZIa{α:Type}{f:α->(α->O)->O}(g:∀a k,f a k=k a):∀(l:yO α)(k:yO α->O),ZLA f l k=k l
 |none,k=>rfl
 |some a,k=>g a _
mutual
def TD.fo:TD->(TD->O)->O
 |.p x,k=>x.fo λx=>k (.p x)
 |.elem x,k=>x.fo λx=>k (.elem x)
 |.own id h t c,k=>fd id λid=>ZLA (hJ t.fo) c λc=>k (.own id h t c)
 |.ak id q,k=>fd id λid=>k (.ak id q)
 |.view id q s lo n,k=>fd id λid=>fd s λs=>fd lo λlo=>fd n λn=>k (.view id q s lo n)
 |.agg g,k=>TD.fe g λg=>k (.agg g)
 |.arr n s g,k=>fd n λn=>fd s λs=>TD.fe g λg=>k (.arr n s g)
 |.fn f g,k=>TD.fe g λg=>k (.fn f g)
 |.iface t x,k=>TD.fo x λx=>k (.iface t x)
 |.bm g,k=>TD.fe g λg=>k (.bm g)
 |.mp id,k=>fd id λid=>k (.mp id)
 |.rv id v s lo n,k=>fd id λid=>fd v λv=>fd s λs=>fd lo λlo=>fd n λn=>k (.rv id v s lo n)
 |.aZ id v q,k=>fd id λid=>fd v λv=>k (.aZ id v q)
 |.rw id,k=>fd id λid=>k (.rw id)
 |.rp id q,k=>fd id λid=>k (.rp id q)
 |.an,k=>k .an
def TD.fe:yL TD->(yL TD->O)->O
 |[],k=>k []
 |x::r,k=>TD.fo x λx=>TD.fe r λr=>k (x::r)
end
mutual
theorem TD.bK:∀(x:TD)(k:TD->O),x.fo k=k x
 |.p x,k=>by rw[TD.fo,TP.bK]
 |.elem x,k=>by rw[TD.fo,TP.bK]
 |.own id h t c,k=>by rw[TD.fo,YY,ZIa (WU (Ty.bK t))]
 |.ak id q,k=>by rw[TD.fo,YY]
 |.view id q s lo n,k=>by rw[TD.fo,YY,YY,YY,YY]
 |.agg g,k=>by rw[TD.fo,TD.bU g]
 |.arr n s g,k=>by rw[TD.fo,YY,YY,TD.bU g]
 |.fn f g,k=>by rw[TD.fo,TD.bU g]
 |.iface t x,k=>by rw[TD.fo,TD.bK x]
 |.bm g,k=>by rw[TD.fo,TD.bU g]
 |.mp id,k=>by rw[TD.fo,YY]
 |.rv id v s lo n,k=>by rw[TD.fo,YY,YY,YY,YY,YY]
 |.aZ id v q,k=>by rw[TD.fo,YY,YY]
 |.rw id,k=>by rw[TD.fo,YY]
 |.rp id q,k=>by rw[TD.fo,YY]
 |.an,k=>rfl
theorem TD.bU:∀(x:yL TD)(k:yL TD->O),TD.fe x k=k x
 |[],k=>rfl
 |x::r,k=>by rw[TD.fe,TD.bK x,TD.bU r]
end
def ah.fo(e:ah)(k:ah->O):O:=match e with
 |.var d st=>d.fo λd=>oh st λst=>k (.var d st)
 |.log t e f=>hJ t.fo f λf=>k (.log t e f)
 |.map g a b l=>hJ (λq k=>a.fo q.1 λx=>b.fo q.2 λy=>k (x,y)) l λl=>k (.map g a b l)
 |.row v s st e d=>fd v λv=>fd s λs=>oh st λst=>d.fo λd=>k (.row v s st e d)
 |.aY t v st e f=>oh st λst=>hJ t.fo f λf=>k (.aY t v st e f)
 |.aR t h v st e a b=>oh st λst=>hJ t.fo a λa=>hJ t.fo b λb=>k (.aR t h v st e a b)
 |.bL t h v st e a d b=>oh st λst=>hJ t.fo a λa=>d.fo λd=>hJ t.fo b λb=>k (.bL t h v st e a d b)
 |.gone=>k .gone
theorem ah.bK(e:ah)(k:ah->O):e.fo k=k e:=by
 cases e with
 |var d st=>rw[ah.fo,TD.bK,pI]
 |log t e f=>rw[ah.fo,WU (Ty.bK t)]
 |map g a b l=>rw[ah.fo,WU λq k=>by rw[Ty.bK a,Ty.bK b]]
 |row v s st e d=>rw[ah.fo,YY,YY,pI,TD.bK]
 |aY t v st e f=>rw[ah.fo,pI,WU (Ty.bK t)]
 |aR t h v st e a b=>rw[ah.fo,pI,WU (Ty.bK t),WU (Ty.bK t)]
 |bL t h v st e a d b=>rw[ah.fo,pI,WU (Ty.bK t),TD.bK,WU (Ty.bK t)]
 |gone=>rfl
def wG(a:yL TD)(h:yL ah)(k:yL TD->yL ah->O):O:=TD.fe a λa=>hJ ah.fo h λh=>k a h
theorem ZKn(a:yL TD)(h:yL ah)(k:yL TD->yL ah->O):wG a h k=k a h:=by rw[wG,TD.bU,WU ah.bK]
def oi:(l:yL cv)->cv.sum l->(cv.sum l->O)->O
 |[],x,k=>k x
 |[e],x,k=>Ty.fe e.ty x k
 |e::f::r,x,k=>match (x:Ty.aO e.ty⊕cv.sum (f::r)) with
  |.inl x=>Ty.fe e.ty x λx=>k (.inl x:Ty.aO e.ty⊕cv.sum (f::r))
  |.inr x=>oi (f::r) x λx=>k (.inr x:Ty.aO e.ty⊕cv.sum (f::r))
theorem IQ:∀(l:yL cv)(x:cv.sum l)(k:cv.sum l->O),oi l x k=k x
 |[],x,k=>rfl
 |[e],x,k=>Ty.bU _ _ _
 |e::f::r,x,k=>by
  unfold oi
  cases (x:Ty.aO e.ty⊕cv.sum (f::r)) with
  |inl x=>exact Ty.bU _ _ _
  |inr x=>exact IQ (f::r) x _
def Fs.fo{P:yg}(s:Fs P):Fs P:={ s with M:=λx=>Ty.fe s.ins x λx=>(s.M x).bind λo=>oi s.xs o ab}
theorem Fs.sD{P:yg}{s:Fs P}(h:s.Ok):s.fo.Ok:=by
 have e:s.fo=s:=by
  unfold Fs.fo
  have:(λx=>Ty.fe s.ins x λx=>(s.M x).bind λo=>oi s.xs o ab)=s.M:=by
   funext x;rw[Ty.bU]
   cases s.M x with
   |none=>rfl
   |some o=>exact IQ _ _ _
  rw[this]
 rw[e];exact h
theorem Zyd{P:yg}:∀{l:yL (Fs P)},dA l->dA (l.map Fs.fo)
 |[],_=>trivial
 |s::r,h=>⟨Fs.sD h.1,Zyd h.2⟩
end Go.Ev
end
section
namespace Go.Ev
def ZBx(h:yL ah)(n0:Nat)(r:TD):yL Nat:=
 let f:=se h 100000 (r.look++yo n0) []
 ((yo h.length).drop n0).filter f.contains
def ZLB(P:yg)(H:yL ah)(t:yc)(d:TD):yO TD:=
 match d with
 |.p x=>ab (.p x)
 |d=>(gD P ij t).bind λT=>(GW H 100 T d).map λy=>.p (.v T y)
def ZKo(P:yg)(H:yL ah):yL yc->yL TD->yO (yL TD)
 |[],[]=>ab []
 |t::r,d::f=>match ZLB P H t d,ZKo P H r f with
  |some a,ab b=>ab (a::b)
  |_,_=>ad
 |_,_=>ad
def IR{O:Type}(h:yL ah)(n0:Nat)(g:yL TD)(K:TD->yL ah->yO O):yO O:=
 let f:=ZBx h n0 (kI g)
 if once (yo n0++f) then(match Dv.rn (bc (yo n0++f)) ((kI g).er (lk h)) with
  |some _=>(kI g).rn (bc (yo n0++f))
  |none=>(kI (g.map (TD.arg (lk h)))).rn (bc (yo n0++f))).bind λr=>
  (WS h (yo n0++f) (yo n0++f)).bind λj=>K r j
 else ad
section
variable{P:yg}
def sE(P:yg)(eX:yw->HI)(l:yL (Fs P))(mt:yL (yc×String×yw))(iX:yw->yL (Nat×kG))(fI:yw->yL (Nat×Lp)):Nat->(O:Type)->yw->yL TD->yL ah->(TD->yL ah->yO O)->yO O
 |0,_,_,_,_,_=>ad
 |n+1,O,g,f,H,K=>wG f H λf H=>match P.funcs[g]? with
  |some fn=>match fn.body with
   |some c=>if ag (f.length<=fn.ntmps)=ae then
     fV P { hi:=eX g,un:=1000000,gh:=iX g,bk:=fI g} ⟨l,sE P eX l mt iX fI n,mt,[]⟩ c 0 0 (f++yx (fn.ntmps - f.length) .an) H λj a h=>match j with
      |.exit _=>ad
      |_=>mK P a h fn.results.toList λm _=>IR h H.length m λr h=>wG [r] h λrs h=>match rs with
       |[r]=>K r h
       |_=>ad
     else ad
   |none=>ad
  |none=>ad
def sF(P:yg)(fI:yw->yL (Nat×Lp)):Prop:=∀g fn c,P.funcs[g]? =ab fn->fn.body=ab c->∀k b,(XX c)[k]? =ab b->∀f,(k,f)∈fI g->f.Is P fn.ntmps b
theorem ZBy{eX:yw->HI}{l:yL (Fs P)}{mt:yL (yc×String×yw)}{iX:yw->yL (Nat×kG)}{fI:yw->yL (Nat×Lp)}(hl:dA l)(hm:gX P mt)(hb:sF P fI):∀(n:Nat),nZ P (sE P eX l mt iX fI n)
 |0=>λ_ _ _ _ _ _ h=>by cases h
 |n+1=>λO g f H K out y=>by
  unfold sE at y;simp only[ZKn]at y;split at y
  .rename_i fn U;split at y
   .rename_i c A;obtain⟨W,y⟩:=Za y;have W:=yF W
    have Z:(f++yx (fn.ntmps - f.length) TD.an).length=fn.ntmps:=by
     rw[ym,List.length_replicate];omega
    obtain⟨Q,a,j,E,k2,k3⟩:=WT (N:=fn.ntmps) (aJ:=⟨l,sE P eX l mt iX fI n,mt,[]⟩) ⟨hl,ZBy hl hm hb n,hm,aB⟩ c _ _ _ _ _ Z (λk b X Y h=>by cases h) (λk b X Y h=>hb g fn c U A k b X Y (by rw[<-yar k];exact h)) y
    have z:(Q=.ret\/Q=.normal)/\(mK P a j fn.results.toList λF _=>IR j H.length F K)=ab out:=by
     cases Q with
     |exit _=>cases E
     |normal=>exact⟨.inr rfl,E⟩
     |ret=>exact⟨.inl rfl,E⟩
    obtain⟨z,E⟩:=z;obtain⟨F,hs,C,m,g2,g3⟩:=wD _ _ E;unfold IR at m;dsimp only at m;generalize ZBx j H.length (kI F)=G at m;obtain⟨g5,m⟩:=Za m;obtain⟨r,S,m⟩:=yf.1 m;obtain⟨T,R,m⟩:=yf.1 m;refine⟨_,_,m, ?_⟩
    have I:fin P fn (TD.aG (lk j) a) (aK j) (aK H).length G hs=ab (C,r.er (lk T),aK T):=by
     unfold fin;have:=g3 [];rw[ybf]at this;rw[this];dsimp only;rw[ZW,g5, <-wE,show aQ (aK j) _ _=ab (aK T) from V7 (il R) R]
     split at S
     .rename_i r0 M;have e4:=jL (il R) _ _ S;rw[e4]
     .rename_i M;have e4:=jL (il R) _ _ S;rw[wE,ZM,ybd]at e4
      rw[M,show(TD.aG (lk j) F).map Dv.arg=F.map (TD.er (lk j) ∘ TD.arg (lk j)) by
       rw[ZM,ybd];exact yci λd _=>(ZFz d).symm,e4]
    have zB:Xn P c (TD.aG (lk H) f++yx (fn.ntmps - (TD.aG (lk H) f).length) .an) (aK H) Q (TD.aG (lk j) a) (aK j):=by
     have e5:TD.aG (lk H) (f++yx (fn.ntmps - f.length) TD.an)=TD.aG (lk H) f++yx (fn.ntmps - (TD.aG (lk H) f).length) .an:=by
      rw[ZA0,ZM,ZM,yau,List.map_replicate];rfl
     rw[<-e5];exact k3
    exact qS U A zB z I g2
   .cases y
  .cases y
theorem ZIb{fI:yw->yL (Nat×Lp)}(h:∀g,pH P (iq P g) (ZR P g) (fI g)):sF P fI:=λg fn c f j k b l A m=>by
 have:=IK (h g) m
 have y:ZR P g=c:=by
  unfold ZR;rw[f];dsimp only;rw[j];rfl
 have z:iq P g=fn.ntmps:=by
  unfold iq;rw[f]
 rw[y,z]at this;unfold io at this;rw[l]at this;exact this
def Lp.fo(s:Lp):Lp:={ s with L:=λx=>Ty.fe s.I x λx=>(s.L x).bind λo=>oi s.xs o ab}
theorem Lp.sG{n:Nat}{c:Code}{s:Lp}(h:s.Is P n c):s.fo.Is P n c:=by
 have e:s.fo=s:=by
  unfold Lp.fo
  have:(λx=>Ty.fe s.I x λx=>(s.L x).bind λo=>oi s.xs o ab)=s.L:=by
   funext x;rw[Ty.bU]
   cases s.L x with
   |none=>rfl
   |some o=>exact IQ _ _ _
  rw[this]
 rw[e];exact h
def IS(P:yg)(eX:yw->HI)(l:yL (Fs P))(mt:yL (yc×String×yw))(n:Nat)(g:yw)(iX:yw->yL (Nat×kG):=λ_=>[])(fI:yw->yL (Nat×Lp):=λ_=>[]):yO Bool:=
 sE P eX l mt iX fI n Bool g [] [] λr h=>match h with
  |[]=>r.boolT
  |_=>ad
theorem ZIc{eX:yw->HI}{l:yL (Fs P)}{mt:yL (yc×String×yw)}{iX:yw->yL (Nat×kG)}{fI:yw->yL (Nat×Lp)}{n:Nat}{g:yw}{b:Bool}(hl:dA l)(hm:gX P mt)(h:IS P eX l mt n g iX fI=ab b)(hb:sF P fI:=by intro _ _ _ _ _ _ _ _ _ h;cases h):ca P g [] [] (.p (.bool b)) []:=by
 obtain⟨r,H',f,j⟩:=ZBy hl hm hb n _ _ _ _ _ _ h;split at f
 .rw[pj f]at j;exact j
 .cases f
theorem ZKr{eX:yw->HI}{l:yL (Fs P)}{mt:yL (yc×String×yw)}{iX:yw->yL (Nat×kG)}{fI:yw->yL (Nat×Lp)}{n:Nat}{g:yw}{b:Bool}(hl:dA l)(hm:gX P mt)(h:IS P eX l mt n g iX fI=ab b)(hb:sF P fI:=by intro _ _ _ _ _ _ _ _ _ h;cases h):
 Fs.Ok (⟨g,[],[],[],[⟨.ret,[(0,.v .bool)],[],[.bool]⟩],λ_=>ab b⟩:Fs P):=by
 intro x o f;cases f;refine⟨[],[],[],rfl,rfl,λe vs m hs j=> ?_⟩;obtain⟨rfl,rfl⟩:=hs;cases j;exact⟨_,rfl,ZIc hl hm h hb⟩
end
theorem isN{P:yg}{n:Nat}{c:Code}(s:Nat->Lp)(h:(s yD).Is P n c):(s 18446744073709551616).Is P n c:=by
 rw[jQ]at h;exact h
theorem jR{P:yg}(s:Nat->Fs P)(h:(s yD).Ok):(s 18446744073709551616).Ok:=by
 rw[jQ]at h;exact h
theorem ZFC{P:yg}{g:yw}{args:yL Dv}{H H1 H2:yL aq}{r j:Dv}{keep:yL Nat}(h:ca P g args H r H1)(ho:once (yo H.length++keep)=ae)
 (f:aQ H1 (yo H.length++keep) (yo H.length++keep)=ab H2) (m:r.rn (bc (yo H.length++keep))=ab j):ca P g args H j H2:=by
 intro J vs l e y;refine Calls.mono (h J vs l e y) ?_;rintro M Q ⟨v,J',z,A,E,F,G,I⟩;subst E;subst e;exact⟨v,gy J' (yo J.H.length++keep) H2,z,A,rfl,oY l F ho f,oX G ho f,kY (jD f) m I⟩
end Go.Ev
end
section
namespace Go.Ev
open Go.RowKit Go.WideShapes Go.ChangeShapes
def Yo(P:yg):Nat->yc->Bool
 |0,_=>af
 |n+1,t=>match P.underlying t with
  |some .bool=>ae
  |some (.int _)=>ae
  |some .string=>ae
  |some (.slice e)=>Yo P n e&&ag (0 < P.cellsOf e)
  |some (.array m e)=>Yo P n e&&P.cellsOf t==m*P.cellsOf e
  |some (.struct g)=>(g.toList.all λf=>Yo P n f.type)&&P.cellsOf t==(g.toList.map λf=>P.cellsOf f.type).sum&&
    ((yo g.toList.length).all λj=>match g.toList[j]? with|some f=>f.offset==((g.toList.take j).map λf=>P.cellsOf f.type).sum|none=>ae)
  |_=>af
theorem ZvT(P:yg):Kids P (λt=>∃n,Yo P n t=ae) where
 pointer:=by
  rintro t e ⟨n,h⟩ hu
  cases n with
  |zero=>simp[Yo]at h
  |succ n=>simp[Yo,hu]at h
 slice:=by
  rintro t e ⟨n,h⟩ hu
  cases n with
  |zero=>simp[Yo]at h
  |succ n=>simp[Yo,hu]at h;exact⟨n,h.1⟩
 array:=by
  rintro t e m ⟨n,h⟩ hu
  cases n with
  |zero=>simp[Yo]at h
  |succ n=>simp[Yo,hu]at h;exact⟨⟨n,h.1⟩,h.2⟩
 struct:=by
  rintro t fs ⟨n,h⟩ hu
  cases n with
  |zero=>simp[Yo]at h
  |succ n=>
   simp only[Yo,hu,yi,yT,yal]at h;obtain⟨⟨h1,h2⟩,h3⟩:=h;refine⟨λf hf=>⟨n,h1 f hf⟩,h2,λj f hf=> ?_⟩;have hj:j < fs.toList.length:=(yu.1 hf).1;have:=h3 j (by simpa using hj);rw[hf]at this;simpa using this
 map:=by
  rintro t k e ⟨n,h⟩ hu
  cases n with
  |zero=>simp[Yo]at h
  |succ n=>simp[Yo,hu]at h
def wH(R:yc->Pl->Prop):yL Field->yL Pl->Prop
 |[],[]=>True
 |f::g,y::h=>R f.type y/\wH R g h
 |_,_=>False
def dR(P:yg):Nat->yc->Pl->Prop
 |0,_,_=>False
 |n+1,t,x=>match P.underlying t,x with
  |some .bool,.bool _=>True
  |some (.int k),.int g m=>g=k/\(Lit.int k m).wf=ae
  |some .string,.str s=>s.size<=maxLen
  |some (.slice e),.sl h s f=>s=P.cellsOf e/\h=ad/\f.length<=maxLen/\∀y,y∈f->dR P n e y
  |some (.array m e),.arr j s f=>j=m/\s=P.cellsOf e/\f.length=m/\∀y,y∈f->dR P n e y
  |some (.struct l),.agg f=>wH (dR P n) l.toList f
  |_,_=>False
def lA:Nat->Nat->Prop:=λ_ _=>True
section
variable{H:Type}{enc:yc×yh->H}{P:yg}{w:yr}{base:Nat}{sp:Nat->Bool}{held:Bool}
theorem ZC7:∀{s:Nat}{a:Addr}{cs:yL yh},w.cells? base a s=ab cs->cs.length=s/\∀j u,cs[j]? =ab u->w.cell? (a.add j)=ab u:=by
 intro s a cs h;unfold World.cells? at h;split at h
 .have f:cs.length=s:=by simpa using mapM_some_length h
  refine⟨f,λj u g=> ?_⟩;have l:j < s:=by rw[<-f];exact(yu.1 g).1
  have:=mapM_some_get h j j (by simp[l]);grind
 .cases h
theorem ZBz{e:yc}{n m:Nat}{a:Addr}{s:Nat}(hs:0 < s){f:yL (DataW H×yL MemPlace)}{len:Nat}(zW:f.length=len)
 (A:∀(cs:yL yh)(x:DataW H×yL MemPlace),DataW.trod enc P w base sp held m e cs=ab x->cs.length=s->∃g,dR P n e g/\aA w lA g cs)
 (h:∀i,i < len->(w.cells? base (a.add (i*s)) s).bind (DataW.trod enc P w base sp held m e)=f[i]?):
 ∀k,k<=len->∃(xs:yL Pl)(us:yL yh),xs.length=k/\(∀y,y∈xs->dR P n e y)/\aW s xs/\us.length=k*s/\ar w lA xs us/\(∀j u,us[j]? =ab u->w.cell? (a.add j)=ab u)
 |0,_=>⟨[],[],rfl,(λy hy=>by cases hy),(λy hy=>by cases hy),by simp,by simp[ar],by simp⟩
 |k+1,W=>by
  obtain⟨xs,us,G,X,I,M,Q,Y⟩:=ZBz hs zW A h k (by omega);have l:=h k (by omega);rw[yab (by omega)]at l;obtain⟨cs,R,S⟩:=yf.1 l;obtain⟨z,T⟩:=ZC7 R;obtain⟨g,Z,E⟩:=A cs _ S z;have U:g.size=s:=by rw[<-X9 _ _ E,z]
  refine⟨xs++[g],us++cs,by simp[G],λy hy=> ?_,λy hy=> ?_,by simp[M,z,ybb],Z0 Q (by simpa[ar] using E),λj u F=> ?_⟩
  .all_goals grind
  .rcases List.mem_append.1 hy with hy|hy
   .exact I y hy
   grind
  .by_cases hj:j < us.length
   .grind
   .rw[yaq (by omega)]at F;have:=T _ _ F;rw[Addr.add_add]at this;grind
theorem Zye{e:yc}{n m:Nat}{s:Nat}{cs:yL yh}{f:yL (DataW H×yL MemPlace)}{len:Nat}(zW:f.length=len)(hcs:cs.length=len*s)
 (l:∀(cs:yL yh)(x:DataW H×yL MemPlace),DataW.trod enc P w base sp held m e cs=ab x->cs.length=s->∃g,dR P n e g/\aA w lA g cs)
 (h:∀i,i < len->DataW.trod enc P w base sp held m e ((cs.drop (i*s)).take s)=f[i]?):
 ∀k,k<=len->∃(xs:yL Pl),xs.length=k/\(∀y,y∈xs->dR P n e y)/\aW s xs/\ar w lA xs (cs.take (k*s))
 |0,_=>⟨[],rfl,(λy hy=>by cases hy),(λy hy=>by cases hy),by simp[ar]⟩
 |k+1,E=>by
  obtain⟨xs,F,R,G,I⟩:=Zye zW hcs l h k (by omega);have j:=h k (by omega);rw[yab (by omega)]at j;have M:k*s+s<=len*s:=by rw[<-Nat.succ_mul];exact ycb _ E
  have z:((cs.drop (k*s)).take s).length=s:=by simp;omega
  obtain⟨g,S,A⟩:=l _ _ j z;have Q:g.size=s:=by rw[<-X9 _ _ A,z]
  refine⟨xs++[g],by simp[F],λy hy=> ?_,λy hy=> ?_, ?_⟩
  .all_goals grind
  .rcases List.mem_append.1 hy with hy|hy
   .exact G y hy
   grind
  .rw[ybb,Nat.one_mul,List.take_add];exact Z0 I (by simpa[ar] using A)
theorem Zuc{n m:Nat}{cs:yL yh}
 (F:∀(t:yc),Yo P n t=ae->∀(cs:yL yh)(x:DataW H×yL MemPlace),DataW.trod enc P w base sp held m t cs=ab x->∃A,dR P n t A/\aA w lA A cs):
 ∀(l:yL Field)(o:Nat),(∀f,f∈l->Yo P n f.type=ae)->(∀(j:Nat)f,l[j]? =ab f->f.offset=o+((l.take j).map λf=>P.cellsOf f.type).sum)->
  cs.length=o+(l.map λf=>P.cellsOf f.type).sum->(∀(j:Nat)f,l[j]? =ab f->∃x,DataW.trod enc P w base sp held m f.type ((cs.drop f.offset).take (P.cellsOf f.type))=ab x)->
  ∃(xs:yL Pl),wH (dR P n) l xs/\ar w lA xs (cs.drop o)
 |[],o,_,_,E,_=>⟨[],zP,by simp only[ar];apply List.drop_eq_nil_of_le;simp at E;omega⟩
 |f::l,o,G,I,E,h=>by
  obtain⟨x,M⟩:=h 0 f rfl;have y:=I 0 f rfl;simp at y;rw[y]at M;obtain⟨A,Q,R⟩:=F f.type (G f (yav ..)) _ _ M;simp only[yah,List.sum_cons]at E
  obtain⟨xs,S,T⟩:=Zuc F l (o+P.cellsOf f.type) (λg z=>G g (yaw _ z)) (λj g z=>by
   have:=I (j+1) g z;simp only[List.take_succ_cons,yah,List.sum_cons]at this;omega) (by omega) (λj g z=>h (j+1) g z)
  refine⟨A::xs,⟨Q,S⟩, ?_⟩;simp only[ar];refine⟨(cs.drop o).take (P.cellsOf f.type),(cs.drop o).drop (P.cellsOf f.type),(List.take_append_drop ..).symm,R, ?_⟩;simp_all
theorem ZIe:∀(n m:Nat)(t:yc),Yo P n t=ae->∀(cs:yL yh)(x:DataW H×yL MemPlace),DataW.trod enc P w base sp held m t cs=ab x->∃pl,dR P n t pl/\aA w lA pl cs:=by
 intro n
 induction n with
 |zero=>intro m t h;simp[Yo]at h
 |succ n ih=>
  intro m t l cs x h;unfold Yo at l;split at l
  .rename_i g;obtain⟨b,rfl,_⟩:=DataW.trod_bool g h;exact⟨.bool b,by simp[dR,g],by simp[aA]⟩
  .rename_i k g;obtain⟨z,rfl,rfl,hw⟩:=DataW.trod_int g h;exact⟨.int k z,by simp[dR,g,hw],by simp[aA]⟩
  .rename_i g;obtain⟨s,rfl,Q⟩:=DataW.trod_string g h;exact⟨.str s,by simp[dR,g];exact Q.2,by simp[aA]⟩
  .rename_i e g;simp only[yi,yP]at l;rcases DataW.trod_slice g h with⟨rfl,rfl⟩|⟨a,len,cap,A,yK,M,rfl,rfl,rfl,_,hle,R,S,E,_⟩
   .exact⟨.sl ad (P.cellsOf e) [],by simp[dR,g],by simp only[aA];exact⟨(λy hy=>by cases hy),ad,0,rfl,yl _,Nat.zero_le _,Yg _,λ_=>rfl,λh=>absurd rfl h⟩⟩
   .obtain⟨T,us,U,Q,h3,Z,h5,h6⟩:=ZBz (n:=n) l.2 S (λcs x W _=>ih M e l.1 cs x W) E len (yl _);refine⟨.sl ad (P.cellsOf e) T,by simp only[dR,g];exact⟨zP,zP,by omega,Q⟩, ?_⟩;simp only[aA];refine⟨h3,ab a,cap,by rw[U],by omega,R,Yg _,by simp,λhne=> ?_⟩
    have X:0 < us.length:=by
     rw[Z];have:0 < len:=by rw[<-U];exact List.length_pos_iff.2 hne
     simp_all
    have F:=h6 0 us[0] (yab X);obtain⟨b,o,G⟩:=a
    have I:G=ad:=by
     cases G with
     |none=>rfl
     |some z=>
      exfalso;unfold World.cell? at F;split at F
      .simp[Addr.add]at F
      .cases F
    subst I;exact⟨b,o,us,rfl,h5,λj u g=>⟨by have:=h6 j u g;rwa [Addr.add_lit]at this,aB⟩⟩
  .rename_i k e g;simp only[yi,yT]at l;obtain⟨A,M,rfl,rfl,hl,S,E⟩:=DataW.trod_array g h;obtain⟨T,U,Q,h3,Z⟩:=Zye (n:=n) (s:=P.cellsOf e) S (by rw[hl,l.2]) (λcs x W _=>ih M e l.1 cs x W) E k (yl _);rw[List.take_of_length_le (by rw[hl,l.2];exact yl _)]at Z;exact⟨.arr k (P.cellsOf e) T,by simp only[dR,g];exact⟨zP,zP,U,Q⟩,by simp only[aA];exact⟨U,h3,Z⟩⟩
  .rename_i fs g;simp only[yi,yT,yal]at l;obtain⟨⟨t1,t2⟩,t3⟩:=l;obtain⟨A,M,rfl,rfl,hl,S,E⟩:=DataW.trod_struct g h
   obtain⟨T,q1,q2⟩:=Zuc (n:=n) (m:=M) (cs:=cs) (λt l cs x W=>ih M t l cs x W) fs.toList 0 t1 (λj f Y=>by
    have hj:j < fs.toList.length:=(yu.1 Y).1;have:=t3 j (by simpa using hj);rw[Y]at this;simpa using this) (by rw[hl,t2];omega) (λj f Y=>by
    have hj:j < fs.toList.length:=(yu.1 Y).1;have:=E j f (by simpa using Y);rw[yab (by rw[S];simpa using hj)]at this;exact⟨_,this⟩)
   exact⟨.agg T,by simp only[dR,g];exact q1,by simp only[aA];simpa using q2⟩
  .cases l
end
end Go.Ev
namespace Go.Ev
open Go.RowKit Go.WideShapes Go.ChangeShapes
def wI(P:yg)(n:Nat):yL yc->yL Pl->Prop
 |[],[]=>True
 |t::ts,x::f=>dR P n t x/\wI P n ts f
 |_,_=>False
section
variable{H:Type}{enc:yc×yh->H}{P:yg}
def ir(W:yr):Sg:={ F:=lA,B:=λb=>W.heap.size<=b,m:=[],H:=[],w:=W}
theorem ZKs(W:yr):Ok (ir W) where
 len:=rfl
 inj i j b h:=by simp[ir]at h
 lt i b h:=by simp[ir]at h
 dD i e a h:=by simp[ir]at h
 new b h:=h
 own i b h:=by simp[ir]at h
theorem ZFD(W:yr)(b o:Nat):(ir W).be b o:=⟨.inl trivial,λid e h=>by simp[ir]at h⟩
theorem Zre{W:yr}{x:Pl}{v:yh}{cs:yL yh}(j:aA W lA x cs)(hc:v.cells.toList=cs)(hv:x.isAgg=ae->∃a,v=.agg a)(hn:x.isAgg=af->cs=[v]):yJ (ir W) (.p x) v:=by
 have g:aA W (ir W).be x cs:=lS (λb o u h _=>⟨h,ZFD W b o⟩) x cs j;refine⟨λf=> ?_,λf=> ?_⟩
 .obtain⟨a,rfl⟩:=hv f;refine⟨a,rfl, ?_⟩;simp only[yH];have:a.toList=cs:=by rw[<-hc];rfl
  rw[this];exact g
 .simp only[yH];have e:=hn f;rw[<-e];exact g
theorem ZKt:∀{n:Nat}{t:yc}{x:Pl},dR P n t x->x.isAgg=Xt P t
 |0,_,_,h=>by simp[dR]at h
 |n+1,t,x,h=>by
  unfold dR at h;split at h <;> rename_i f <;> first|(simp[Pl.isAgg,Xt,f];done)|exact h.elim
theorem ZBA{W:yr}{n:Nat}(f:∀(t:yc)(v:yh),Xt P t=ae->Value.okWide P W .any 0 t v->∃a,v=.agg a):
 ∀(ts:yL yc)(vs:yL yh)(g:yL (DataW H))(y:yL MemPlace),(∀t,t∈ts->Yo P n t=ae)->(∀(j:Nat)t v,ts[j]? =ab t->vs[j]? =ab v->(Xt P t=ae->∃a,v=.agg a)/\(Xt P t=af->v.cells.toList=[v]))->
  DataW.TrodAll enc P W 0 (λ_=>ae) ae ts vs g y->∃xs,wI P n ts xs/\aH (ir W) (xs.map .p) vs
 |[],[],[],_,_,_,_=>⟨[],zP,by simp[aH]⟩
 |[],_::_,_,_,_,_,h=>by simp[DataW.TrodAll]at h
 |[],[],_::_,_,_,_,h=>by simp[DataW.TrodAll]at h
 |_::_,[],_,_,_,_,h=>by simp[DataW.TrodAll]at h
 |_::_,_::_,[],_,_,_,h=>by simp[DataW.TrodAll]at h
 |t::ts,v::vs,d::g,y,z,A,h=>by
  obtain⟨p,q,⟨yD,G⟩,I,rfl⟩:=h;obtain⟨x,E,M⟩:=ZIe n yD t (z t (yav ..)) _ _ G;obtain⟨xs,l,m⟩:=ZBA f ts vs g q (λu Q=>z u (yaw _ Q)) (λj u R S T=>A (j+1) u R S T) I;obtain⟨U,X⟩:=A 0 t v rfl rfl;refine⟨x::xs,⟨E,l⟩, ?_⟩;simp only[yah,aH];have F:=ZKt E;exact⟨v,vs,rfl,Zre M rfl (λe=>U (by rw[<-F];exact e)) (λe=>X (by rw[<-F];exact e)),m⟩
theorem Zkh{W W':yr}{g:Nat->Bool}{n:Nat}:∀(ts:yL yc)(vs:yL yh)(l:yL (DataW H))(j:yL MemPlace),(∀t,t∈ts->Yo P n t=ae)->
 DataW.TrodAll enc P W 0 (λ_=>ae) ae ts vs l j->(∀p∈j,W.sameAt W' p)->(∀p∈j,g p.block=ae)->DataW.TrodAll enc P W' 0 g ae ts vs l j
 |[],[],[],_,_,h,_,_=>h
 |[],_::_,_,_,_,h,_,_=>by simp[DataW.TrodAll]at h
 |[],[],_::_,_,_,h,_,_=>by simp[DataW.TrodAll]at h
 |_::_,[],_,_,_,h,_,_=>by simp[DataW.TrodAll]at h
 |_::_,_::_,[],_,_,h,_,_=>by simp[DataW.TrodAll]at h
 |t::ts,v::vs,d::l,j,A,h,hs,E=>by
  obtain⟨p,q,⟨yD,F⟩,G,rfl⟩:=h;refine⟨p,q,⟨yD, ?_⟩,Zkh ts vs l q (λu m=>A u (yaw _ m)) G (λz f=>hs z (List.mem_append_right _ f)) (λz f=>E z (List.mem_append_right _ f)),rfl⟩
  exact DataW.trod_stays (ZvT P) (λ{t e}⟨n,y⟩m=>by
   cases n with
   |zero=>simp[Yo]at y
   |succ n=>simp[Yo,m]at y;exact y.2) (by simp) ⟨n,A t (yav ..)⟩ F (λz f=>hs z (List.mem_append_left _ f)) (λz f=>E z (List.mem_append_left _ f))
theorem Zyf{W:yr}{J':Sg}(h:To (ir W) J'):Below W.heap.size W J'.w:=
 ⟨h.os,h.tape,h.output,h.size,λb f=>h.block b f (λid=>by simp[ir])⟩
theorem Zrf{f:Func}{s:ChangeSpec}{h fresh handsOn z:Bool}{W W':yr}{args:Array yh}{v:yh}{E gs:yL (DataW H)}{g pa pv:yL MemPlace}
 (I:DataW.Whole enc P f.params.toList s.vars h W args.toList E gs g)
 (m:∀(b:Nat)(sp:Nat->Bool)(hd:Bool),DataW.TrodAll enc P W' b sp hd f.resultTypes.toList (v.resultList f.resultTypes.size) (s.fn H (E++gs)).results [])
 (Q:∀sp:Nat->Bool,(∀p∈g,sp p.block=ae)->DataW.TrodAll enc P W' 0 sp ae f.params.toList args.toList (s.fn H (E++gs)).args pa)
 (l:∀sp:Nat->Bool,(∀p∈g,sp p.block=ae)->DataW.TrodVars enc P W' sp s.vars (s.fn H (E++gs)).vars pv)
 (hps:g=pa++pv) (hb:Below W.heap.size W W')
 (M:∀(j:Nat)(t:yc)(r:yh),f.resultTypes[j]? =ab t->(v.resultList f.resultTypes.size)[j]? =ab r->Value.okWide P W' .any 0 t r):
 s.post enc P f h fresh handsOn z W args v W':=by
 have F:∀p∈g,p.block < W.heap.size:=λp A=>I.lt p A;have y:∀p∈g,(λb=>ag (b < W.heap.size)) p.block=ae:=λp A=>by simpa using F p A
 refine⟨E,gs,g,[],pa,pv,I,m _ _ _,Q _ y,l _ y,World.keptBut_mono (λp A=>⟨A, ?_⟩) (hb.frame (· ∈g)),λ_=> ?_⟩
 .grind
 .obtain⟨_,_,_,_,_,R,S⟩:=I;refine⟨M,_,_,([]++pa)++pv,⟨[]++pa,pv,trodAll_append (Q _ (λ_ _=>rfl)) (m _ _ _),l _ (λ_ _=>rfl),rfl, ?_, ?_⟩, ?_⟩
  .intro b off A;have G:MemPlace.cell b off∈g:=by rw[hps];simpa using A
   rw[hb.frozen (F _ G)];exact R b off G
  all_goals grind
theorem ZvV{f:yw}{fn:Func}{s:ChangeSpec}{n:Nat}{tb:yc}(hr:fn.resultTypes= #[tb])(ht:P.underlying tb=ab .bool)(hv:s.vars=[])
 (hs:∀G:yL (DataW H),G.length=fn.params.toList.length->s.fn H G={ results:=[.lit (.bool ae)],args:=G}) (hp:∀t,t∈fn.params.toList->Yo P n t=ae)
 (W:yr) (base:Nat) (args:Array yh) (G gs:yL (DataW H)) (F:yL MemPlace)
 (T:∀(j:Nat)t v,fn.params[j]? =ab t->args[j]? =ab v->Value.okWide P W .any base t v) (hW:DataW.Whole enc P fn.params.toList s.vars af W args.toList G gs F)
 (hc:∀xs:yL Pl,wI P n fn.params.toList xs->aH (ir W) (xs.map .p) args.toList->ca P f (xs.map .p) [] (.p (.bool ae)) []):
 Calls P f args W λe W'=>∃v,e=.returned v/\s.post enc P fn af ae af af W args v W':=by
 have I:=hW;obtain⟨p,q,Y,Z,rfl,hfz,hnd⟩:=hW;rw[hv]at Z
 obtain⟨rfl,rfl⟩:gs=[]/\q=[]:=by
  cases gs with
  |nil=>exact⟨rfl,Z⟩
  |cons g r=>simp[DataW.TrodVars]at Z
 have zW:=trodAll_length Y
 obtain⟨xs,x1,x2⟩:=ZBA (enc:=enc) (P:=P) (W:=W) (n:=n) (λt v y l=>by
  unfold Value.okWide at l;unfold Xt at y;split at l
  .obtain⟨M,rfl,_⟩:=l;exact⟨M,rfl⟩
  .obtain⟨M,rfl,_⟩:=l;exact⟨M,rfl⟩
  .rename_i h1 h2;split at y
   .rename_i fs E;exact absurd E (h1 fs)
   .rename_i k e E;exact absurd E (h2 k e)
   .cases y) fn.params.toList args.toList G p hp (λj t v Q hvv=>by
  have l:=T j t v (by simpa using Q) (by simpa using hvv);refine⟨λy=> ?_,λy=> ?_⟩
  .unfold Value.okWide at l;unfold Xt at y;split at l
   .obtain⟨M,rfl,_⟩:=l;exact⟨M,rfl⟩
   .obtain⟨M,rfl,_⟩:=l;exact⟨M,rfl⟩
   .rename_i h1 h2;split at y
    .rename_i fs E;exact absurd E (h1 fs)
    .rename_i k e E;exact absurd E (h2 k e)
    .cases y
  .obtain⟨m,hm⟩:∃m,Yo P (m+1) t=ae:=by
    have:=hp t (ybj Q)
    cases n with
    |zero=>simp[Yo]at this
    |succ n=>exact⟨n,this⟩
   unfold Value.okWide at l;unfold Yo at hm;unfold Xt at y;split at hm <;> rename_i E <;> simp only[E]at l y
   all_goals first
    |(cases y;done)
    |(cases hm;done)
    |(unfold Cell.okWide Cell.ok at l;simp only[E]at l;cases v <;> first|rfl|(simp at l;done))) Y
 have A:=hc xs x1 x2 (ir W) args.toList (ZKs W) rfl x2;rw[Array.toArray_toList]at A;refine Calls.mono A ?_;rintro e W' ⟨v,J',rfl,rfl,hH,hto,l,yM⟩;have hbv:v=.bool ae:=by simpa[yJ,Dv.isAgg,Pl.isAgg,yH,aA] using yM
 subst hbv;have hb:=Zyf hto;simp only[ybf]at I;have hlt:=I.lt
 have R:∀z∈p,W.sameAt J'.w z:=by
  intro z hz;have U:=hlt z hz
  cases z with
  |cell b o=>exact hb.cell (p:=⟨b,o,ad⟩) U
  |map b=>exact hb.block b U
 have S:=hs G zW.2;refine⟨_,rfl,Zrf (pa:=p) (pv:=[]) I (λb sp hd=> ?_) (λsp h=> ?_) (λsp h=> ?_) (by simp) hb ?_⟩
 .rw[ybf,S,hr];exact trodAll_cons_mk (shut_bool ht _) trodAll_mk0
 .rw[ybf,S];exact Zkh fn.params.toList args.toList G p hp Y R h
 .rw[ybf,S,hv];rfl
 .intro j t r Q X;rw[hr]at Q X
  cases j with
  |zero=>
   simp at Q;subst Q;have:r=.bool ae:=by simpa[Value.resultList] using X.symm
   subst this
   exact okWide_bool_mk ht _
  |succ j=>simp at Q
end
end Go.Ev
namespace Go.Ev
end Go.Ev
end
section
namespace Go.Ev
mutual
def Ty.Wf:(t:Ty)->t.aU->Prop
 |.int k,n=>(Lit.int k n).wf=ae
 |.u8,_=>True
 |.u32,_=>True
 |.u64,_=>True
 |.bool,_=>True
 |.str,s=>s.size<=maxLen
 |.sl t,l=>List.length l<=maxLen/\∀x,List.Mem x l->Ty.Wf t x
 |.arr n t,l=>List.length l=n/\∀x,List.Mem x l->Ty.Wf t x
 |.st f,x=>Ty.sH f x
def Ty.sH:(f:yL Ty)->Ty.aO f->Prop
 |[],_=>True
 |[t],x=>Ty.Wf t x
 |t::u::r,x=>Ty.Wf t x.1/\Ty.sH (u::r) x.2
end
mutual
def oj(P:yg):Nat->yc->Ty->Bool
 |0,_,_=>af
 |n+1,t,T=>match P.underlying t,T with
  |some (.int .u8),.u8=>ae
  |some (.int .u32),.u32=>ae
  |some (.int .u64),.u64=>ae
  |some (.int k),.int f=>ag (k=f)
  |some .bool,.bool=>ae
  |some .string,.str=>ae
  |some (.slice e),.sl T'=>P.cellsOf e==T'.size&&oj P n e T'
  |some (.array m e),.arr g T'=>m==g&&(P.cellsOf e==T'.size&&oj P n e T')
  |some (.struct h),.st Ts=>ff P n h.toList Ts
  |_,_=>af
def ff(P:yg):Nat->yL Field->yL Ty->Bool
 |0,_,_=>af
 |_+1,[],[]=>ae
 |n+1,f::g,T::Ts=>oj P n f.type T&&ff P n g Ts
 |_+1,_,_=>af
end
theorem ZLC{m:Int}(h:(Lit.int .u8 m).wf=ae):∃b:yB,m=(b.toNat:Int):=by
 simp only[Lit.wf,yi,yP]at h;have f:(0:Int)<=m:=h.1;have g:m<=255:=h.2;refine⟨UInt8.ofNat m.toNat, ?_⟩;have:(UInt8.ofNat m.toNat).toNat=m.toNat:=by simp;omega
 rw[this];omega
theorem ZKu{m:Int}(h:(Lit.int .u32 m).wf=ae):∃b:yV,m=(b.toNat:Int):=by
 simp only[Lit.wf,yi,yP]at h;have f:(0:Int)<=m:=h.1;have g:m<=4294967295:=h.2;refine⟨ych m.toNat, ?_⟩;have:(ych m.toNat).toNat=m.toNat:=by simp;omega
 rw[this];omega
theorem ZKv{m:Int}(h:(Lit.int .u64 m).wf=ae):∃b:yU,m=(b.toNat:Int):=by
 simp only[Lit.wf,yi,yP]at h;have f:(0:Int)<=m:=h.1;have g:m<=18446744073709551615:=h.2;refine⟨yan m.toNat, ?_⟩;have:(yan m.toNat).toNat=m.toNat:=by simp;omega
 rw[this];omega
theorem IT{α β:Type}{f:α->β}{R:α->Prop}:∀{ys:yL β},(∀y,y∈ys->∃x,y=f x/\R x)->∃l:yL α,ys=l.map f/\∀x,List.Mem x l->R x
 |[],_=>⟨[],rfl,λx j=>by cases j⟩
 |y::ys,h=>by
  obtain⟨x,rfl,j⟩:=h y (yav ..);obtain⟨l,rfl,m⟩:=IT (λz g=>h z (yaw _ g))
  exact⟨x::l,rfl,λz g=>by
   cases g with
   |head=>exact j
   |tail _ g=>exact m z g⟩
mutual
theorem pJ{P:yg}:∀(m n:Nat)(t:yc)(T:Ty)(x:Pl),oj P m t T=ae->dR P n t x->∃v:T.aU,T.Wf v/\x=T.enc v
 |0,_,_,_,_,h,_=>by simp[oj]at h
 |_+1,0,_,_,_,_,h=>by simp[dR]at h
 |m+1,n+1,t,T,x,h,f=>by
  unfold oj at h;split at h
  .rename_i g;unfold dR at f;rw[g]at f;cases x <;> try exact f.elim
   obtain⟨rfl,j⟩:=f;obtain⟨b,rfl⟩:=ZLC j;exact⟨b,zP,rfl⟩
  .rename_i g;unfold dR at f;rw[g]at f;cases x <;> try exact f.elim
   obtain⟨rfl,j⟩:=f;obtain⟨b,rfl⟩:=ZKu j;exact⟨b,zP,rfl⟩
  .rename_i g;unfold dR at f;rw[g]at f;cases x <;> try exact f.elim
   obtain⟨rfl,j⟩:=f;obtain⟨b,rfl⟩:=ZKv j;exact⟨b,zP,rfl⟩
  .rename_i k Q g;have h:=yF h;subst h;unfold dR at f;rw[g]at f;cases x <;> try exact f.elim
   obtain⟨rfl,j⟩:=f;exact⟨_,j,rfl⟩
  .rename_i g;unfold dR at f;rw[g]at f;cases x <;> try exact f.elim
   exact⟨_,zP,rfl⟩
  .rename_i g;unfold dR at f;rw[g]at f;cases x <;> try exact f.elim
   exact⟨_,f,rfl⟩
  .rename_i e T' g;simp only[yi,yT]at h;unfold dR at f;rw[g]at f;cases x <;> try exact f.elim
   obtain⟨rfl,rfl,z,A⟩:=f
   obtain⟨l,rfl,E⟩:=IT λy F=>(by
    obtain⟨v,a,b⟩:=pJ m n e T' y h.2 (A y F);exact⟨v,b,a⟩:∃v:T'.aU,y=T'.enc v/\T'.Wf v)
   refine⟨l,⟨by simpa using z,E⟩, ?_⟩;rw[h.1];rfl
  .rename_i R e S T' g;simp only[yi,yT]at h;obtain⟨rfl,h⟩:=h;unfold dR at f;rw[g]at f;cases x <;> try exact f.elim
   obtain⟨rfl,rfl,z,A⟩:=f
   obtain⟨l,rfl,E⟩:=IT λy F=>(by
    obtain⟨v,a,b⟩:=pJ m n e T' y h.2 (A y F);exact⟨v,b,a⟩:∃v:T'.aU,y=T'.enc v/\T'.Wf v)
   refine⟨l,⟨by simpa using z,E⟩, ?_⟩;rw[h.1];rfl
  .rename_i G Ts g;unfold dR at f;rw[g]at f;cases x <;> try exact f.elim
   rename_i I;obtain⟨v,M,rfl⟩:=jS m n G.toList Ts I h f;exact⟨v,M,rfl⟩
  .cases h
theorem jS{P:yg}:∀(m n:Nat)(j:yL Field)(Ts:yL Ty)(xs:yL Pl),ff P m j Ts=ae->wH (dR P n) j xs->∃v:Ty.aO Ts,Ty.sH Ts v/\xs=Ty.encs Ts v
 |0,_,_,_,_,h,_=>by simp[ff]at h
 |m+1,n,[],[],[],h,g=>⟨(),zP,rfl⟩
 |m+1,n,[],[],_::_,h,g=>g.elim
 |m+1,n,[],_::_,_,h,g=>by cases h
 |m+1,n,_::_,[],_,h,g=>by cases h
 |m+1,n,_::_,_::_,[],h,g=>g.elim
 |m+1,n,f::j,[T],x::xs,h,g=>by
  simp only[ff,yi]at h;obtain⟨v,l,rfl⟩:=pJ m n f.type T x h.1 g.1
  cases j with
  |nil=>cases xs with
   |nil=>exact⟨v,l,rfl⟩
   |cons _ _=>exact g.2.elim
  |cons _ _=>
   cases m with
   |zero=>exact absurd h.2 (by simp[ff])
   |succ m=>exact absurd h.2 (by simp[ff])
 |m+1,n,f::j,T::U::Ts,x::xs,h,g=>by
  simp only[ff,yi]at h;obtain⟨v,l,rfl⟩:=pJ m n f.type T x h.1 g.1;obtain⟨w,y,rfl⟩:=jS m n j (U::Ts) xs h.2 g.2;exact⟨(v,w),⟨l,y⟩,rfl⟩
end
theorem Zue{I X:Type}{step:I->yO (I⊕X)}(Inv:I->Prop)(f:I->Nat)(Post:X->Prop)
 (h:∀i,Inv i->(∃j,step i=ab (.inl j)/\Inv j/\f j < f i)\/(∃x,step i=ab (.inr x)/\Post x)):∀(n:Nat)(i:I),Inv i->f i < n->∃x,Zc step n i=ab x/\Post x
 |0,i,_,m=>by omega
 |n+1,i,y,m=>by
  unfold Zc;rcases h i y with⟨j,g,l,z⟩|⟨x,g,l⟩
  .rw[g,ya];exact Zue Inv f Post h n j l (by omega)
  .rw[g,ya];exact⟨x,rfl,l⟩
theorem Wr{I X:Type}{step:I->yO (I⊕X)}(Inv:I->Prop)(f:I->Nat)(Post:X->Prop)
 (h:∀i,Inv i->(∃j,step i=ab (.inl j)/\Inv j/\f j < f i)\/(∃x,step i=ab (.inr x)/\Post x)) (i:I) (hi:Inv i) (hm:f i < 18446744073709551616):∃x,Zc step yD i=ab x/\Post x:=by
 refine Zue Inv f Post h yD i hi ?_;rw[jQ];exact hm
theorem ZE{z:Int}(h1: -9223372036854775808<=z)(h2:z<=9223372036854775807):wi z=z:=by
 simp only[wi,IntKind.wrap,IntKind.signed,IntKind.bits];simp;omega
theorem sI{α:Type}{l:yL α}{i:Int}{y:α}(f:0<=i)(h:l[i.toNat]? =ab y):idx l i=ab y:=by
 unfold idx;rw[yW f,h]
theorem jm{α:Type}{l:yL α}{i:Nat}(h:i < l.length):∃y,l[i]? =ab y:=⟨_,yab h⟩
theorem XY{i:Int}{n:Nat}(h1:0<=i)(h2:i < (n:Int)):bp i n=ae:=by simp[bp,h1,h2]
theorem ZS{n m b:Nat}(h1:(n+m)*b<=140737488355328)(h2:n+m<=9223372036854775807):cg n m b=ae:=by
 unfold cg;rw[yi];exact⟨yY h1,yY h2⟩
def sJ:(ts:yL Ty)->Ty.aO ts->yL TD
 |[],_=>[]
 |[t],x=>[.p (.v t x)]
 |t::u::r,x=>.p (.v t x.1)::sJ (u::r) x.2
theorem ZBB:∀(ts:yL Ty)(x:Ty.aO ts),Sh.fills (ts.map .v) (dB ts x)=ab (sJ ts x,[])
 |[],_=>rfl
 |[t],x=>by
  rw[show dB [t] x=[⟨t,x⟩] from rfl,yah,List.map_nil,Sh.fills,Sh.fill]
  have e:=YS t x;dsimp only;rw[e]
  rfl
 |t::u::r,x=>by
  have h:=ZBB (u::r) x.2;have e:=YS t x.1;rw[show dB (t::u::r) x=⟨t,x.1⟩::dB (u::r) x.2 from rfl,yah,Sh.fills,Sh.fill]
  dsimp only;rw[e,yae,ya,h];rfl
theorem ZFE{L:Lk}:∀(ts:yL Ty)(x:Ty.aO ts),TD.aG L (sJ ts x)=(Ty.encs ts x).map .p
 |[],_=>rfl
 |[t],x=>rfl
 |t::u::r,x=>by
  rw[show sJ (t::u::r) x=.p (.v t x.1)::sJ (u::r) x.2 from rfl,ZM,yah, <-ZM,ZFE (u::r) x.2]
  rfl
theorem ZIg{P:yg}{g:yw}{ts:yL Ty}{M:Ty.aO ts->yO Bool}(j:Fs.Ok (⟨g,ts.map .v,[],ts,[⟨.ret,[(0,.v .bool)],[],[.bool]⟩],M⟩:Fs P)){x:Ty.aO ts}(h:M x=ab ae):
 ca P g ((Ty.encs ts x).map .p) [] (.p (.bool ae)) []:=by
 obtain⟨f,R,H,l,m,y⟩:=j x ae h;have e:=(ZBB ts x).symm.trans (show Sh.fills (ts.map .v) (dB ts x)=ab (f,R) from l)
 cases e;cases m
 obtain⟨r,z,A⟩:=y _ [⟨.bool,ae⟩] ([.p (.v .bool ae)],[]) ⟨rfl,rfl⟩ (by
  simp only[VT,rY];rfl)
 cases z;rw[<-ZFE (L:=lk [])];exact A
theorem wJ{P:yg}{s:Fs P}(h:s.Ok){M:Ty.aO s.ins->yO (cv.sum s.xs)}(e:∀x,M x=s.M x):Fs.Ok (P:=P) { s with M:=M}:=by
 have:M=s.M:=funext e;subst this;exact h
def sK(P:yg)(m:Nat):yL yc->yL Ty->Bool
 |[],[]=>ae
 |t::ts,T::Ts=>oj P m t T&&sK P m ts Ts
 |_,_=>af
theorem ZBC{P:yg}{m n:Nat}:∀{ts:yL yc}{Ts:yL Ty}{xs:yL Pl},sK P m ts Ts=ae->wI P n ts xs->∃v:Ty.aO Ts,Ty.sH Ts v/\xs=Ty.encs Ts v
 |[],[],[],_,_=>⟨(),zP,rfl⟩
 |[],[],_::_,_,h=>h.elim
 |[],_::_,_,h,_=>by cases h
 |_::_,[],_,h,_=>by cases h
 |_::_,_::_,[],_,h=>h.elim
 |t::ts,[T],x::xs,h,f=>by
  simp only[sK,yi]at h;obtain⟨v,g,rfl⟩:=pJ m n t T x h.1 f.1
  cases ts with
  |nil=>cases xs with
   |nil=>exact⟨v,g,rfl⟩
   |cons _ _=>exact f.2.elim
  |cons _ _=>exact absurd h.2 (by simp[sK])
 |t::ts,T::U::Ts,x::xs,h,f=>by
  simp only[sK,yi]at h;obtain⟨v,g,rfl⟩:=pJ m n t T x h.1 f.1;obtain⟨w,j,rfl⟩:=ZBC (Ts:=U::Ts) h.2 f.2;exact⟨(v,w),⟨g,j⟩,rfl⟩
end Go.Ev
end
section
namespace Go.Proofs.YtcbhhaigilifgaaGreat
open Go.Ev Go.RowKit Go.Lib
abbrev zN(t:Ty):List cv:=[⟨.ret,[(0,.v t)],[],[t]⟩]
theorem ZAl(w:yr):Calls yb 221 #[.slice ad 0 0,.int .i64 0] w λe w'=>e=.returned (.slice ad 0 0)/\w'=w:=by
 go_enter Tryz.func221,Tryz.ntmps221
 go_wp2
 go_ret
 exact⟨rfl,rfl⟩
theorem ZC8(n:Nat)(w:yr)(y:0 < n)(hn:n<=Zs):Calls yb 221 #[.slice ad 0 0,.int .i64 n] w λe w'=>e=.returned (.slice (ab ⟨w.heap.size,0,ad⟩) 0 (grownCap w n 0 5))/\
 w'=w.drew.alloc (.cells (Builtin.zeroCells #[.int .u8 0] n++Builtin.zeroCells #[.int .u8 0] (grownCap w n 0 5 - n)) 5):=by
 have M:n<=140737488355328:=hn;have z:¬((n:Int) < 0):=by omega
 have Q:wrap64 ((n:Int) - ((0:Int) - (0:Int)))=(n:Int):=by unfold wrap64;omega
 have F:wrap64 ((n:Int) - 0)=(n:Int):=by unfold wrap64;omega
 have A:wrap64 (n:Int)=(n:Int):=by unfold wrap64;omega
 have R:(n:Int) > 0:=by omega
 have I:∃i,yb.info? 5=ab i/\i.zero=ab (.int .u8 0)/\i.size=1/\i.bytes=1:=by
  have h:(yb.info? 5).map (λi=>(i.zero,i.size,i.bytes))=ab (ab (.int .u8 0),1,1):=by kernel_rfl
  obtain⟨i,z,j⟩:=yv.1 h;simp only[yq]at j;exact⟨i,z,j.1,j.2.1,j.2.2⟩
 obtain⟨i,lB,pQ,hi3,hi4⟩:=I
 have g:∀l,(Builtin.append_ #[141,3] l #[.slice ad 0 0,.int .i64 n]).run yb w=
  .ok (.slice (ab ⟨w.heap.size,0,ad⟩) n (grownCap w n 0 5)) (w.drew.alloc (.cells (Builtin.zeroCells #[.int .u8 0] n++Builtin.zeroCells #[.int .u8 0] (grownCap w n 0 5 - n)) 5)):=λl=>by
  have h:=Lib.run_append_grow_zeros (P:=yb) w 141 3 l 5 i (.int .u8 0) .i64 .i64 Tryz.underlying141 Tryz.underlying3 lB pQ ad 0 0 [] (by rw[hi3];simp[Builtin.firstCells]) n y (by omega) (by omega) (by omega)
   (by rw[hi4];omega) (by rw[yar];exact growslice_fits y (by rw[hi4];omega))
  simpa[Value.cells] using h
 obtain⟨G,E⟩:∃G,G=grownCap w n 0 5:=⟨_,rfl⟩;have m:=grownCap_ge w n 0 5;have f:=grownCap_le_maxLen w n 0 5 (by unfold maxLen;omega);unfold maxLen at f;rw[<-E]at g m f ⊢;clear E
 go_enter Tryz.func221,Tryz.ntmps221
 go_wp2_with (at_builtin;refine Lib.wpList_append_run _ rfl _ _ _ _ rfl _ _ rfl rfl _ _ (g _) ?_)
 all_goals (go_ret;exact⟨rfl,rfl⟩)
theorem ZFF(n:Nat)(hn:n<=Zs):ca yb 221 [.p (.sl (ab af) 1 []),.p (.int .i64 (n:Int))] [] (.own 0 ad 1 []) [.log 1 5 []]:=by
 intro J vs A g j;simp only[aH]at j;obtain⟨v,_,rfl,S,T,_,rfl,E,rfl⟩:=j;obtain rfl:=nD S
 obtain rfl:T=.int .i64 n:=by
  have:=E.2 rfl;simpa[yH,aA] using this
 have M:J.m=[]:=List.eq_nil_of_length_eq_zero (by rw[A.len,g];rfl);rcases Nat.eq_zero_or_pos n with rfl|h0
 .refine(ZAl J.w).mono λe U⟨F,G⟩=> ?_;subst F;subst G;obtain⟨to,f⟩:=Wv (J':={ J with m:=J.m++[ad],H:=J.H++[.log 1 5 []]}) A rfl rfl rfl rfl (World.grownBy.refl J.w ad) (.inl rfl) (λ_=>.inl ⟨rfl,rfl⟩);refine⟨_,{ J with m:=J.m++[ad],H:=J.H++[.log 1 5 []]},rfl,rfl,by simp[g],to,f, ?_⟩;rw[Zh rfl];simp only[yH];exact⟨λ_ l=>(by cases l),ad,0,rfl,yl _,by simp[maxLen],Yg _,λ_=>rfl,λh=>absurd rfl h,5,[],by simp[g],yl _,λ_=>.inl ⟨by simp[M],rfl,rfl⟩⟩
 .refine(ZC8 n J.w h0 hn).mono λe U⟨F,G⟩=> ?_;subst F;subst G;have W:=grownCap_ge J.w n 0 5;have y:=grownCap_le_maxLen J.w n 0 5 (by have:n<=140737488355328:=hn;unfold maxLen;omega)
  have z:(Builtin.zeroCells #[.int .u8 0] n++Builtin.zeroCells #[.int .u8 0] (grownCap J.w n 0 5 - n):Array yh).size=grownCap J.w n 0 5*1:=by
   simp only[Array.size_append,size_zeroCells];simp;omega
  let I:Array yh:=Builtin.zeroCells #[.int .u8 0] n++Builtin.zeroCells #[.int .u8 0] (grownCap J.w n 0 5 - n);let J':Sg:={ J with m:=J.m++[ab J.w.heap.size],H:=J.H++[.log 1 5 []],w:=J.w.drew.alloc (.cells I 5)};have Q:J'.w.heap[J.w.heap.size]? =ab (.cells I 5 (0,0)):=heap_alloc_new J.w.drew _
  obtain⟨to,f⟩:=Wv (J':=J') A rfl rfl rfl rfl (YR J.w (.cells I 5) ad) (.inr ⟨_,rfl,yl _,by simp[J']⟩)
   (λR=>.inr ⟨J.w.heap.size,_,grownCap J.w n 0 5,rfl,Q,z,Nat.zero_le _,y,λ_ l=>(by cases l),by simp[ar]⟩)
  refine⟨_,J',rfl,rfl,by simp[J',g],to,f, ?_⟩;rw[Zh rfl];simp only[yH];exact⟨λ_ l=>(by cases l),_,_,rfl,Nat.zero_le _,y,Yg _,λh=>(by cases h),λh=>absurd rfl h,5,[],by simp[J',g],yl _,λ_=>.inr ⟨_,_,by simp[J',M],rfl,Q,z⟩⟩
end Go.Proofs.YtcbhhaigilifgaaGreat
end
section
set_option maxRecDepth 4000
namespace Go.Proofs.YtcbhhaigilifgaaGreat
open Go Go.Ev
noncomputable section
abbrev yI:Ty:=.int .i64
abbrev Zm:Ty:=(.st [yI,yI,yI,.u64,yI])
abbrev Cond:Type:=(Int×Int×Int×yU×Int)
abbrev _root_.aLE:=yL Cond
def sL(F:Nat)(a0:aLE):yO (aLE):=
 if(cg 0 a0.length 40)=ae then
  ab a0
 else
 ad
abbrev _root_.aLx:Go.Ev.Ty:=.sl Zm
def ZAm:Fs yb:=⟨53,[.sl ae Zm],[],[aLx],(zN aLx),λx=>sL yD x⟩
theorem Zyg:ZAm.Ok:=bg { own:=[5,7],still:=[2]} [] [] trivial
def Zme(F:Nat):yO (aLE):=
 ab []
def ZsT:Fs yb:=⟨53,[.nil Zm],[],[],(zN aLx),λx=>Zme yD⟩
theorem Zrh:ZsT.Ok:=bg { own:=[5,7],still:=[2]} [] [] trivial
def Zmf:Fs yb:=⟨53,[.v aLx],[],[aLx],(zN aLx),λx=>sL yD x⟩
theorem ZsU:Zmf.Ok:=sC (t:=Zm) (xs:=(zN aLx)) (MA:=λ(x:aLE)=>sL yD x) (MB:=λ_=>Zme yD) Zyg Zrh rfl
abbrev _root_.aLI:Go.Ev.Ty:=.arr 2 yI
abbrev Zb:Ty:=(.st [yI,aLI,aLx,yI])
abbrev _root_.aLC:=yL Int
abbrev yG:Type:=(Int×aLC×aLE×Int)
def ZN(F:Nat)(a0:yG)(a1:aLC):yO (yG):=
 (a0.2.1[0]?).bind λf=>
 (a1[0]?).bind λg=>
 (a0.2.1[0]?).bind λl=>
 ((a0.2.1.set 0 (wi (f+g)))[1]?).bind λe4=>
 (a1[1]?).bind λh=>
 ((a0.2.1.set 0 (wi (f+g)))[1]?).bind λm=>
 (sL F a0.2.2.1).bind λj=>
 ab (a0.1,(a0.2.1.set 0 (wi (f+g))).set 1 (wi (e4+h)),j,a0.2.2.2)
def Ziz:Fs yb:=⟨15,[.v Zb,.v aLI],[],[Zb,aLI],(zN Zb),λx=>ZN yD x.1 x.2⟩
theorem ZhG:Ziz.Ok:=bg { still:=[22]} [] [Zmf] ⟨ZsU,aB⟩
def mL:ByteArray:=⟨#[0,1,2,2,3,3,3,3,4,4,4,4,4,4,4,4,5,5,5,5,5,5,5,5,5,5,5,5,5,5,5,5,6,6,6,6,6,6,6,6,6,6,6,6,6,6,6,6,6,6,6,6,6,6,6,6,6,6,6,6,6,6,6,6,7,7,7,7,7,7,7,7,7,7,7,7,7,7,7,7,7,7,7,7,7,7,7,7,7,7,7,7,7,7,7,7,7,7,7,7,7,7,7,7,7,7,7,7,7,7,7,7,7,7,7,7,7,7,7,7,7,7,7,7,7,7,7,7,8,8,8,8,8,8,8,8,8,8,8,8,8,8,8,8,8,8,8,8,8,8,8,8,8,8,8,8,8,8,8,8,8,8,8,8,8,8,8,8,8,8,8,8,8,8,8,8,8,8,8,8,8,8,8,8,8,8,8,8,8,8,8,8,8,8,8,8,8,8,8,8,8,8,8,8,8,8,8,8,8,8,8,8,8,8,8,8,8,8,8,8,8,8,8,8,8,8,8,8,8,8,8,8,8,8,8,8,8,8,8,8,8,8,8,8,8,8,8,8,8,8,8,8,8,8,8,8]⟩
def ZoL(F:Nat)(a0:yU):yO (Int):=
 if(ag (a0 >= 4294967296))=ae then
  if(ag ((Zz a0 32) >= 65536))=ae then
   if(ag ((Zz (Zz a0 32) 16) >= 256))=ae then
    let h:yB:=w8 ((Zz (Zz (Zz a0 32) 16) 8).toNat:Int)
    (idx (gi mL) (h.toNat:Int)).bind λj=>
    ab (wi (56+(j.toNat:Int)))
   else
   (idx (gi mL) ((w8 ((Zz (Zz a0 32) 16).toNat:Int)).toNat:Int)).bind λa=>
   ab (wi (48+(a.toNat:Int)))
  else
  if(ag ((Zz a0 32) >= 256))=ae then
   (idx (gi mL) ((w8 ((Zz (Zz a0 32) 8).toNat:Int)).toNat:Int)).bind λb=>
   ab (wi (40+(b.toNat:Int)))
  else
  (idx (gi mL) ((w8 ((Zz a0 32).toNat:Int)).toNat:Int)).bind λc=>
  ab (wi (32+(c.toNat:Int)))
 else
 if(ag (a0 >= 65536))=ae then
  if(ag ((Zz a0 16) >= 256))=ae then
   (idx (gi mL) ((w8 ((Zz (Zz a0 16) 8).toNat:Int)).toNat:Int)).bind λd=>
   ab (wi (24+(d.toNat:Int)))
  else
  (idx (gi mL) ((w8 ((Zz a0 16).toNat:Int)).toNat:Int)).bind λe=>
  ab (wi (16+(e.toNat:Int)))
 else
 if(ag (a0 >= 256))=ae then
  (idx (gi mL) ((w8 ((Zz a0 8).toNat:Int)).toNat:Int)).bind λf=>
  ab (wi (8+(f.toNat:Int)))
 else
 (idx (gi mL) ((w8 (a0.toNat:Int)).toNat:Int)).bind λg=>
 ab (wi (0+(g.toNat:Int)))
def Zmg:Fs yb:=⟨228,[.v .u64],[],[.u64],(zN yI),λx=>ZoL yD x⟩
theorem ZsV:Zmg.Ok:=bg { still:=[2]} [] [] trivial
def Yr(F:Nat)(a0:yU):yO (Int):=
 (ZoL F a0).bind λa=>
 ab (wi (64 - a))
def ZbD:Fs yb:=⟨211,[.v .u64],[],[.u64],(zN yI),λx=>Yr yD x⟩
theorem Zha:ZbD.Ok:=bg { still:=[2,3]} [] [Zmg] ⟨ZsV,aB⟩
abbrev zI:=yU×yU×yU×yU×yU×yU×yU×yU
def V8(F:Nat):(yU×zI)->yO ((yU×zI)⊕(zI))
 |(d,e,c,f,g,h,i,a,b)=>
 if(ag (a >= 4294967296))=ae then
  let j:Bool:=ag ((b+c) >= 4294967296)
  if j=ae then
   ab (.inr (d,e,c,f,g,h,i,a - 1))
  else
  ab (.inl (d,e,c,f,g,h,i,a - 1,b+c))
 else
 let k:Bool:=ag ((a*f) > ((4294967296*b)+h))
 if k=ae then
  let l:Bool:=ag ((b+c) >= 4294967296)
  if l=ae then
   ab (.inr (d,e,c,f,g,h,i,a - 1))
  else
  ab (.inl (d,e,c,f,g,h,i,a - 1,b+c))
 else
 ab (.inr (d,e,c,f,g,h,i,a))
def Zki:Lp:=⟨[(2,.v .u64),(8,.v .u64),(9,.v .u64),(10,.v .u64),(11,.v .u64),(13,.v .u64),(14,.v .u64),(15,.v .u64),(16,.v .u64)],[],[.u64,.u64,.u64,.u64,.u64,.u64,.u64,.u64,.u64],[⟨.exit 0,[(2,.v .u64),(8,.v .u64),(9,.v .u64),(10,.v .u64),(11,.v .u64),(13,.v .u64),(14,.v .u64),(15,.v .u64)],[],[.u64,.u64,.u64,.u64,.u64,.u64,.u64,.u64]⟩],Zc (V8 yD) yD⟩
theorem ZnV:Zki.cj yb 185 0:=ZQ { still:=[6,7,34]} [] [] trivial
def V9(F:Nat):(yU×zI)->yO ((yU×zI)⊕(yU×yU×yU×yU×yU×yU))
 |(d,e,c,i,f,g,b,h,a)=>
 if(ag (a >= 4294967296))=ae then
  let j:Bool:=ag ((b+c) >= 4294967296)
  if j=ae then
   ab (.inr (d,e,f,g,h,a - 1))
  else
  ab (.inl (d,e,c,i,f,g,b+c,h,a - 1))
 else
 let k:Bool:=ag ((a*i) > ((4294967296*b)+f))
 if k=ae then
  let l:Bool:=ag ((b+c) >= 4294967296)
  if l=ae then
   ab (.inr (d,e,f,g,h,a - 1))
  else
  ab (.inl (d,e,c,i,f,g,b+c,h,a - 1))
 else
 ab (.inr (d,e,f,g,h,a))
def Zkj:Lp:=⟨[(2,.v .u64),(8,.v .u64),(9,.v .u64),(10,.v .u64),(14,.v .u64),(15,.v .u64),(16,.v .u64),(17,.v .u64),(18,.v .u64)],[],[.u64,.u64,.u64,.u64,.u64,.u64,.u64,.u64,.u64],[⟨.exit 2,[(2,.v .u64),(8,.v .u64),(14,.v .u64),(15,.v .u64),(17,.v .u64),(18,.v .u64)],[],[.u64,.u64,.u64,.u64,.u64,.u64]⟩],Zc (V9 yD) yD⟩
theorem ZnW:Zkj.cj yb 185 1:=ZQ { still:=[6,7,34]} [] [] trivial
def wK(F:Nat)(a0:yU)(a1:yU)(a2:yU):yO ((yU×yU)):=
 if(a2==0)=ae then
  ad
 else
 if(ag (a2<=a0))=ae then
  ad
 else
 if(a0==0)=ae then
  if(a2 !=0)=ae then
   if(a2 !=0)=ae then
    ab (a1 / a2,a1 % a2)
   else
   ad
  else
  ad
 else
 (Yr F a2).bind λo=>
 let p:yU:=Zz (VS a2 (min ((du o).toNat:Int).toNat 64)) 32;let q:yU:=(VS a2 (min ((du o).toNat:Int).toNat 64))&&&4294967295;let r:yU:=Zz a1 (min ((64 - (du o)).toNat:Int).toNat 64);let s:yU:=(VS a0 (min ((du o).toNat:Int).toNat 64))|||r;let t:yU:=Zz (VS a1 (min ((du o).toNat:Int).toNat 64)) 32;let u:yU:=(VS a1 (min ((du o).toNat:Int).toNat 64))&&&4294967295
 if(p !=0)=ae then
  (Zc (V8 F) F (VS a2 (min ((du o).toNat:Int).toNat 64),du o,p,q,s,t,u,s / p,s - ((s / p)*p))).bind λ(j,l,k,m,g,h,n,i)=>
  let v:yU:=((g*4294967296)+h) - (i*j)
  if(k !=0)=ae then
   (Zc (V9 F) F (j,l,k,m,n,i,v - ((v / k)*k),v,v / k)).bind λ(d,f,b,e,a,c)=>
   let w:yU:=((a*4294967296)+b) - (c*d)
   ab ((e*4294967296)+c,Zz w (min (f.toNat:Int).toNat 64))
  else
  ad
 else
 ad
def Zmh:Fs yb:=⟨185,[.v .u64,.v .u64,.v .u64],[],[.u64,.u64,.u64],[⟨.ret,[(0,.bm [.v .u64,.v .u64])],[],[.u64,.u64]⟩],λx=>wK yD x.1 x.2.1 x.2.2⟩
theorem ZsW:Zmh.Ok:=bg { still:=[6,7,34]} [(0,Zki),(1,Zkj)] [ZbD] ⟨Zha,aB⟩ ⟨ZnV,ZnW,aB⟩
def sM(F:Nat)(a0:yU)(a1:yU)(a2:yU):yO (yU):=
 if(a2 !=0)=ae then
  (wK F (a0 % a2) a1 a2).bind λa=>
  ab a.2
 else
 ad
def IU(F:Nat):Fs yb:=⟨127,[.v .u64,.v .u64,.v .u64],[],[.u64,.u64,.u64],(zN .u64),λx=>sM F x.1 x.2.1 x.2.2⟩
def ZsX:Fs yb:=IU yD
theorem Zri:ZsX.Ok:=bg { still:=[6,12,13,14]} [] [Zmh] ⟨ZsW,aB⟩
end
end Go.Proofs.YtcbhhaigilifgaaGreat
end
section
namespace Go.Ev
theorem wL(a m:yU):(a - a / m*m).toNat=a.toNat % m.toNat:=by
 have g:a.toNat / m.toNat*m.toNat<=a.toNat:=Nat.div_mul_le_self _ _;have j:=ybv a
 have f:(a / m*m).toNat=a.toNat / m.toNat*m.toNat:=by
  rw[UInt64.toNat_mul,UInt64.toNat_div,yas (by omega)]
 have h:(a / m*m)<=a:=by rw[ycp,f];exact g
 rw[UInt64.toNat_sub_of_le _ _ h,f];have:=Nat.div_add_mod a.toNat m.toNat
 rw[ybo]at this;omega
theorem jT(x:yU):(x&&&4294967295).toNat=x.toNat % 4294967296:=by
 rw[UInt64.toNat_and];exact Nat.and_two_pow_sub_one_eq_mod x.toNat 32
theorem QY(x:yU)(n:Nat):(Zz x n).toNat=x.toNat / 2 ^ n:=by
 unfold Zz;rw[ybh,yas (Nat.lt_of_le_of_lt (Nat.div_le_self ..) (ybv _))]
theorem pK{x y:yU}(h:x.toNat+y.toNat < 18446744073709551616):(x+y).toNat=x.toNat+y.toNat:=by
 rw[UInt64.toNat_add,yas h]
theorem pL{x y:yU}(h:x.toNat*y.toNat < 18446744073709551616):(x*y).toNat=x.toNat*y.toNat:=by
 rw[UInt64.toNat_mul,yas h]
theorem sN{a b:Nat}(ha:a < 4294967296)(hb:b < 4294967296):a*b<=18446744065119617025:=Nat.mul_le_mul (Nat.le_of_lt_succ ha) (Nat.le_of_lt_succ hb)
end Go.Ev
end
section
set_option maxRecDepth 4000
namespace Go.Proofs.YtcbhhaigilifgaaGreat
open Go Go.Ev
section
variable{y1 y0 u d q r:Nat}
theorem ZLD(h:q*y1+r=u)(hc:4294967296*r+d < q*y0):u*4294967296+d < q*(y1*4294967296+y0):=by
 grind
theorem IV(h:q*y1+r=u)(hc:q*y0<=4294967296*r+d):q*(y1*4294967296+y0)<=u*4294967296+d:=by
 grind
theorem ZKw(hu:u < y1*4294967296+y0)(hd:d < 4294967296):(u*4294967296+d) / (y1*4294967296+y0) < 4294967296:=by
 rw[Nat.div_lt_iff_lt_mul (by omega)];omega
theorem ZBD(h:q*y1+r=u)(hq:1<=q):(q - 1)*y1+(r+y1)=u:=by
 have e:q*y1=(q - 1)*y1+y1:=by
  rw[<-Nat.succ_mul];congr 1;omega
 omega
theorem ZFH(hu:u < y1*4294967296+y0)(f:y0 < 4294967296)(h:q*y1+r=u)(g:4294967296<=r):q*y0<=4294967296*r+d:=by
 by_cases j:q < 4294967296
 .have:q*y0<=4294967295*4294967295:=Nat.mul_le_mul (by omega) (by omega);omega
 .have:4294967296*y1<=q*y1:=ycb _ (by omega);omega
end
theorem IW{q T Y:Nat}(f:0 < Y)(h1:T / Y<=q)(h2:q*Y<=T):q=T / Y:=Nat.le_antisymm ((Nat.le_div_iff_mul_le f).2 h2) h1
theorem Zyh{y1 y0 u d:Nat}{Q R Y0 Y1 D:yU}(y:Y1.toNat=y1)(g:Y0.toNat=y0)(hD:D.toNat=d)(h1:y1 < 4294967296)(I:y0 < 4294967296)(hd:d < 4294967296)(hu:u < y1*4294967296+y0)
 (e:Q.toNat*y1+R.toNat=u) (U:R.toNat < 4294967296) (z:(u*4294967296+d) / (y1*4294967296+y0)<=Q.toNat):
 ((Q >= 4294967296\/(Q*Y0 > (4294967296*R)+D))/\(u*4294967296+d) / (y1*4294967296+y0)<=(Q - 1).toNat/\(Q - 1).toNat*y1+(R+Y1).toNat=u/\(R+Y1).toNat=R.toNat+y1)\/
 (¬Q >= 4294967296/\¬(Q*Y0 > (4294967296*R)+D)/\Q.toNat=(u*4294967296+d) / (y1*4294967296+y0)):=by
 have f:(R+Y1).toNat=R.toNat+y1:=by rw[pK (by omega),y]
 have M:((4294967296*R)+D).toNat=4294967296*R.toNat+d:=by
  have m:(4294967296*R:yU).toNat=4294967296*R.toNat:=by
   rw[pL (by show 4294967296*R.toNat < _;omega)];rfl
  rw[pK (by rw[m];omega),m,hD]
 have dec:1<=Q.toNat->(Q - 1).toNat=Q.toNat - 1:=λh=>by
  rw[UInt64.toNat_sub_of_le _ _ (by rw[ycp];exact h)];rfl
 by_cases j:Q >= 4294967296
 .left
  have F:4294967296<=Q.toNat:=by
   rw[ge_iff_le,ycp]at j;exact j
  have:=ZKw hu hd;refine⟨.inl j,by rw[dec (by omega)];omega, ?_,f⟩;rw[dec (by omega),f];exact ZBD e (by omega)
 have F:Q.toNat < 4294967296:=by
  rw[ge_iff_le,ycp]at j;grind
 have G:(Q*Y0).toNat=Q.toNat*y0:=by
  have:=sN F I;rw[pL (by rw[g];omega),g]
 by_cases l:Q*Y0 > (4294967296*R)+D
 .left
  have A:4294967296*R.toNat+d < Q.toNat*y0:=by
   have:=ycs.1 l;grind
  have E:1<=Q.toNat:=by
   all_goals grind
  have S:=ZLD (d:=d) e A;have T:(u*4294967296+d) / (y1*4294967296+y0) < Q.toNat:=(Nat.div_lt_iff_lt_mul (by omega)).2 S;refine⟨.inr l,by rw[dec E];omega, ?_,f⟩;rw[dec E,f];exact ZBD e E
 .right
  have A:Q.toNat*y0<=4294967296*R.toNat+d:=by
   have:¬(((4294967296*R)+D).toNat < (Q*Y0).toNat):=λh=>l (ycs.2 h);grind
  exact⟨j,l,IW (by omega) z (IV e A)⟩
theorem ZLE{y1 y0 u d:Nat}{Yv N Y1 Y0 U D E Q R:yU}(y:Y1.toNat=y1)(z:Y0.toNat=y0)(hD:D.toNat=d)(h1:y1 < 4294967296)(h3:0 < y1)(F:y0 < 4294967296)(hd:d < 4294967296)(hu:u < y1*4294967296+y0)
 (e:Q.toNat*y1+R.toNat=u) (A:R.toNat < 4294967296) (f:(u*4294967296+d) / (y1*4294967296+y0)<=Q.toNat):
 ∃q:yU,Zc (V8 yD) yD (Yv,N,Y1,Y0,U,D,E,Q,R)=ab (Yv,N,Y1,Y0,U,D,E,q)/\q.toNat=(u*4294967296+d) / (y1*4294967296+y0):=by
 obtain⟨x,S,q,rfl,T⟩:=Wr (step:=V8 yD) (λs=>∃Q R:yU,s=(Yv,N,Y1,Y0,U,D,E,Q,R)/\Q.toNat*y1+R.toNat=u/\R.toNat < 4294967296/\(u*4294967296+d) / (y1*4294967296+y0)<=Q.toNat)
  (λs=>4294967296 - s.2.2.2.2.2.2.2.2.toNat) (λx=>∃q:yU,x=(Yv,N,Y1,Y0,U,D,E,q)/\q.toNat=(u*4294967296+d) / (y1*4294967296+y0)) (by
  rintro _ ⟨Q,R,rfl,e,A,f⟩;unfold V8;dsimp only;rcases Zyh y z hD h1 F hd hu e A f with⟨c,I,G,W⟩|⟨m,M,k⟩
  .have g:(∃j,(if ag (R+Y1 >= 4294967296)=ae then ab (Sum.inr (Yv,N,Y1,Y0,U,D,E,Q - 1)) else ab (Sum.inl (Yv,N,Y1,Y0,U,D,E,Q - 1,R+Y1)):yO ((yU×zI)⊕(zI)))=ab (.inl j)/\
    (∃Q R:yU,j=(Yv,N,Y1,Y0,U,D,E,Q,R)/\Q.toNat*y1+R.toNat=u/\R.toNat < 4294967296/\(u*4294967296+d) / (y1*4294967296+y0)<=Q.toNat)/\4294967296 - j.2.2.2.2.2.2.2.2.toNat < 4294967296 - R.toNat)\/
    (∃x,(if ag (R+Y1 >= 4294967296)=ae then ab (Sum.inr (Yv,N,Y1,Y0,U,D,E,Q - 1)) else ab (Sum.inl (Yv,N,Y1,Y0,U,D,E,Q - 1,R+Y1)):yO ((yU×zI)⊕(zI)))=ab (.inr x)/\
    ∃q:yU,x=(Yv,N,Y1,Y0,U,D,E,q)/\q.toNat=(u*4294967296+d) / (y1*4294967296+y0)):=by
    by_cases h:R+Y1 >= 4294967296
    .right;rw[yW (yY h)]
     have l:4294967296<=(R+Y1).toNat:=by
      rw[ge_iff_le,ycp]at h;exact h
     exact⟨_,rfl,_,rfl,IW (by omega) I (IV G (ZFH hu F G l))⟩
    .left;rw[yX (by rw[yN];exact h)]
     have l:(R+Y1).toNat < 4294967296:=by
      rw[ge_iff_le,ycp]at h;grind
     grind
   rcases c with c|c
   .rw[yW (yY c)];exact g
   .by_cases m:Q >= 4294967296
    .rw[yW (yY m)];exact g
    .rw[yX (by rw[yN];exact m),yW (yY c)];exact g
  .right;rw[yX (by rw[yN];exact m),yX (by rw[yN];exact M)];exact⟨_,rfl,_,rfl,k⟩) (Yv,N,Y1,Y0,U,D,E,Q,R) ⟨Q,R,rfl,e,A,f⟩ (by dsimp only;omega)
 grind
theorem ZLF{y1 y0 u d:Nat}{Yv N Y1 Y0 U D E Q R:yU}(y:Y1.toNat=y1)(z:Y0.toNat=y0)(hD:D.toNat=d)(h1:y1 < 4294967296)(h3:0 < y1)(F:y0 < 4294967296)(hd:d < 4294967296)(hu:u < y1*4294967296+y0)
 (e:Q.toNat*y1+R.toNat=u) (A:R.toNat < 4294967296) (f:(u*4294967296+d) / (y1*4294967296+y0)<=Q.toNat):
 ∃q:yU,Zc (V9 yD) yD (Yv,N,Y1,Y0,D,E,R,U,Q)=ab (Yv,N,D,E,U,q)/\q.toNat=(u*4294967296+d) / (y1*4294967296+y0):=by
 obtain⟨x,S,q,rfl,T⟩:=Wr (step:=V9 yD) (λs=>∃Q R:yU,s=(Yv,N,Y1,Y0,D,E,R,U,Q)/\Q.toNat*y1+R.toNat=u/\R.toNat < 4294967296/\(u*4294967296+d) / (y1*4294967296+y0)<=Q.toNat)
  (λs=>4294967296 - s.2.2.2.2.2.2.1.toNat) (λx=>∃q:yU,x=(Yv,N,D,E,U,q)/\q.toNat=(u*4294967296+d) / (y1*4294967296+y0)) (by
  rintro _ ⟨Q,R,rfl,e,A,f⟩;unfold V9;dsimp only;rcases Zyh y z hD h1 F hd hu e A f with⟨c,I,G,W⟩|⟨m,M,k⟩
  .have g:(∃j,(if ag (R+Y1 >= 4294967296)=ae then ab (Sum.inr (Yv,N,D,E,U,Q - 1)) else ab (Sum.inl (Yv,N,Y1,Y0,D,E,R+Y1,U,Q - 1)):yO ((yU×zI)⊕(yU×yU×yU×yU×yU×yU)))=ab (.inl j)/\
    (∃Q R:yU,j=(Yv,N,Y1,Y0,D,E,R,U,Q)/\Q.toNat*y1+R.toNat=u/\R.toNat < 4294967296/\(u*4294967296+d) / (y1*4294967296+y0)<=Q.toNat)/\4294967296 - j.2.2.2.2.2.2.1.toNat < 4294967296 - R.toNat)\/
    (∃x,(if ag (R+Y1 >= 4294967296)=ae then ab (Sum.inr (Yv,N,D,E,U,Q - 1)) else ab (Sum.inl (Yv,N,Y1,Y0,D,E,R+Y1,U,Q - 1)):yO ((yU×zI)⊕(yU×yU×yU×yU×yU×yU)))=ab (.inr x)/\
    ∃q:yU,x=(Yv,N,D,E,U,q)/\q.toNat=(u*4294967296+d) / (y1*4294967296+y0)):=by
    by_cases h:R+Y1 >= 4294967296
    .right;rw[yW (yY h)]
     have l:4294967296<=(R+Y1).toNat:=by
      rw[ge_iff_le,ycp]at h;exact h
     exact⟨_,rfl,_,rfl,IW (by omega) I (IV G (ZFH hu F G l))⟩
    .left;rw[yX (by rw[yN];exact h)]
     have l:(R+Y1).toNat < 4294967296:=by
      rw[ge_iff_le,ycp]at h;grind
     grind
   rcases c with c|c
   .rw[yW (yY c)];exact g
   .by_cases m:Q >= 4294967296
    .rw[yW (yY m)];exact g
    .rw[yX (by rw[yN];exact m),yW (yY c)];exact g
  .right;rw[yX (by rw[yN];exact m),yX (by rw[yN];exact M)];exact⟨_,rfl,_,rfl,k⟩) (Yv,N,Y1,Y0,D,E,R,U,Q) ⟨Q,R,rfl,e,A,f⟩ (by dsimp only;omega)
 grind
theorem ZBE{A B:yU}{a b:Nat}(f:A.toNat=a % 18446744073709551616)(g:B.toNat=b % 18446744073709551616)(h:b<=a)(hd:a - b < 18446744073709551616):(A - B).toNat=a - b:=by
 rw[UInt64.toNat_sub,f,g];omega
theorem ZoM(u y1:Nat):u / y1*y1+u % y1=u:=by
 have:=Nat.div_add_mod u y1;grind
theorem ZFI{u y1 y0 d:Nat}(h1:0 < y1)(hd:d < 4294967296):(u*4294967296+d) / (y1*4294967296+y0)<=u / y1:=by
 have h:(u*4294967296+d) / (y1*4294967296+y0)<=(u*4294967296+d) / (y1*4294967296):=Nat.div_le_div_left (by omega) (by omega)
 have e:(u*4294967296+d) / (y1*4294967296)=u / y1:=by
  rw[ybo y1, <-Nat.div_div_eq_div_mul];congr 1;omega
 omega
theorem ZFJ{a b y:yU}{s:Nat}{Y:yU}(W:y≠0)(hs:Yr yD y=ab (s:Int))(s0:0 < s)(s1:s < 64)(hY:VS y s=Y)(m:Y.toNat=y.toNat*2 ^ s)(hY63:9223372036854775808<=Y.toNat)(ha:a.toNat < y.toNat):
 ∃q r,wK yD a b y=ab (q,r)/\r.toNat=(a.toNat*18446744073709551616+b.toNat) % y.toNat:=by
 have X:¬(y<=a):=by
  rw[ycp];omega
 unfold wK;rw[yX (by rw[yT];exact W),yX (by rw[yN];exact X)];by_cases h0:a=0
 .subst h0;rw[yW (by decide),yW (by rw[yE];exact W),yW (by rw[yE];exact W)];refine⟨_,_,rfl, ?_⟩;simp_all
 rw[yX (by rw[yT];exact h0),hs,ya];dsimp only
 have w:du (s:Int)=yan s:=by
  unfold du;congr 1;omega
 have Z:(du (s:Int)).toNat=s:=by rw[w,ybh,yas (by omega)]
 have e1:min ((du (s:Int)).toNat:Int).toNat 64=s:=by rw[Z];omega
 have e2:(64 - du (s:Int)).toNat=64 - s:=by
  rw[UInt64.toNat_sub_of_le _ _ (by rw[ycp,Z];show s<=64;omega),Z];rfl
 have e3:min ((64 - du (s:Int)).toNat:Int).toNat 64=64 - s:=by rw[e2];omega
 rw[e1,e3,hY];have hYl:=ybv Y;have hb:=ybv b
 have M:2 ^ (64 - s)*2 ^ s=18446744073709551616:=by
  rw[<-Nat.pow_add];grind
 have hp:0 < 2 ^ s:=Nat.pow_pos (by decide);obtain⟨y1,hy1⟩:∃y1,y1=Y.toNat / 4294967296:=⟨_,rfl⟩;obtain⟨y0,hy0⟩:∃y0,y0=Y.toNat % 4294967296:=⟨_,rfl⟩;have j:Y.toNat=y1*4294967296+y0:=by omega
 have f:(Zz Y 32).toNat=y1:=by rw[QY,hy1]
 have z:(Y&&&4294967295).toNat=y0:=by rw[jT,hy0]
 have Q:y1 < 4294967296:=by omega
 have g1:2147483648<=y1:=by omega
 have l0:y0 < 4294967296:=by omega
 have hash:a.toNat*2 ^ s < Y.toNat:=by rw[m];exact Nat.mul_lt_mul_of_pos_right ha hp
 have bd:b.toNat / 2 ^ (64 - s) < 2 ^ s:=by
  rw[Nat.div_lt_iff_lt_mul (Nat.pow_pos (by decide)),ybo,M];exact hb
 have G:((VS a s)|||(Zz b (64 - s))).toNat=a.toNat*2 ^ s+b.toNat / 2 ^ (64 - s):=by
  rw[UInt64.toNat_or,QY];unfold VS;rw[ybh,yas (by omega),ybo, <-Nat.two_pow_add_eq_or_of_lt bd]
 have t10:(VS b s).toNat=b.toNat*2 ^ s % 18446744073709551616:=by
  unfold VS;rw[ybh]
 obtain⟨u,hu⟩:∃u,u=a.toNat*2 ^ s+b.toNat / 2 ^ (64 - s):=⟨_,rfl⟩;obtain⟨v,hv⟩:∃v,v=b.toNat*2 ^ s % 18446744073709551616:=⟨_,rfl⟩;rw[<-hu]at G;rw[<-hv]at t10
 have hbs:b.toNat*2 ^ s=b.toNat / 2 ^ (64 - s)*18446744073709551616+v:=by
  have h1:=Nat.div_add_mod (b.toNat*2 ^ s) 18446744073709551616
  have h2:b.toNat*2 ^ s / 18446744073709551616=b.toNat / 2 ^ (64 - s):=by
   rw[<-M];exact Nat.mul_div_mul_right _ _ hp
  rw[h2, <-hv]at h1;omega
 have hN:(a.toNat*18446744073709551616+b.toNat)*2 ^ s=u*18446744073709551616+v:=by
  rw[ybb,hbs,hu,Nat.mul_right_comm];omega
 have uY:u < y1*4294967296+y0:=by
  rw[<-j,hu,m];have h1:(a.toNat+1)*2 ^ s<=y.toNat*2 ^ s:=ycb _ ha;rw[ybb,Nat.one_mul]at h1;omega
 have hvl:v < 18446744073709551616:=by rw[hv];exact Nat.mod_lt _ (by decide)
 obtain⟨d1,hd1⟩:∃d1,d1=v / 4294967296:=⟨_,rfl⟩;obtain⟨d0,hd0⟩:∃d0,d0=v % 4294967296:=⟨_,rfl⟩;have A:(Zz (VS b s) 32).toNat=d1:=by rw[QY,t10,hd1]
 have F:((VS b s)&&&4294967295).toNat=d0:=by rw[jT,t10,hd0]
 generalize ((VS a s)|||(Zz b (64 - s)):yU)=U at G ⊢;generalize (Zz (VS b s) 32:yU)=D1 at A ⊢;generalize ((VS b s)&&&4294967295:yU)=D0 at F ⊢;generalize (Zz Y 32:yU)=Y1 at f ⊢;generalize (Y&&&4294967295:yU)=Y0 at z ⊢
 have l:(Y1 !=0)=ae:=by
  rw[yE];intro h;rw[h]at f;have:(0:yU).toNat=0:=rfl;omega
 rw[yW l]
 have f1:(U / Y1).toNat*y1+(U - U / Y1*Y1).toNat=u:=by
  rw[wL,UInt64.toNat_div,G,f];exact ZoM u y1
 have f2:(U - U / Y1*Y1).toNat < 4294967296:=by
  rw[wL,G,f];exact Nat.lt_trans (Nat.mod_lt _ (by omega)) Q
 have f3:(u*4294967296+d1) / (y1*4294967296+y0)<=(U / Y1).toNat:=by
  rw[UInt64.toNat_div,G,f];exact ZFI (by omega) (by omega)
 obtain⟨R,k1,S⟩:=ZLE (Yv:=Y) (N:=du (s:Int)) (U:=U) (E:=D0) f z A Q (by omega) l0 (by omega) uY f1 f2 f3;rw[k1,ya];dsimp only;rw[yW l];have m1:=Nat.div_add_mod (u*4294967296+d1) Y.toNat
 have m2:(u*4294967296+d1) % Y.toNat < Y.toNat:=Nat.mod_lt _ (by omega);rw[<-j]at S
 have I:(((U*4294967296)+D1) - (R*Y)).toNat=(u*4294967296+d1) % Y.toNat:=by
  rw[ZBE (a:=u*4294967296+d1) (b:=R.toNat*Y.toNat) ?_ ?_ ?_ ?_]
  .rw[S,ybo ((u*4294967296+d1) / Y.toNat)];omega
  .rw[UInt64.toNat_add,UInt64.toNat_mul,G,A,show(4294967296:yU).toNat=4294967296 from rfl]
   omega
  .rw[UInt64.toNat_mul]
  .rw[S,ybo ((u*4294967296+d1) / Y.toNat)];omega
  .rw[S,ybo ((u*4294967296+d1) / Y.toNat)];omega
 obtain⟨g,hu2⟩:∃g,g=(u*4294967296+d1) % Y.toNat:=⟨_,rfl⟩;rw[<-hu2]at I m2 m1;generalize (((U*4294967296)+D1) - (R*Y):yU)=V at I ⊢
 have f4:(V / Y1).toNat*y1+(V - V / Y1*Y1).toNat=g:=by
  rw[wL,UInt64.toNat_div,I,f];exact ZoM g y1
 have f5:(V - V / Y1*Y1).toNat < 4294967296:=by
  rw[wL,I,f];exact Nat.lt_trans (Nat.mod_lt _ (by omega)) Q
 have f6:(g*4294967296+d0) / (y1*4294967296+y0)<=(V / Y1).toNat:=by
  rw[UInt64.toNat_div,I,f];exact ZFI (by omega) (by omega)
 obtain⟨q0,k3,T⟩:=ZLF (Yv:=Y) (N:=du (s:Int)) (U:=V) (E:=R) f z F Q (by omega) l0 (by omega) (by rw[<-j];exact m2) f4 f5 f6;rw[k3,ya];refine⟨_,_,rfl, ?_⟩;dsimp only;rw[e1,QY];rw[<-j]at T;have m3:=Nat.div_add_mod (g*4294967296+d0) Y.toNat
 have m4:(g*4294967296+d0) % Y.toNat < Y.toNat:=Nat.mod_lt _ (by omega)
 have tr:(((V*4294967296)+D0) - (q0*Y)).toNat=(g*4294967296+d0) % Y.toNat:=by
  rw[ZBE (a:=g*4294967296+d0) (b:=q0.toNat*Y.toNat) ?_ ?_ ?_ ?_]
  .rw[T,ybo ((g*4294967296+d0) / Y.toNat)];omega
  .rw[UInt64.toNat_add,UInt64.toNat_mul,I,F,show(4294967296:yU).toNat=4294967296 from rfl]
   omega
  .rw[UInt64.toNat_mul]
  .rw[T,ybo ((g*4294967296+d0) / Y.toNat)];omega
  .rw[T,ybo ((g*4294967296+d0) / Y.toNat)];omega
 rw[tr]
 have hNm:((a.toNat*18446744073709551616+b.toNat)*2 ^ s) % Y.toNat=(g*4294967296+d0) % Y.toNat:=by
  have e:(a.toNat*18446744073709551616+b.toNat)*2 ^ s=g*4294967296+d0+Y.toNat*((u*4294967296+d1) / Y.toNat*4294967296):=by
   rw[hN, <-Nat.mul_assoc];omega
  rw[e,Nat.add_mul_mod_self_left]
 rw[<-hNm,m,Nat.mul_mod_mul_right,Nat.mul_div_cancel _ hp]
theorem IX{y Y:yU}{s:Nat}(a b:yU)(h:y≠0)(hs:Yr yD y=ab (s:Int))(s0:0 < s)(s1:s < 64)(l:VS y s=Y)(g:Y.toNat=y.toNat*2 ^ s)(f:9223372036854775808<=Y.toNat):
 sM yD a b y=ab (yan ((a.toNat*18446744073709551616+b.toNat) % y.toNat)):=by
 have m:0 < y.toNat:=by
  all_goals grind
 obtain⟨q,r,z,j⟩:=ZFJ (a:=a % y) (b:=b) h hs s0 s1 l g f (by rw[UInt64.toNat_mod];exact Nat.mod_lt _ m);unfold sM;rw[yW (by rw[yE];exact h),z,ya];dsimp only;rw[UInt64.toNat_mod,Nat.add_mod,Nat.mod_mul_mod, <-Nat.add_mod]at j;rw[<-j,UInt64.ofNat_toNat]
theorem ZKx:Yr yD 4611686018427377339=ab ((2:Nat):Int):=by kernel_rfl
theorem ZKy:Yr yD 2305843009213688669=ab ((3:Nat):Int):=by kernel_rfl
theorem ZKz:Yr yD 2305843009213688668=ab ((3:Nat):Int):=by kernel_rfl
noncomputable def W7(F:Nat)(a0:yU)(a1:yU)(a2:yU):yO yU:=
 if(a2==4611686018427377339 || (a2==2305843009213688669 || a2==2305843009213688668))=ae then ab (yan ((a0.toNat*18446744073709551616+a1.toNat) % a2.toNat)) else sM F a0 a1 a2
theorem ZFK(a b y:yU):sM yD a b y=W7 yD a b y:=by
 unfold W7;split
 .rename_i h;simp only[yck,yT]at h;rcases h with rfl|rfl|rfl
  .exact IX (Y:=18446744073709509356) (s:=2) a b (by decide) ZKx (by decide) (by decide) (by kernel_rfl) (by decide) (by decide)
  .exact IX (Y:=18446744073709509352) (s:=3) a b (by decide) ZKy (by decide) (by decide) (by kernel_rfl) (by decide) (by decide)
  .exact IX (Y:=18446744073709509344) (s:=3) a b (by decide) ZKz (by decide) (by decide) (by kernel_rfl) (by decide) (by decide)
 .rfl
noncomputable def ZsY(F:Nat):Fs yb:={ IU F with M:=λx=>W7 F x.1 x.2.1 x.2.2}
noncomputable def wM:Fs yb:=ZsY yD
theorem IY:wM.Ok:=wJ (s:=IU yD) Zri λx=>(ZFK x.1 x.2.1 x.2.2).symm
end Go.Proofs.YtcbhhaigilifgaaGreat
end
section
set_option maxRecDepth 4000
namespace Go.Proofs.YtcbhhaigilifgaaGreat
open Go Go.Ev
noncomputable section
def wN(F:Nat)(a0:yU)(a1:yU):yO ((yU×yU)):=
 let a:yU:=Zz ((a0&&&4294967295)*(a1&&&4294967295)) 32;let b:yU:=(((Zz a0 32)*(a1&&&4294967295))+a)&&&4294967295;let c:yU:=Zz (((Zz a0 32)*(a1&&&4294967295))+a) 32;let d:yU:=Zz (b+((a0&&&4294967295)*(Zz a1 32))) 32
 ab ((((Zz a0 32)*(Zz a1 32))+c)+d,a0*a1)
def IZ(F:Nat):Fs yb:=⟨222,[.v .u64,.v .u64],[],[.u64,.u64],[⟨.ret,[(0,.bm [.v .u64,.v .u64])],[],[.u64,.u64]⟩],λx=>wN F x.1 x.2⟩
def ZsZ:Fs yb:=IZ yD
theorem Zrj:ZsZ.Ok:=bg { still:=[4,5]} [] [] trivial
end
end Go.Proofs.YtcbhhaigilifgaaGreat
end
section
set_option maxRecDepth 4000
namespace Go.Proofs.YtcbhhaigilifgaaGreat
open Go Go.Ev
theorem ZFL(x y:yU):∃h l,wN yD x y=ab (h,l)/\h.toNat*18446744073709551616+l.toNat=x.toNat*y.toNat:=by
 unfold wN;refine⟨_,_,rfl, ?_⟩;have hx:=ybv x;have hy:=ybv y;have F:x.toNat % 4294967296 < 4294967296:=Nat.mod_lt _ (by decide);have G:y.toNat % 4294967296 < 4294967296:=Nat.mod_lt _ (by decide);have I:x.toNat / 4294967296 < 4294967296:=by omega
 have M:y.toNat / 4294967296 < 4294967296:=by omega
 have xe:x.toNat=x.toNat / 4294967296*4294967296+x.toNat % 4294967296:=by omega
 have ye:y.toNat=y.toNat / 4294967296*4294967296+y.toNat % 4294967296:=by omega
 generalize j:x.toNat / 4294967296=f at*;generalize m:x.toNat % 4294967296=g at*;generalize z:y.toNat / 4294967296=y1 at*;generalize E:y.toNat % 4294967296=y0 at*;have p00:=sN F G;have p10:=sN I G;have p01:=sN F M;have p11:=sN I M
 have prod:x.toNat*y.toNat=f*y1*18446744073709551616+(f*y0+g*y1)*4294967296+g*y0:=by
  rw[xe,ye,ybb,Nat.mul_add,Nat.mul_add]
  have e1:f*4294967296*(y1*4294967296)=f*y1*18446744073709551616:=by
   rw[Nat.mul_assoc,Nat.mul_left_comm 4294967296 y1, <-Nat.mul_assoc]
  have e2:f*4294967296*y0=f*y0*4294967296:=by rw[Nat.mul_right_comm]
  have e3:g*(y1*4294967296)=g*y1*4294967296:=by rw[Nat.mul_assoc]
  rw[e1,e2,e3];omega
 have T:((x&&&4294967295)*(y&&&4294967295)).toNat=g*y0:=by
  rw[pL (by rw[jT,jT,m,E];omega),jT,jT,m,E]
 have Q:((Zz x 32)*(y&&&4294967295)).toNat=f*y0:=by
  rw[pL (by rw[QY,jT,show(2:Nat) ^ 32=4294967296 from rfl,j,E];omega),QY,jT,show(2:Nat) ^ 32=4294967296 from rfl,j,E]
 have R:((x&&&4294967295)*(Zz y 32)).toNat=g*y1:=by
  rw[pL (by rw[QY,jT,show(2:Nat) ^ 32=4294967296 from rfl,m,z];omega),QY,jT,show(2:Nat) ^ 32=4294967296 from rfl,m,z]
 have S:((Zz x 32)*(Zz y 32)).toNat=f*y1:=by
  rw[pL (by rw[QY,QY,show(2:Nat) ^ 32=4294967296 from rfl,j,z];omega),QY,QY,show(2:Nat) ^ 32=4294967296 from rfl,j,z]
 generalize hA:((x&&&4294967295)*(y&&&4294967295):yU)=A at*;generalize hB:((Zz x 32)*(y&&&4294967295):yU)=B at*;generalize hC:((x&&&4294967295)*(Zz y 32):yU)=C at*;generalize hD:((Zz x 32)*(Zz y 32):yU)=D at*;have s1:(Zz A 32).toNat=g*y0 / 4294967296:=by rw[QY,T]
 have U:(B+Zz A 32).toNat=f*y0+g*y0 / 4294967296:=by rw[pK (by rw[Q,s1];omega),Q,s1]
 have W:((B+Zz A 32)&&&4294967295).toNat=(f*y0+g*y0 / 4294967296) % 4294967296:=by rw[jT,U]
 have X:(Zz (B+Zz A 32) 32).toNat=(f*y0+g*y0 / 4294967296) / 4294967296:=by rw[QY,U]
 have s5:(((B+Zz A 32)&&&4294967295)+C).toNat=(f*y0+g*y0 / 4294967296) % 4294967296+g*y1:=by rw[pK (by rw[W,R];omega),W,R]
 have Y:(Zz (((B+Zz A 32)&&&4294967295)+C) 32).toNat=((f*y0+g*y0 / 4294967296) % 4294967296+g*y1) / 4294967296:=by rw[QY,s5]
 have Z:(D+Zz (B+Zz A 32) 32).toNat=f*y1+(f*y0+g*y0 / 4294967296) / 4294967296:=by rw[pK (by rw[S,X];omega),S,X]
 have s8:(x*y).toNat=x.toNat*y.toNat % 18446744073709551616:=UInt64.toNat_mul ..
 have s9:((D+Zz (B+Zz A 32) 32)+Zz (((B+Zz A 32)&&&4294967295)+C) 32).toNat=f*y1+(f*y0+g*y0 / 4294967296) / 4294967296+((f*y0+g*y0 / 4294967296) % 4294967296+g*y1) / 4294967296:=by
  rw[pK (by rw[Z,Y];omega),Z,Y]
 rw[s9,s8,prod];generalize g*y0=a at*;generalize f*y0=b at*;generalize g*y1=c at*;generalize f*y1=d at*;omega
theorem ZFM(x y:yU):wN yD x y=ab (yan (x.toNat*y.toNat / 18446744073709551616),yan (x.toNat*y.toNat % 18446744073709551616)):=by
 obtain⟨h,l,e,k⟩:=ZFL x y;have f:=ybv l;rw[e, <-k,show(h.toNat*18446744073709551616+l.toNat) / 18446744073709551616=h.toNat by omega,show(h.toNat*18446744073709551616+l.toNat) % 18446744073709551616=l.toNat by omega,UInt64.ofNat_toNat,UInt64.ofNat_toNat]
noncomputable def wO(F:Nat)(a0:yU)(a1:yU):yO (yU×yU):=ab (yan (a0.toNat*a1.toNat / 18446744073709551616),yan (a0.toNat*a1.toNat % 18446744073709551616))
noncomputable def Zs0(F:Nat):Fs yb:={ IZ F with M:=λx=>wO F x.1 x.2}
noncomputable def JA:Fs yb:=Zs0 yD
theorem Zkk:JA.Ok:=wJ (s:=IZ yD) Zrj λx=>(ZFM x.1 x.2).symm
end Go.Proofs.YtcbhhaigilifgaaGreat
end
section
set_option maxRecDepth 4000
namespace Go.Proofs.YtcbhhaigilifgaaGreat
open Go Go.Ev
noncomputable section
def Yu(F:Nat)(a0:yU)(a1:yU):yO (yU):=
 (wO F a0 a1).bind λa=>
 (W7 F a.1 a.2 4611686018427377339).bind λb=>
 ab b
def JB:Fs yb:=⟨200,[.v .u64,.v .u64],[],[.u64,.u64],(zN .u64),λx=>Yu yD x.1 x.2⟩
theorem ZiC:JB.Ok:=bg { still:=[4,8,9,13,14]} [] [JA,wM] ⟨Zkk,IY,aB⟩
def WV(F:Nat)(s:(yU×yU×yU)):yO ((yU×yU×yU)⊕yU):=
 if(ag (s.2.1 > 0))=ae then
  if((s.2.1&&&1)==1)=ae then
   (Yu F s.2.2 s.1).bind λa=>
   (Yu F s.1 s.1).bind λb=>
   ab (.inl (b,Zz s.2.1 1,a))
  else
  (Yu F s.1 s.1).bind λc=>
  ab (.inl (c,Zz s.2.1 1,s.2.2))
 else
 ab (.inr s.2.2)
def ZhH:Lp:=⟨[(0,.v .u64),(1,.v .u64),(5,.v .u64)],[],[.u64,.u64,.u64],[⟨.exit 0,[(5,.v .u64)],[],[.u64]⟩],Zc (WV yD) yD⟩
theorem Zk3:ZhH.cj yb 154 0:=ZQ { still:=[4,13,14,16,17]} [] [JB] ⟨ZiC,aB⟩
def JC(F:Nat)(a0:yU)(a1:yU):yO (yU):=
 (Zc (WV F) F (a0,a1,1)).bind λa=>
 ab a
def JD(F:Nat):Fs yb:=⟨154,[.v .u64,.v .u64],[],[.u64,.u64],(zN .u64),λx=>JC F x.1 x.2⟩
def Zrk:Fs yb:=JD yD
theorem Zpp:Zrk.Ok:=bg { still:=[4,13,14,16,17]} [(0,ZhH)] [] trivial ⟨Zk3,aB⟩
end
end Go.Proofs.YtcbhhaigilifgaaGreat
end
section
namespace Go.Ev
theorem Zyi{h a m:Nat}(ha:h ^ a % m=1 % m)(k:Nat):h ^ (a*k) % m=1 % m:=by
 rw[Nat.pow_mul,Nat.pow_mod,ha, <-Nat.pow_mod,Nat.one_pow]
def gO(m:Nat):Nat->Nat->Nat->Nat->Nat
 |0,_,_,o=>o
 |f+1,a,n,o=>if n=0 then o else gO m f (a*a % m) (n / 2) (if n % 2=1 then o*a % m else o)
theorem ZBF{m:Nat}:∀(k a n o:Nat),n < 2 ^ k->gO m k a n o % m=o*a ^ n % m
 |0,a,n,o,h=>by
  have:n=0:=by rw[Nat.pow_zero]at h;omega
  subst this
  rw[gO,Nat.pow_zero,Nat.mul_one]
 |k+1,a,n,o,h=>by
  rw[gO];by_cases f:n=0
  .rw[yW f,f,Nat.pow_zero,Nat.mul_one]
  rw[yX f,ZBF k _ _ _ (by rw[Nat.pow_succ]at h;omega)]
  have e:a ^ n=(a*a) ^ (n / 2)*a ^ (n % 2):=by
   rw[<-Nat.pow_two, <-Nat.pow_mul, <-Nat.pow_add];congr 1;omega
  have g:(a*a % m) ^ (n / 2) % m=(a*a) ^ (n / 2) % m:=(Nat.pow_mod ..).symm;rw[e];split
  .rename_i j;rw[j,Nat.pow_one,Nat.mul_mod,g, <-Nat.mul_mod,Nat.mul_mod,Nat.mod_mod, <-Nat.mul_mod];congr 1;rw[Nat.mul_assoc,ybo a]
  .rename_i j;have:n % 2=0:=by omega
   rw[this,Nat.pow_zero,Nat.mul_one,Nat.mul_mod,g, <-Nat.mul_mod]
def kJ:Nat:=2305843009213688669
def gP:Nat:=4611686018427377339
def eD(a:Nat):Prop:=0 < a/\a < gP/\a ^ kJ % gP=1
theorem ZKA:eD 1:=⟨by decide,by decide,by rw[Nat.one_pow];decide⟩
theorem ZIh{a:Nat}(ha:eD a)(n:Nat):a ^ (n % kJ) % gP=a ^ n % gP:=by
 have e:n=kJ*(n / kJ)+n % kJ:=(Nat.div_add_mod n _).symm;have h:=Zyi (m:=gP) (k:=n / kJ) ha.2.2
 conv=>rhs;rw[e]
 rw[Nat.pow_add,Nat.mul_mod,h, <-Nat.mul_mod,Nat.one_mul]
end Go.Ev
end
