/- Parts of the proof, in one file. -/
import Derived.WalkKit
import Derived.Lib.Bytealg
import Derived.Maps.AppendAt
import Derived.Lib.AppendStr
import Derived.Laws.Externs
import Derived.KernelRfl
import Derived.Lib.SlBytesRow
import Derived.Lib.BufferRead
import Derived.Lib.ConvBytes
import Derived.Lib.BytesEntry
import Derived.ChangeKeysEq
import Derived.Laws.StructEq
import Derived.MapKept
import Derived.WideKeyRuns
import Derived.Scope
import Derived.Below
import Derived.ChangeSame
import Derived.ChangeCalls
import Derived.ChangeStays
import Derived.OpenShut
import Derived.ProofKit
import Derived.JoinedCond
import Derived.Test.YtghfiijgklnflaaGreatProg
import Derived.Lib.Walk
import Derived.Lib.SliceRun
import Derived.Lib.AppendZerosOnto
import Derived.Test.YtghfiijgklnflaaGreatRows
open Option renaming some → ab, none → ad
open Bool renaming true → ae, false → af
open Decidable renaming decide → ag
abbrev yL.{u}(α:Type u):=List α
abbrev yO.{u}(α:Type u):=Option α
abbrev yU:=UInt64
abbrev yB:=UInt8
abbrev yV:=UInt32
theorem zZ:True:=trivial
theorem yW.{u}{c:Prop}{h:Decidable c}(hc:c){α:Sort u}{t e:α}:(ite c t e)=t:=if_pos hc
theorem yX.{u}{c:Prop}{h:Decidable c}(hc:¬c){α:Sort u}{t e:α}:(ite c t e)=e:=if_neg hc
theorem yY{p:Prop}[c:Decidable p](h:p):decide p=ae:=decide_eq_true h
theorem yZ{p:Prop}[c:Decidable p](h:¬p):decide p=af:=decide_eq_false h
theorem yP{p:Prop}[Decidable p]:(decide p=ae)=p:=decide_eq_true_eq
theorem yN{p:Prop}[Decidable p]:decide p=ae↔p:=decide_eq_true_iff
theorem yT.{u}{α:Type u}[BEq α][LawfulBEq α]{a b:α}:(a==b)=ae↔a=b:=beq_iff_eq
theorem yE.{u}{α:Type u}[BEq α][LawfulBEq α]{a b:α}:(a != b)=ae↔a≠b:=bne_iff_ne
theorem yF{p:Prop}[c:Decidable p](h:decide p=ae):p:=of_decide_eq_true h
open Array renaming length_toList → ybh, getElem?_toList → ybr
open Bool renaming and_eq_true → yi
open Go renaming TypeId → yb, Program → yg, Value → yh, Operand → yo, FuncId → yr, World → yad
open List renaming length_append → yn, getElem?_eq_some_iff → yp, range → yu, length_map → yx, length_take → yy, cons_append → yaa, replicate → yab, append_assoc → yac, map_cons → yaf, getElem?_map → yah, getElem?_append_left → yaj, length_cons → yam, getElem?_append_right → yan, mem_singleton → yav, length_set → yax, mem_cons_self → yay, mem_cons_of_mem → yba, getElem?_cons_succ → ybe, ext_getElem? → ybg, mem_map → ybj, take_append_drop → ybk, getElem?_set → ybm, all_eq_true → ybn, eq_nil_of_length_eq_zero → ybo, getElem?_cons_zero → ybt, length_nil → yce, length → ycf, mem_append → ycm, mem_map_of_mem → ycv
open Nat renaming le_refl → ym, zero_add → yau, add_mul → ybd, min_eq_left → ybi, le_trans → ybv, add_assoc → yci, lt_or_ge → yck, add_zero → ycl, lt_of_lt_of_le → yda
open Option renaming bind_eq_some_iff → yf, map_eq_some_iff → yq
open Option.some renaming injEq → yj, inj → ybp
open Prod.mk renaming injEq → yl
set_option linter.unusedVariables false
set_option linter.unusedSimpArgs false
namespace Go.Ev
abbrev gk:yL yB:=[0,0,0,0,0,0,0,0,0,0,0,0,0,0,0,0,0,0,0,0,0,0,0,0,0,0,0,0,0,0,0,0]
theorem cf {c:Prop} [Decidable c] (h:¬c):¬decide c=ae:=by simpa using h
theorem aw:True:=trivial
end Go.Ev
section
namespace Go.Ev
inductive Pl where
 |int (k:IntKind) (n:Int)
 |bool (b:Bool)
 |str (s:ByteArray)
 |bH|fn0|dy|bR
 |fQ (f:yr)
 |agg (xs:List Pl)
 |arr (n s:Nat) (xs:List Pl)
 |sl (nn:Option Bool) (s:Nat) (xs:List Pl)
 |iface (t:yb) (x:Pl)
 deriving Inhabited
mutual
def Pl.size:Pl->Nat
 |.agg c=>Pl.sizes c
 |.arr n s _=>n*s
 |_=>1
def Pl.sizes:yL Pl->Nat
 |[]=>0
 |x::r=>x.size+Pl.sizes r
end
def Pl.isAgg:Pl->Bool
 |.agg _=>ae
 |.arr _ _ _=>ae
 |_=>af
def aT(s:Nat)(xs:yL Pl):Prop:=∀x,x∈xs->x.size=s
def ij(nn:yO Bool)(A:yO Addr):Prop:=∀b,nn=ab b->A.isSome=b
theorem Yd(A:yO Addr):ij ad A:=λb h=>by cases h
theorem jV{A:yO Addr}(h:A.isSome=ae):ij (ab ae) A:=λb e=>by cases e;exact h
theorem ML{A:yO Addr}(h:A=ad):ij (ab af) A:=λb e=>by cases e;rw[h];rfl
def W9(w:yad)(S:Nat->Nat->Prop)(b o:Nat)(us:yL yh):Prop:=
 ∀j u,us[j]? =ab u->w.cell? ⟨b,o+j,ad⟩=ab u/\S b (o+j)
mutual
def aq(w:yad)(S:Nat->Nat->Prop):Pl->yL yh->Prop
 |.int k n,vs=>vs=[.int k n]
 |.bool b,vs=>vs=[.bool b]
 |.str s,vs=>vs=[.string s]
 |.bH,vs=>vs=[.pointer ad]
 |.fn0,vs=>vs=[.nilFunc]
 |.dy,vs=>vs=[.nilIface]
 |.bR,vs=>vs=[.map ad]
 |.fQ f,vs=>vs=[.func (.func f) #[] #[]]
 |.agg e,vs=>ak w S e vs
 |.arr n s e,vs=>e.length=n/\aT s e/\ak w S e vs
 |.sl nn s e,vs=>aT s e/\∃A c,vs=[.slice A e.length c]/\e.length<=c/\c<=maxLen/\ij nn A/\(A=ad->c=0)/\
   (e≠[]->∃b o g,A=ab ⟨b,o,ad⟩/\ak w S e g/\W9 w S b o g)
 |.iface t x,vs=>∃v,vs=[.iface t v]/\(x.isAgg=ae->∃h:Array yh,v=.agg h/\aq w S x h.toList)/\(x.isAgg=af->aq w S x [v])
def ak(w:yad)(S:Nat->Nat->Prop):yL Pl->yL yh->Prop
 |[],vs=>vs=[]
 |x::f,vs=>∃e c,vs=e++c/\aq w S x e/\ak w S f c
end
def pz(w:yad)(S:Nat->Nat->Prop)(x:Pl)(v:yh):Prop:=
 (x.isAgg=ae->∃c:Array yh,v=.agg c/\aq w S x c.toList)/\(x.isAgg=af->aq w S x [v])
mutual
def Pl.soft:Pl->Pl
 |.agg c=>.agg (Pl.cy c)
 |.arr n s c=>.arr n s (Pl.cy c)
 |.sl _ s c=>.sl ad s c
 |.iface t x=>.iface t (Pl.soft x)
 |x=>x
def Pl.cy:yL Pl->yL Pl
 |[]=>[]
 |x::r=>x.soft::Pl.cy r
end
inductive Dv where
 |p (x:Pl)
 |elem (x:Pl)
 |am (id off:Nat) (yM:List Nat)
 |own (id:Nat) (nn:Option Bool) (s:Nat) (xs:List Pl)
 |view (id off:Nat) (yM:List Nat) (s lo n:Nat)
 |agg (xs:List Dv)
 |arr (n s:Nat) (xs:List Dv)
 |fn (f:yr) (cap:List Dv)
 |iface (t:yb) (x:Dv)
 |bf (xs:List Dv)
 |mp (id:Nat)
 |cz (id:Nat)
 |cC (id v:Nat) (k:Pl)
 |pm (id v:Nat)
 |rv (id v s lo n:Nat)
 |aW (id v off:Nat) (yM:List Nat)
 |an
 deriving Inhabited
mutual
def Dv.size:Dv->Nat
 |.p x=>x.size
 |.agg c=>Dv.sizes c
 |.arr n s _=>n*s
 |_=>1
def Dv.sizes:yL Dv->Nat
 |[]=>0
 |x::r=>x.size+Dv.sizes r
end
def Dv.isAgg:Dv->Bool
 |.p x=>x.isAgg
 |.agg _=>ae
 |.arr _ _ _=>ae
 |_=>af
inductive ar where
 |var (d:Dv) (st:Bool)
 |log (s:Nat) (e:yb) (xs:List Pl)
 |map (t:yb) (aN:List (Pl×Pl))
 |row (v s:Nat) (st:Bool) (e:yb) (d:Dv)
 |maps (v:Nat) (t u:yb) (aN:List (Pl×List (Pl×Pl)))
 |bA (v:Nat) (aN:List (Pl×Pl))
 |gone
 deriving Inhabited
structure Sg where
 F:Nat->Nat->Prop
 B:Nat->Prop
 m:List (Option Nat)
 H:List ar
 w:yad
 X:Nat->Nat->Prop
def aJ:Dv->Nat->yO Nat
 |.p (.arr n c _),s=>if c=s then ab n else ad
 |.arr n c _,s=>if c=s then ab n else ad
 |_,_=>ad
def ar.bg:ar->Nat->Prop
 |.var _ st,_=>st=af
 |.log s _ c,o=>o < c.length*s
 |.map _ _,_=>False
 |.maps _ _ _ _,_=>False
 |.bA _ _,_=>False
 |.row _ s st _ d,o=>st=af/\∃N,aJ d s=ab N/\o < N*s
 |.gone,_=>True
def Sg.aV(J:Sg)(b o:Nat):Prop:=
 (J.F b o\/J.B b)/\∀(id:Nat)(e:ar),J.m[id]? =ab (ab b)->J.H[id]? =ab e->e.bg o
def ar.eD:ar->Bool
 |.maps _ _ _ _=>ae
 |_=>af
def cL(J:Sg)(id s:Nat)(len:Nat)(A:yO Addr)(c:Nat):Prop:=
 ∃e g,J.H[id]? =ab (.log s e g)/\len<=g.length/\(g.length=len->
  (J.m[id]? =ab ad/\A=ad/\c=0)\/
  ∃b f,J.m[id]? =ab (ab b)/\A=ab ⟨b,0,ad⟩/\J.w.heap[b]? =ab (.cells f e (0,0))/\f.size=c*s)
def rowAt(J:Sg)(id v s lo:Nat)(A:yO Addr)(c:Nat):Prop:=
 ∃g h st e d,J.H[id]? =ab (.row g h st e d)/\v<=g/\(g=v->h=s/\
  ((J.m[id]? =ab ad/\A=ad/\lo+c=0)\/∃b f,J.m[id]? =ab (ab b)/\J.w.heap[b]? =ab (.cells f e (0,0))/\f.size=(lo+c)*s/\(0 < c->A=ab ⟨b,lo*s,ad⟩)))
def rowIs(J:Sg)(id v b o c:Nat):Prop:=∃f s st e d,J.H[id]? =ab (.row f s st e d)/\v<=f/\(f=v->J.m[id]? =ab (ab b)/\o=c)
def pA(J:Sg)(id v:Nat)(k:Pl)(x:yh):Prop:=
 ∃e t u l,J.H[id]? =ab (.maps e t u l)/\v<=e/\(e=v->(k ∉ l.map (·.1)/\x=.map ad)\/
  ∃b g c f,J.m[id]? =ab (ab b)/\J.w.heap[b]? =ab (.map g c)/\f∈g.toList/\pz J.w J.aV k f.key/\x=f.val)
def sQ(J:Sg)(id v:Nat)(e:yO Nat):Prop:=∃c aN,J.H[id]? =ab (.bA c aN)/\v<=c/\(c=v->∃b,e=ab b/\J.m[id]? =ab (ab b))
def big:Nat:=4294967296
def dQ(f:yr):yr:=if f < big then f else f - big
mutual
def yG(J:Sg):Dv->yL yh->Prop
 |.p x,vs=>aq J.w J.aV x vs
 |.elem x,vs=>∃b o j,vs=[.pointer (ab ⟨b,o,ad⟩)]/\aq J.w J.aV x j/\W9 J.w J.aV b o j
 |.am id g _,vs=>∃b,J.m[id]? =ab (ab b)/\(∃d st,J.H[id]? =ab (.var d st))/\vs=[.pointer (ab ⟨b,g,ad⟩)]
 |.own id nn s e,vs=>aT s e/\∃A c,vs=[.slice A e.length c]/\e.length<=c/\c<=maxLen/\ij nn A/\(A=ad->c=0)/\
   (e≠[]->∃b o j,A=ab ⟨b,o,ad⟩/\ak J.w J.aV e j/\W9 J.w J.aV b o j)/\cL J id s e.length A c
 |.view id g _ s lo n,vs=>∃b c a,J.m[id]? =ab (ab b)/\(∃d st,J.H[id]? =ab (.var d st))/\vs=[.slice (ab a) n c]/\n<=c/\c<=maxLen/\
   (0 < n->a=⟨b,g+lo*s,ad⟩)
 |.agg e,vs=>aC J e vs
 |.arr n s e,vs=>e.length=n/\(∀x,x∈e->x.size=s)/\aC J e vs
 |.fn f z,vs=>∃E h,vs=[.func (.func (dQ f)) E h]/\(if f < big then E else h)= #[]/\aB J z (E++h).toList
 |.iface t x,vs=>∃v,vs=[.iface t v]/\(x.isAgg=ae->∃h:Array yh,v=.agg h/\yG J x h.toList)/\(x.isAgg=af->yG J x [v])
 |.bf e,vs=>∃h,vs=[.tuple h]/\aB J e h.toList
 |.mp id,vs=>∃b,J.m[id]? =ab (ab b)/\(∃t aN,J.H[id]? =ab (.map t aN))/\vs=[.map (ab b)]
 |.cz id,vs=>∃b,J.m[id]? =ab (ab b)/\(∃v t u l,J.H[id]? =ab (.maps v t u l))/\vs=[.map (ab b)]
 |.cC id v k,vs=>∃y,vs=[.map y]/\pA J id v k (.map y)
 |.pm id v,vs=>∃y,vs=[.map y]/\sQ J id v y
 |.rv id v s lo n,vs=>∃A c,vs=[.slice A n c]/\n<=c/\c<=maxLen/\(A=ad->c=0)/\(0 < n->∃b o,A=ab ⟨b,o,ad⟩)/\rowAt J id v s lo A c
 |.aW id v g _,vs=>∃b o,vs=[.pointer (ab ⟨b,o,ad⟩)]/\rowIs J id v b o g
 |.an,vs=>vs.length=1
def aC(J:Sg):yL Dv->yL yh->Prop
 |[],vs=>vs=[]
 |x::f,vs=>∃e c,vs=e++c/\yG J x e/\aC J f c
def aB(J:Sg):yL Dv->yL yh->Prop
 |[],vs=>vs=[]
 |x::f,vs=>∃v c,vs=v::c/\((x.isAgg=ae->∃e:Array yh,v=.agg e/\yG J x e.toList)/\(x.isAgg=af->yG J x [v]))/\aB J f c
end
def yH(J:Sg)(d:Dv)(v:yh):Prop:=
 (d.isAgg=ae->∃c:Array yh,v=.agg c/\yG J d c.toList)/\(d.isAgg=af->yG J d [v])
theorem W9.mono{w w':yad}{S S':Nat->Nat->Prop}(h:∀(b o:Nat)(v:yh),w.cell? ⟨b,o,ad⟩=ab v->S b o->w'.cell? ⟨b,o,ad⟩=ab v/\S' b o)
 {b o:Nat} {us:yL yh} (hc:W9 w S b o us):W9 w' S' b o us:=
 λj u c=>let ⟨e,f⟩:=hc j u c;h _ _ _ e f
mutual
theorem Vd{w w':yad}{S S':Nat->Nat->Prop}(h:∀(b o:Nat)(v:yh),w.cell? ⟨b,o,ad⟩=ab v->S b o->w'.cell? ⟨b,o,ad⟩=ab v/\S' b o):∀(x:Pl)(vs:yL yh),aq w S x vs->aq w' S' x vs
 |.int _ _,_,e=>by simpa[aq] using e
 |.bool _,_,e=>by simpa[aq] using e
 |.str _,_,e=>by simpa[aq] using e
 |.bH,_,e=>by simpa[aq] using e
 |.fn0,_,e=>by simpa[aq] using e
 |.dy,_,e=>by simpa[aq] using e
 |.bR,_,e=>by simpa[aq] using e
 |.fQ _,_,e=>by simpa[aq] using e
 |.agg f,vs,e=>by
  simp only[aq]at e ⊢
  exact ax h f vs e
 |.arr n s f,vs,e=>by
  simp only[aq]at e ⊢
  exact⟨e.1,e.2.1,ax h f vs e.2.2⟩
 |.sl nn s f,vs,e=>by
  simp only[aq]at e ⊢;obtain⟨g,A,c,j,l,G,I,M,Q⟩:=e;refine⟨g,A,c,j,l,G,I,M,λm=> ?_⟩;obtain⟨b,o,F,y,z,T⟩:=Q m
  exact⟨b,o,F,y,ax h f F z,T.mono h⟩
 |.iface t x,vs,e=>by
  simp only[aq]at e ⊢;obtain⟨v,g,j,l⟩:=e;refine⟨v,g,λE=> ?_,λE=>Vd h x _ (l E)⟩;obtain⟨U,y,z⟩:=j E;exact⟨U,y,Vd h x _ z⟩
theorem ax{w w':yad}{S S':Nat->Nat->Prop}(h:∀(b o:Nat)(v:yh),w.cell? ⟨b,o,ad⟩=ab v->S b o->w'.cell? ⟨b,o,ad⟩=ab v/\S' b o):∀(xs:yL Pl)(vs:yL yh),ak w S xs vs->ak w' S' xs vs
 |[],_,e=>by simpa[ak] using e
 |x::xs,vs,e=>by
  simp only[ak]at e ⊢;obtain⟨f,c,g,j,l⟩:=e;exact⟨f,c,g,Vd h x f j,ax h xs c l⟩
end
structure bO(J J':Sg):Prop where
 cells:∀(b o:Nat)(v:yh),J.w.cell? ⟨b,o,ad⟩=ab v->J.aV b o->J'.w.cell? ⟨b,o,ad⟩=ab v/\J'.aV b o
 var:∀(id b:Nat),J.m[id]? =ab (ab b)->(∃d st,J.H[id]? =ab (.var d st))->J'.m[id]? =ab (ab b)/\∃d st,J'.H[id]? =ab (.var d st)
 front:∀(id s len:Nat)(A:Option Addr)(c:Nat),cL J id s len A c->cL J' id s len A c
 map:∀(id b:Nat),J.m[id]? =ab (ab b)->(∃t aN,J.H[id]? =ab (.map t aN))->J'.m[id]? =ab (ab b)/\∃t aN,J'.H[id]? =ab (.map t aN)
 row:∀(id v s:Nat)(st:Bool)(e:yb)(d:Dv),J.H[id]? =ab (.row v s st e d)->∃v' st' d',J'.H[id]? =ab (.row v' s st' e d')/\v<=v'/\(v'=v->J'.m[id]? =J.m[id]? /\
  ∀b cur,J.m[id]? =ab (ab b)->J.w.heap[b]? =ab (.cells cur e (0,0))->∃cur',J'.w.heap[b]? =ab (.cells cur' e (0,0))/\cur'.size=cur.size)
 maps:∀(id v:Nat)(t u:yb)(l:List (Pl×List (Pl×Pl))),J.H[id]? =ab (.maps v t u l)->∃v' l',J'.H[id]? =ab (.maps v' t u l')/\v<=v'/\J'.m[id]? =J.m[id]? /\(v'=v->l'.map (·.1)=l.map (·.1)/\
  ∀(b:Nat)(es:Array MapEntry)(clock:Nat),J.m[id]? =ab (ab b)->J.w.heap[b]? =ab (.map es clock)->J'.w.heap[b]? =ab (.map es clock))
 bA:∀(id v:Nat)(l:List (Pl×Pl)),J.H[id]? =ab (.bA v l)->∃v' l',J'.H[id]? =ab (.bA v' l')/\v<=v'/\(v'=v->J'.m[id]? =J.m[id]?)
theorem bO.refl(J:Sg):bO J J:=⟨λ_ _ _ a b=>⟨a,b⟩,λ_ _ a b=>⟨a,b⟩,λ_ _ _ _ _ a=>a,λ_ _ a b=>⟨a,b⟩,λ_ v _ st _ d h=>⟨v,st,d,h,ym _,λ_=>⟨rfl,λb c _ e=>⟨c,e,rfl⟩⟩⟩,λ_ v _ _ l h=>⟨v,l,h,ym _,rfl,λ_=>⟨rfl,λ_ _ _ _ h=>h⟩⟩,λ_ v l h=>⟨v,l,h,ym _,λ_=>rfl⟩⟩
theorem bO.trans{a b c:Sg}(h:bO a b)(k:bO b c):bO a c:=
 ⟨λx o v f z=>let ⟨E,F⟩:=h.cells x o v f z;k.cells x o v E F,λi x f z=>let ⟨E,F⟩:=h.var i x f z;k.var i x E F,
  λi s l A cc f=>k.front i s l A cc (h.front i s l A cc f),λi x f z=>let ⟨E,F⟩:=h.map i x f z;k.map i x E F,
  λi v s st e d f=>by
   obtain⟨j,Y,d2,G,I,m⟩:=h.row i v s st e d f;obtain⟨y,Z,d3,l1,M,Q⟩:=k.row i j s Y e d2 G;refine⟨y,Z,d3,l1,ybv I M,λhv=> ?_⟩;have e1:j=v:=by omega
   have e2:y=j:=by omega
   obtain⟨p1,p2⟩:=m e1;obtain⟨S,T⟩:=Q e2;refine⟨S.trans p1,λb cur U hc=> ?_⟩;obtain⟨W,r1,r2⟩:=p2 b cur U hc;obtain⟨X,r3,r4⟩:=T b W (by rw[p1];exact U) r1;exact⟨X,r3,by rw[r4,r2]⟩,λi v t u l f=>by
   obtain⟨j,M,G,I,m,k4⟩:=h.maps i v t u l f;obtain⟨y,Q,S,T,q3,q4⟩:=k.maps i j t u M G;refine⟨y,Q,S,ybv I T,q3.trans m,λhv=> ?_⟩;obtain⟨r1,r2⟩:=k4 (by omega);obtain⟨r3,r4⟩:=q4 (by omega);exact⟨r3.trans r1,λb es g U hc=>r4 b es g (by rw[m];exact U) (r2 b es g U hc)⟩,λi v l f=>by
   obtain⟨j,M,G,I,m⟩:=h.bA i v l f;obtain⟨y,Q,S,T,q3⟩:=k.bA i j M G;exact⟨y,Q,S,ybv I T,λhv=>(q3 (by omega)).trans (m (by omega))⟩⟩
theorem ZBD{J J':Sg}(h:bO J J'){id v s lo:Nat}{A:yO Addr}{c:Nat}:rowAt J id v s lo A c->rowAt J' id v s lo A c:=by
 rintro⟨t,z,st,e,d,E,F,G⟩;obtain⟨x,j,d2,I,M,Q⟩:=h.row _ _ _ _ _ _ E;refine⟨x,z,j,e,d2,I,ybv F M,λhv=> ?_⟩;have S:t=v:=by omega
 have T:x=t:=by omega
 obtain⟨y,U⟩:=Q T;obtain⟨W,X⟩:=G S;refine⟨W, ?_⟩;rcases X with⟨g,l⟩|⟨b,m,g,l,Y,Z⟩
 .exact .inl ⟨by rw[y,g],l⟩
 .obtain⟨f,b1,b2⟩:=U b m g l;exact .inr ⟨b,f,by rw[y,g],b1,by rw[b2,Y],Z⟩
theorem MM{w w':yad}{S S':Nat->Nat->Prop}(h:∀(b o:Nat)(v:yh),w.cell? ⟨b,o,ad⟩=ab v->S b o->w'.cell? ⟨b,o,ad⟩=ab v/\S' b o){x:Pl}{v:yh}(k:pz w S x v):pz w' S' x v:=
 ⟨λc=>let ⟨e,f,g⟩:=k.1 c;⟨e,f,Vd h x _ g⟩,λc=>Vd h x _ (k.2 c)⟩
theorem ZBE{J J':Sg}(h:bO J J'){id v:Nat}{k:Pl}{x:yh}:pA J id v k x->pA J' id v k x:=by
 rintro⟨W,t,u,l,j,m,s⟩;obtain⟨y,z,A,E,F,G⟩:=h.maps _ _ _ _ _ j;refine⟨y,t,u,z,A,ybv m E,λX=> ?_⟩;obtain⟨I,M⟩:=G (by omega);rcases s (by omega) with⟨e,f⟩|⟨b,g,c,Q,e,f,S,T,U⟩
 .exact .inl ⟨by rw[I];exact e,f⟩
 .exact .inr ⟨b,g,c,Q,by rw[F];exact e,M b g c e f,S,MM h.cells T,U⟩
theorem ZER{J J':Sg}(h:bO J J'){id v:Nat}{c:yO Nat}:sQ J id v c->sQ J' id v c:=by
 rintro⟨A,l,e,f,g⟩;obtain⟨j,m,s,t,x⟩:=h.bA _ _ _ e;refine⟨j,m,s,ybv f t,λE=> ?_⟩;obtain⟨b,y,z⟩:=g (by omega);exact⟨b,y,by rw[x (by omega)];exact z⟩
theorem ZBF{J J':Sg}(h:bO J J'){id v b o c:Nat}:rowIs J id v b o c->rowIs J' id v b o c:=by
 rintro⟨g,l,st,e,d,m,s,t⟩;obtain⟨j,f,d2,x,y,z⟩:=h.row _ _ _ _ _ _ m;refine⟨j,l,f,e,d2,x,ybv s y,λF=> ?_⟩;have A:g=v:=by omega
 have E:j=g:=by omega
 rw[(z E).1];exact t A
mutual
theorem Z7{J J':Sg}(h:bO J J'):∀(d:Dv)(vs:yL yh),yG J d vs->yG J' d vs
 |.p x,vs,e=>by
  simp only[yG]at e ⊢
  exact Vd h.cells x vs e
 |.elem x,vs,e=>by
  simp only[yG]at e ⊢;obtain⟨b,o,z,g,j,m⟩:=e
  exact⟨b,o,z,g,Vd h.cells x z j,m.mono h.cells⟩
 |.am id E Y,vs,e=>by
  simp only[yG]at e ⊢;obtain⟨b,g,j,m⟩:=e
  exact⟨b,(h.var id b g j).1,(h.var id b g j).2,m⟩
 |.own id nn s y,vs,e=>by
  simp only[yG]at e ⊢;obtain⟨g,A,c,j,m,G,I,M,Z,h8⟩:=e;refine⟨g,A,c,j,m,G,I,M,λQ=> ?_,h.front _ _ _ _ _ h8⟩;obtain⟨b,o,z,S,T,e3⟩:=Z Q
  exact⟨b,o,z,S,ax h.cells y z T,e3.mono h.cells⟩
 |.view id E Y s lo n,vs,e=>by
  simp only[yG]at e ⊢;obtain⟨b,c,a,g,j,m⟩:=e
  exact⟨b,c,a,(h.var id b g j).1,(h.var id b g j).2,m⟩
 |.agg y,vs,e=>by
  simp only[yG]at e ⊢
  exact dB h y vs e
 |.arr n s y,vs,e=>by
  simp only[yG]at e ⊢
  exact⟨e.1,e.2.1,dB h y vs e.2.2⟩
 |.fn f U,vs,e=>by
  simp only[yG]at e ⊢;obtain⟨fs,F,g,h0,j⟩:=e
  exact⟨fs,F,g,h0,cg h U _ j⟩
 |.iface t x,vs,e=>by
  simp only[yG]at e ⊢;obtain⟨v,g,j,m⟩:=e;refine⟨v,g,λW=> ?_,λW=>Z7 h x _ (m W)⟩;obtain⟨F,S,T⟩:=j W
  exact⟨F,S,Z7 h x _ T⟩
 |.bf y,vs,e=>by
  simp only[yG]at e ⊢;obtain⟨F,g,j⟩:=e
  exact⟨F,g,cg h y _ j⟩
 |.mp id,vs,e=>by
  simp only[yG]at e ⊢;obtain⟨b,g,j,m⟩:=e
  exact⟨b,(h.map id b g j).1,(h.map id b g j).2,m⟩
 |.cz id,vs,e=>by
  simp only[yG]at e ⊢;obtain⟨b,g,⟨v,t,u,l,j⟩,m⟩:=e;obtain⟨v',l',k1,_,k3,_⟩:=h.maps _ _ _ _ _ j
  exact⟨b,by rw[k3];exact g,⟨v',t,u,l',k1⟩,m⟩
 |.cC id v k,vs,e=>by
  simp only[yG]at e ⊢;obtain⟨X,g,j⟩:=e
  exact⟨X,g,ZBE h j⟩
 |.pm id v,vs,e=>by
  simp only[yG]at e ⊢;obtain⟨X,g,j⟩:=e
  exact⟨X,g,ZER h j⟩
 |.rv id v s lo n,vs,e=>by
  simp only[yG]at e ⊢;obtain⟨A,c,g,j,m,G,I,M⟩:=e
  exact⟨A,c,g,j,m,G,I,ZBD h M⟩
 |.aW id v E Y,vs,e=>by
  simp only[yG]at e ⊢;obtain⟨b,o,g,j⟩:=e
  exact⟨b,o,g,ZBF h j⟩
 |.an,_,e=>by simpa[yG] using e
theorem dB{J J':Sg}(h:bO J J'):∀(f:yL Dv)(vs:yL yh),aC J f vs->aC J' f vs
 |[],_,e=>by simpa[aC] using e
 |x::j,vs,e=>by
  simp only[aC]at e ⊢;obtain⟨g,c,l,m,s⟩:=e;exact⟨g,c,l,Z7 h x g m,dB h j c s⟩
theorem cg{J J':Sg}(h:bO J J'):∀(g:yL Dv)(vs:yL yh),aB J g vs->aB J' g vs
 |[],_,e=>by simpa[aB] using e
 |x::j,vs,e=>by
  simp only[aB]at e ⊢;obtain⟨v,c,l,⟨m,s⟩,t⟩:=e;refine⟨v,c,l,⟨λf=> ?_,λf=>Z7 h x _ (s f)⟩,cg h j c t⟩;obtain⟨y,z,A⟩:=m f;exact⟨y,z,Z7 h x _ A⟩
end
theorem Y5{J J':Sg}(h:bO J J'){d:Dv}{v:yh}(e:yH J d v):yH J' d v:=by
 obtain⟨f,g⟩:=e;refine⟨λc=> ?_,λc=>Z7 h d _ (g c)⟩;obtain⟨j,l,m⟩:=f c;exact⟨j,l,Z7 h d _ m⟩
def fe(J:Sg):yL (Pl×Pl)->yL MapEntry->Prop
 |[],[]=>True
 |q::r,e::c=>yH J (.p q.1) e.key/\yH J (.p q.2) e.val/\fe J r c
 |_,_=>False
def ff(J:Sg)(aN:yL (Pl×Pl))(es:yL MapEntry):Prop:=∃l,l.Perm aN/\(aN.map (·.1)).Nodup/\fe J l es
def QU(es:Array MapEntry)(c:Nat):Prop:=
 (∀(q:Nat)e,es[q]? =ab e->e.born < c)/\∀(q g:Nat)e f,es[q]? =ab e->es[g]? =ab f->e.born=f.born->q=g
def iG(J:Sg)(c:Nat)(l:yL (Pl×Pl)):Prop:=∃f e,J.w.heap[c]? =ab (.map f e)/\ff J l f.toList/\QU f e
def fR(J:Sg)(b:Nat):yL (Pl×yL (Pl×Pl))->yL MapEntry->Prop
 |[],[]=>True
 |q::r,e::f=>yH J (.p q.1) e.key/\(∃c,e.val=.map (ab c)/\J.X b c/\iG J c q.2)/\fR J b r f
 |_,_=>False
def cW(J:Sg)(a:yO Nat):ar->Prop
 |.var d _=>∃b m t,a=ab b/\J.w.heap[b]? =ab (.cells m t (0,0))/\yG J d (m.toList.take d.size)/\d.size<=m.size
 |.log s e j=>(a=ad/\j=[])\/
   ∃b f g,a=ab b/\J.w.heap[b]? =ab (.cells f e (0,0))/\f.size=g*s/\j.length<=g/\g<=maxLen/\aT s j/\
    ak J.w J.aV j (f.toList.take (j.length*s))
 |.map _ aN=>∃b h c,a=ab b/\J.w.heap[b]? =ab (.map h c)/\ff J aN h.toList/\QU h c
 |.row _ s _ e d=>∃N,aJ d s=ab N/\((a=ad/\N=0)\/
   ∃b f g,a=ab b/\J.w.heap[b]? =ab (.cells f e (0,0))/\f.size=g*s/\N<=g/\g<=maxLen/\yG J d (f.toList.take (N*s)))
 |.maps _ _ _ aN=>∃b h c,a=ab b/\J.w.heap[b]? =ab (.map h c)/\(∃l,l.Perm aN/\(aN.map (·.1)).Nodup/\fR J b l h.toList)/\(h.toList.map (·.val)).Nodup/\QU h c
 |.bA _ aN=>a=ad\/∃b h c,a=ab b/\J.w.heap[b]? =ab (.map h c)/\ff J aN h.toList/\QU h c
 |.gone=>True
structure Ok(J:Sg):Prop where
 len:J.m.length=J.H.length
 inj:∀(i j b:Nat),J.m[i]? =ab (ab b)->J.m[j]? =ab (ab b)->i=j
 lt:∀(i b:Nat),J.m[i]? =ab (ab b)->b < J.w.heap.size
 cA:∀(i:Nat)(e:ar)(a:Option Nat),J.H[i]? =ab e->J.m[i]? =ab a->cW J a e
 new:∀(b:Nat),J.w.heap.size<=b->J.B b
 own:∀(i b:Nat),J.m[i]? =ab (ab b)->J.B b
 cQ:∀(b c:Nat),J.X b c->c < J.w.heap.size/\J.B c/\(∀(i:Nat),J.m[i]? ≠ab (ab c))/\∃(i:Nat)(e:ar),J.m[i]? =ab (ab b)/\J.H[i]? =ab e/\e.eD=ae
 one:∀(b b' c:Nat),J.X b c->J.X b' c->b=b'
structure To(J J':Sg):Prop where
 leaf:bO J J'
 F:J'.F=J.F
 B:J'.B=J.B
 os:J'.w.os=J.w.os
 tape:J'.w.tape=J.w.tape
 output:J'.w.output=J.w.output
 size:J.w.heap.size<=J'.w.heap.size
 block:∀(b:Nat),b < J.w.heap.size->(∀(id:Nat),J.m[id]? ≠ab (ab b))->(∀(c:Nat),¬J.X c b)->J'.w.heap[b]? =J.w.heap[b]?
 same:∀(id b:Nat),J'.m[id]? =ab (ab b)->J.m[id]? =ab (ab b)\/J.w.heap.size<=b
 len:J.m.length<=J'.m.length
 xs:∀(b c:Nat),J'.X b c->(∃b0,J.X b0 c)\/(∃i:Nat,J.m[i]? =ab (ab c))\/J.w.heap.size<=c
theorem To.refl(J:Sg):To J J:=⟨bO.refl J,rfl,rfl,rfl,rfl,rfl,ym _,λ_ _ _ _=>rfl,λ_ _ h=>.inl h,ym _,λb _ h=>.inl ⟨b,h⟩⟩
theorem To.trans{a b c:Sg}(h:To a b)(k:To b c):To a c where
 leaf:=h.leaf.trans k.leaf
 F:=k.F.trans h.F
 B:=k.B.trans h.B
 os:=k.os.trans h.os
 tape:=k.tape.trans h.tape
 output:=k.output.trans h.output
 size:=ybv h.size k.size
 block x hx hn hX:=(k.block x (yda hx h.size) (λid he=>by
  rcases h.same id x he with h1|h1
  .exact hn id h1
  .omega) (λc hc=>by
  rcases h.xs c x hc with⟨c0,h1⟩|⟨i,h1⟩|h1
  .exact hX c0 h1
  .exact hn i h1
  .omega)).trans (h.block x hx hn hX)
 same id x hx:=by
  rcases k.same id x hx with h1|h1
  .exact h.same id x h1
  .exact .inr (ybv h.size h1)
 len:=ybv h.len k.len
 xs x y hx:=by
  rcases k.xs x y hx with⟨x0,h1⟩|⟨i,h1⟩|h1
  .exact h.xs x0 y h1
  .rcases h.same i y h1 with h2|h2
   .exact .inr (.inl ⟨i,h2⟩)
   .exact .inr (.inr h2)
  .exact .inr (.inr (ybv h.size h1))
def cF(P:yg)(f:yr)(args:yL Dv)(H:yL ar)(r:Dv)(H':yL ar):Prop:=
 ∀(J:Sg)(vs:yL yh),Ok J->J.H=H->aB J args vs->
  Calls P f vs.toArray J.w λe c=>∃v J',e=.returned v/\J'.w=c/\J'.H=H'/\To J J'/\Ok J'/\yH J' r v
structure ay(J:Sg)(ts:List Dv)(a:Act):Prop where
 size:a.tmps.size=ts.length
 at_:∀(i:Nat)(d:Dv),ts[i]? =ab d->yH J d (a.tmps.getD i undef)
 defers:a.defers=[]
theorem ay.to{J J':Sg}{ts:yL Dv}{a:Act}(h:ay J ts a)(k:bO J J'):ay J' ts a:=
 ⟨h.size,λi d c=>Y5 k (h.at_ i d c),h.defers⟩
inductive Ex where
 |normal
 |exit (id:Nat)
 |ret
 deriving DecidableEq,Inhabited
def Ex.to:Ex->Exit
 |.normal=>.normal
 |.exit id=>.exit id
 |.ret=>.ret
def Wq(P:yg)(c:Code)(ts:yL Dv)(H:yL ar)(g:Ex)(f:yL Dv)(H':yL ar):Prop:=
 ∀(J:Sg)(a:Act),Ok J->J.H=H->ay J ts a->
  c.wp P (λe h j=>e=g.to/\∃J',J'.w=j/\J'.H=H'/\To J J'/\Ok J'/\ay J' f h) a J.w
inductive aj where
 |b (t:Bool)
 |el (x:Pl)
 |bare
 |raw
 |call (r:Dv) (H':List ar) (ids:List Nat)
 |sub (t:Nat) (d:Dv)
 |own
 |gP
 |aN (l:List (Pl×Pl))
 |sR (l:List (Pl×List (Pl×Pl)))
 |pm
 |arr
 |bS
 |fresh (dst:Nat)
 |iH (dst:Nat)
 |still (dst:Nat)
 |aZ (yM:List Nat) (s:Nat) (e:yb)
 |loop (mask:List Nat) (ex:Ex) (ts':List Dv) (H':List ar)
 |gQ (g:yr)
 deriving Inhabited
def jk(P:yg)(t:yb)(e:String)(g:yr):Prop:=
 ∀(v:yh)(c:Array yh)(w:yad),(callMethod (.iface t v) e c).run P w=(callFunc g (#[v]++c)).run P w
def V3(k:IntKind)(x:Int):Prop:=k.min<=x/\x<=k.max
def ZLA(P:yg)(t:yb):Nat:=
 match P.underlying t with
 |some (.slice e)=>P.cellsOf e
 |_=>0
def Wa(P:yg)(t:yb):Bool:=
 match P.underlying t with
 |some (.struct _)=>ae
 |some (.array _ _)=>ae
 |_=>af
def sS(P:yg)(t:yb):yh->yO Pl
 |.int k n=>ab (.int k n)
 |.bool b=>ab (.bool b)
 |.string s=>ab (.str s)
 |.pointer ad=>ab .bH
 |.nilFunc=>ab .fn0
 |.nilIface=>ab .dy
 |.map ad=>ab .bR
 |.slice ad 0 0=>ab (.sl (ab af) (ZLA P t) [])
 |_=>ad
mutual
def nL(P:yg):Nat->yb->yL yh->yO (Pl×yL yh)
 |0,_,_=>ad
 |yD+1,t,vs=>
  match P.underlying t with
  |some (.struct c)=>(cM P yD (c.toList.map (·.type)) vs).map λr=>(.agg r.1,r.2)
  |some (.array n e)=>(fg P yD e n vs).map λr=>(.arr n (P.cellsOf e) r.1,r.2)
  |some _=>match vs with
   |v::r=>(sS P t v).map λx=>(x,r)
   |[]=>ad
  |none=>ad
def cM(P:yg):Nat->yL yb->yL yh->yO (yL Pl×yL yh)
 |0,_,_=>ad
 |_+1,[],vs=>ab ([],vs)
 |yD+1,t::ts,vs=>
  match nL P yD t vs with
  |some (x,r)=>(cM P yD ts r).map λq=>(x::q.1,q.2)
  |none=>ad
def fg(P:yg):Nat->yb->Nat->yL yh->yO (yL Pl×yL yh)
 |0,_,_,_=>ad
 |_+1,_,0,vs=>ab ([],vs)
 |yD+1,e,n+1,vs=>
  match nL P yD e vs with
  |some (x,r)=>if x.size=P.cellsOf e then(fg P yD e n r).map λq=>(x::q.1,q.2) else ad
  |none=>ad
end
def nM(P:yg)(t:yb):yh->Dv
 |.agg g=>match nL P 1000 t g.toList with
  |some (x,[])=>if x.isAgg then .p x else .an
  |_=>.an
 |.func (.func f) c e=>if c.size=0/\e.size=0/\f < big then .fn f [] else .an
 |v=>match sS P t v with
  |some x=>.p x
  |none=>.an
def Zo(P:yg)(ts:yL Dv)(t:yb):yo->Dv
 |.tmp i=>ts.getD i .an
 |.const v=>nM P t v
 |.global _=>.an
 |.func f=>if f < big then .fn f [] else .an
mutual
def Dv.bt:Dv->Bool
 |.bf _=>af
 |.an=>af
 |.agg c=>Dv.dC c
 |.arr _ _ c=>Dv.dC c
 |_=>ae
def Dv.dC:yL Dv->Bool
 |[]=>ae
 |x::r=>x.bt&&Dv.dC r
end
mutual
def Dv.rn(f:Nat->yO Nat):Dv->yO Dv
 |.p x=>ab (.p x)
 |.elem x=>ab (.elem x)
 |.am id c h=>(f id).map λi=>.am i c h
 |.own id nn s e=>(f id).map λi=>.own i nn s e
 |.view id c h s lo n=>(f id).map λi=>.view i c h s lo n
 |.agg e=>(Dv.bi f e).map .agg
 |.arr n s e=>(Dv.bi f e).map (.arr n s)
 |.fn g j=>(Dv.bi f j).map (.fn g)
 |.iface t x=>(Dv.rn f x).map (.iface t)
 |.bf e=>(Dv.bi f e).map .bf
 |.mp id=>(f id).map .mp
 |.cz id=>(f id).map .cz
 |.cC id v k=>(f id).map λi=>.cC i v k
 |.pm id v=>(f id).map λi=>.pm i v
 |.rv id v s lo n=>(f id).map λi=>.rv i v s lo n
 |.aW id v c h=>(f id).map λi=>.aW i v c h
 |.an=>ab .an
def Dv.bi(f:Nat->yO Nat):yL Dv->yO (yL Dv)
 |[]=>ab []
 |x::r=>match Dv.rn f x,Dv.bi f r with
  |some y,ab c=>ab (y::c)
  |_,_=>ad
end
def ar.rn(f:Nat->yO Nat):ar->yO ar
 |.var d st=>(d.rn f).map λc=>.var c st
 |.log s e g=>ab (.log s e g)
 |.map t aN=>ab (.map t aN)
 |.maps v t u aN=>ab (.maps v t u aN)
 |.bA v aN=>ab (.bA v aN)
 |.row v s st e d=>(d.rn f).map λc=>.row v s st e c
 |.gone=>ab .gone
def ar.bi(f:Nat->yO Nat):yL ar->yO (yL ar)
 |[]=>ab []
 |x::r=>match ar.rn f x,ar.bi f r with
  |some y,ab c=>ab (y::c)
  |_,_=>ad
def Dv.plain:Dv->yO Pl
 |.p x=>ab x
 |.own _ nn s c=>ab (.sl nn s c)
 |_=>ad
mutual
def Dv.flat:Dv->yO Pl
 |.p x=>ab x
 |.own _ nn s c=>ab (.sl nn s c)
 |.agg e=>(Dv.aL e).map .agg
 |_=>ad
def Dv.aL:yL Dv->yO (yL Pl)
 |[]=>ab []
 |d::r=>match d.flat,Dv.aL r with
  |some x,ab c=>ab (x::c)
  |_,_=>ad
end
mutual
def Dv.owns(ids:yL Nat):Dv->Bool
 |.own id _ _ _=>ids.contains id
 |.agg c=>Dv.de ids c
 |_=>af
def Dv.de(ids:yL Nat):yL Dv->Bool
 |[]=>af
 |d::r=>d.owns ids || Dv.de ids r
end
def Dv.df(c:yL Dv):Dv:=
 match Dv.aL c with
 |some e=>.p (.agg e)
 |none=>.agg c
def iI:yL Dv->yO (yL Pl)
 |[]=>ab []
 |d::r=>match d.plain,iI r with
  |some x,ab c=>ab (x::c)
  |_,_=>ad
def pB(c:yL Dv):Dv:=
 match iI c with
 |some e=>.p (.agg e)
 |none=>.agg c
abbrev lU:=yO (yL Prop×Dv×yL aj)
abbrev sT:=yO (yL Prop×Dv×yL ar×yL aj)
def fS(k:IntKind)(x:Int):yL aj->lU
 |.bare::hs=>ab ([V3 k x],.p (.int k x),hs)
 |.raw::hs=>ab ([],.p (.int k (k.wrap x)),hs)
 |_=>ad
def sU(op:BinOp)(a b:Nat):yO Nat:=
 match op with
 |.and=>ab (a&&&b)
 |.or=>ab (a|||b)
 |.xor=>ab (a^^^b)
 |_=>ad
def Xn(op:BinOp)(k:IntKind)(x y:Int)(hs:yL aj):lU:=
 match op with
 |.add=>fS k (x+y) hs
 |.sub=>fS k (x - y) hs
 |.mul=>fS k (x*y) hs
 |.quo=>match hs with
  |.bare::hs'=>ab ([0<=x,0 < y,V3 k (x / y)],.p (.int k (x / y)),hs')
  |.raw::hs'=>ab ([y≠0],.p (.int k (k.wrap (x.tdiv y))),hs')
  |_=>ad
 |.rem=>match hs with
  |.bare::hs'=>ab ([0<=x,0 < y],.p (.int k (x % y)),hs')
  |.raw::hs'=>ab ([y≠0],.p (.int k (x.tmod y)),hs')
  |_=>ad
 |.and|.or|.xor=>match hs with
  |.bare::hs'=>(sU op x.toNat y.toNat).map λ(r:Nat)=>([0<=x,V3 k x,0<=y,V3 k y,V3 k (r:Int)],.p (.int k (r:Int)),hs')
  |.raw::hs'=>ab ([],.p (.int k (bits op k x y)),hs')
  |_=>ad
 |.andNot=>match hs with
  |.raw::hs'=>ab ([],.p (.int k (bits op k x y)),hs')
  |_=>ad
 |.eql=>ab ([],.p (.bool (x==y)),hs)
 |.neq=>ab ([],.p (.bool (x !=y)),hs)
 |.lss=>ab ([],.p (.bool (ag (x < y))),hs)
 |.leq=>ab ([],.p (.bool (ag (x<=y))),hs)
 |.gtr=>ab ([],.p (.bool (ag (x > y))),hs)
 |.geq=>ab ([],.p (.bool (ag (x >= y))),hs)
 |_=>ad
def Vg(op:BinOp)(k:IntKind)(x y:Int)(hs:yL aj):lU:=
 match op,hs with
 |.shl,.bare::hs'=>ab ([0<=y,y.toNat < k.bits,V3 k (x*2 ^ y.toNat)],.p (.int k (x*2 ^ y.toNat)),hs')
 |.shl,.raw::hs'=>ab ([0<=y],.p (.int k (k.wrap (x*2 ^ (min y.toNat k.bits)))),hs')
 |.shr,.bare::hs'=>ab ([0<=y,y.toNat<=k.bits],.p (.int k (x / 2 ^ y.toNat)),hs')
 |.shr,.raw::hs'=>ab ([0<=y],.p (.int k (x.fdiv (2 ^ (min y.toNat k.bits)))),hs')
 |_,_=>ad
mutual
def Pl.flat:Pl->Bool
 |.int _ _=>ae
 |.bool _=>ae
 |.agg c=>Pl.aL c
 |.arr _ _ c=>Pl.aL c
 |_=>af
def Pl.aL:yL Pl->Bool
 |[]=>ae
 |x::r=>x.flat&&Pl.aL r
end
def gR(P:yg)(R:yb->Pl->Prop):yL Field->Nat->yL Pl->Prop
 |[],_,[]=>True
 |f::c,o,y::e=>f.name≠ "_" /\f.offset=o/\P.cellsOf f.type=y.size/\(P.info? f.type).isSome=ae/\(P.underlying f.type).isSome=ae/\Wa P f.type=y.isAgg/\y.size≠0/\R f.type y/\gR P R c (o+y.size) e
 |_,_,_=>False
def aO(P:yg):Nat->yb->Pl->Prop
 |0,_,_=>False
 |n+1,t,x=>match P.underlying t,x with
  |some .bool,.bool _=>True
  |some (.int k),.int f _=>f=k
  |some (.array m e),.arr g s c=>g=m/\P.cellsOf e=s/\s≠0/\(P.info? e).isSome=ae/\(P.underlying e).isSome=ae/\∀y,y∈c->aO P n e y/\y.size=s/\Wa P e=y.isAgg
  |some (.struct h),.agg c=>P.stoodInHeld t=af/\gR P (aO P n) h.toList 0 c
  |_,_=>False
def WO:yL (Pl×Pl)->Pl->yO Pl->Prop
 |[],_,r=>r=ad
 |q::l,k,r=>(k=q.1/\r=ab q.2)\/(k≠q.1/\WO l k r)
def QG:yL (Pl×Pl)->Pl->Pl->yL (Pl×Pl)->Prop
 |[],k,v,l=>l=[(k,v)]
 |q::r,k,v,l=>(k=q.1/\l=(k,v)::r)\/(k≠q.1/\∃c,l=q::c/\QG r k v c)
def fT:yL (Pl×Pl)->Pl->yL (Pl×Pl)->Prop
 |[],_,l=>l=[]
 |q::r,k,l=>(k=q.1/\l=r)\/(k≠q.1/\∃c,l=q::c/\fT r k c)
def VH(P:yg)(c:yb)(aN:yL (Pl×Pl)):Prop:=∀q,q∈aN->aO P 20 c q.1
def fH(P:yg)(c:yb)(l:yL (Pl×yL (Pl×Pl))):Prop:=∀q,q∈l->aO P 20 c q.1
def lV(l:yL (Pl×yL (Pl×Pl)))(k:Pl)(aN:yL (Pl×Pl)):Prop:=(k,aN)∈l\/(k ∉ l.map (·.1)/\aN=[])
open Classical in
noncomputable def gm(l:yL (Pl×yL (Pl×Pl)))(k:Pl)(x:yL (Pl×Pl)):yL (Pl×yL (Pl×Pl)):=
 if k∈l.map (·.1) then l.map λq=>if q.1=k then(k,x) else q else l++[(k,x)]
def MN(P:yg)(t:yb):Bool:=match P.underlying t with
 |some (.map _ c)=>(match P.underlying c with|some (.map _ _)=>ae|_=>af)
 |_=>af
def sV(P:yg)(t:yb):Bool:=match P.info? t with|some i=>(match i.zero with|some (.map ad)=>ae|_=>af)|none=>af
theorem ZJF{P:yg}{t:yb}(h:sV P t=ae):∃i,P.info? t=ab i/\i.zero=ab (.map ad):=by
 unfold sV at h;split at h
 .rename_i i c;split at h
  .rename_i e;exact⟨i,c,e⟩
  .cases h
 .cases h
def jl(P:yg)(t:yb):Bool:=match P.info? t with|some i=>i.zero.isSome|none=>af
def eS(P:yg)(c:yb):Bool:=
 match P.underlying c with
 |some (.int _)=>ae
 |some .bool=>ae
 |some (.array _ _)=>ae
 |some (.struct _)=>ae
 |_=>af
def il(P:yg)(t:yb)(x y:Dv)(hs:yL aj):yO (yL Prop×Bool×yL aj):=
 match P.underlying t,x,y with
 |some .bool,.p (.bool a),.p (.bool b)=>ab ([],a==b,hs)
 |some (.pointer _),.am _ _ _,.p .bH=>ab ([],af,hs)
 |some (.pointer _),.elem _,.p .bH=>ab ([],af,hs)
 |some (.pointer _),.aW _ _ _ _,.p .bH=>ab ([],af,hs)
 |some (.pointer _),.p .bH,.p .bH=>ab ([],ae,hs)
 |some (.slice _),.p (.sl (ab b) _ _),.p (.sl (ab af) _ [])=>ab ([], !b,hs)
 |some (.slice _),.own _ (ab b) _ _,.p (.sl (ab af) _ [])=>ab ([], !b,hs)
 |some (.slice _),.view _ _ _ _ _ _,.p (.sl (ab af) _ [])=>ab ([],af,hs)
 |some (.slice _),.p (.sl ad _ c),.p (.sl (ab af) _ [])=>match hs with
  |.bare::hs'=>ab ([c≠[]],af,hs')
  |_=>ad
 |some (.slice _),.own _ ad _ c,.p (.sl (ab af) _ [])=>match hs with
  |.bare::hs'=>ab ([c≠[]],af,hs')
  |_=>ad
 |some (.func _ _ _),.fn _ _,.p .fn0=>ab ([],af,hs)
 |some (.func _ _ _),.p .fn0,.p .fn0=>ab ([],ae,hs)
 |some (.array _ _),.p (.arr n s c),.p (.arr m r e)=>match hs with
  |.b β::hs'=>if P.eqGuardType P.depth t=af then ab ([aO P 20 t (.arr n s c),aO P 20 t (.arr m r e),(β=ae↔Pl.arr n s c=Pl.arr m r e)],β,hs') else ad
  |_=>ad
 |some (.struct _),.p (.agg c),.p (.agg e)=>match hs with
  |.b β::hs'=>if P.eqGuardType P.depth t=af then ab ([aO P 20 t (.agg c),aO P 20 t (.agg e),(β=ae↔Pl.agg c=Pl.agg e)],β,hs') else ad
  |_=>ad
 |_,_,_=>ad
def xq:BinOp->Bool
 |.shl=>ae
 |.shr=>ae
 |_=>af
def gn(P:yg)(op:BinOp)(t:yb)(x y:Dv)(hs:yL aj):lU:=
 match x,y with
 |.p (.int k a),.p (.int c b)=>if xq op then Vg op k a b hs else if k=c then Xn op k a b hs else ad
 |.p (.str a),.p (.str b)=>match op with
  |.eql=>ab ([],.p (.bool (a.data.toList==b.data.toList)),hs)
  |.neq=>ab ([],.p (.bool (!(a.data.toList==b.data.toList))),hs)
  |_=>ad
 |x,y=>match op with
  |.eql=>(il P t x y hs).map λr=>(r.1,.p (.bool r.2.1),r.2.2)
  |.neq=>(il P t x y hs).map λr=>(r.1,.p (.bool (!r.2.1)),r.2.2)
  |_=>ad
def kS(P:yg)(e:Array Field)(i:Nat)(c:Nat)(size:Nat)(isAgg:Bool):Bool:=
 match e[i]? with
 |some f=>f.offset==c&&P.cellsOf f.type==size&&(P.info? f.type).isSome&&Wa P f.type==isAgg&&(P.underlying f.type).isSome&&size !=0
 |none=>af
def im(P:yg)(t:yb)(x:Dv)(i:Nat):yO Dv:=
 match P.underlying t,x with
 |some (.struct e),.p (.agg c)=>match c[i]? with
  |some y=>if kS P e i (Pl.sizes (c.take i)) y.size y.isAgg then ab (.p y) else ad
  |none=>ad
 |some (.struct e),.agg c=>match c[i]? with
  |some y=>if kS P e i (Dv.sizes (c.take i)) y.size y.isAgg then ab y else ad
  |none=>ad
 |_,_=>ad
def fU(P:yg)(ts:yL Dv):yO yo->yO (yO Int)
 |none=>ab ad
 |some x=>match Zo P ts 0 x with
  |.p (.int _ i)=>ab (ab i)
  |_=>ad
def V4{α:Type}(xs:yL α):yO Int->yO Int->yL α
 |none,ad=>xs
 |none,ab h=>xs.take h.toNat
 |some l,ad=>xs.drop l.toNat
 |some l,ab h=>(xs.take h.toNat).drop l.toNat
def Xf(len:Nat):yO Int->yO Int->yL Prop
 |none,ad=>[]
 |none,ab h=>[0<=h,h<=(len:Int)]
 |some l,ad=>[0<=l,l<=(len:Int)]
 |some l,ab h=>[0<=l,l<=h,h<=(len:Int)]
def sW(e:yL Dv)(i:Nat)(d:Dv):yO (yL Dv):=
 match e[i]? with
 |some c=>if c.size=d.size then ab (e.set i d) else ad
 |none=>ad
def gS:yL Dv->yL (Nat×Dv)->yO (yL Dv)
 |c,[]=>ab c
 |c,(i,d)::r=>(sW c i d).bind λe=>gS e r
def kT(l:yL (Nat×Dv)):Bool:=l.all λq=>q.2.bt
def go(P:yg)(ts:yL Dv)(f:Nat->yb)(parts:yL (Nat×yo)):yL (Nat×Dv):=
 parts.map λq=>(q.1,Zo P ts (f q.1) q.2)
def kU(P:yg)(t:yb)(i:Nat):yb:=
 match P.underlying t with
 |some (.struct c)=>((c[i]?).map (·.type)).getD 0
 |some (.array _ e)=>e
 |some (.slice e)=>e
 |_=>0
def YI(P:yg)(t:yb):Dv:=
 match P.info? t with
 |some i=>match i.zero with
  |some v=>nM P t v
  |none=>.an
 |none=>.an
def Dv.arg:Dv->Dv
 |.own _ nn s c=>.p (.sl nn s c)
 |.agg e=>Dv.df e
 |d=>d
def Dv.bI(ids:yL Nat):Dv->Dv
 |.own id nn s e=>if ids.contains id then .own id nn s e else .p (.sl nn s e)
 |.agg c=>if Dv.de ids c then .agg c else Dv.df c
 |d=>d
def ZZ(P:yg)(ids:yL Nat)(ts:yL Dv)(c:Call)(g:yr)(cap:yL Dv):yL Dv:=
 if g < big then((c.args.toList.zip c.argTypes.toList).map λq=>(Zo P ts q.2 q.1).bI ids)++cap.map (Dv.bI ids)
 else cap.map (Dv.bI ids)++((c.args.toList.zip c.argTypes.toList).map λq=>(Zo P ts q.2 q.1).bI ids)
def lW(P:yg)(g:yr):Bool:=
 ag (g < big)&&match P.funcs[g]? with
 |some fn=>fn.name== "internal/bytealg.Compare" &&fn.body.isNone&&(Extern.findNext fn).isNone
 |none=>af
def gu(b:ByteArray):yL Pl:=b.data.toList.map λx=>.int .u8 (x.toNat:Int)
def gG(P:yg)(s:Nat)(t:yb)(d:Dv):yO (yL Pl):=
 match P.underlying t,d with
 |some (.slice e),.p (.sl _ f c)=>if f=s\/c.isEmpty then ab c else ad
 |some (.slice e),.own _ _ f c=>if f=s then ab c else ad
 |some .string,.p (.str z)=>if s=1 then ab (z.data.toList.map λb=>.int .u8 (b.toNat:Int)) else ad
 |_,_=>ad
def Wx(P:yg)(ts:yL Dv)(e:yb)(s:Nat)(len:Nat)(parts:yL (Nat×yo)):yO (yL Pl):=
 if parts.map (·.1)==yu len then
  match Dv.aL (parts.map λq=>Zo P ts e q.2) with
  |some c=>if c.all (λx=>x.size==s) then ab c else ad
  |none=>ad
 else ad
def nO(P:yg)(ts:yL Dv)(e:yb)(s:Nat)(len:Nat)(parts:yL (Nat×yo)):yO (yL Dv):=
 if parts.map (·.1)==yu len then
  if(parts.map λq=>Zo P ts e q.2).all λd=>d.bt&&d.size==s then ab (parts.map λq=>Zo P ts e q.2) else ad
 else ad
def Zn:Nat:=140737488355328
def bP(i:TypeInfo):Bool:=
 match i.zero with
 |some z=>z.cells.size==i.size
 |none=>af
def gp(P:yg)(g:yr):Bool:=
 match P.funcs[g]? with
 |some fn=>fn.body.isSome&& !(fn.name== "runtime.NumGoroutine")
 |none=>af
def aU(P:yg)(o:Oper)(ts:yL Dv)(hs:yL aj):lU:=
 match o.op with
 |.move x=>match hs with
  |.raw::hs'=>ab ([],Zo P ts o.type x,hs')
  |_=>ad
 |.assign x=>match hs with
  |.raw::hs'=>ab ([],Zo P ts o.type x,hs')
  |_=>ad
 |.pick c a b=>match Zo P ts 0 c,hs with
  |.p (.bool t),.b β::hs'=>ab ([t=β],if β then Zo P ts o.type a else Zo P ts o.type b,hs')
  |_,_=>ad
 |.nilCheck x=>match Zo P ts 0 x with
  |.am i f p=>ab ([],.am i f p,hs)
  |.aW i v f p=>ab ([],.aW i v f p,hs)
  |.elem y=>ab ([],.elem y,hs)
  |.fn f c=>ab ([],.fn f c,hs)
  |_=>ad
 |.binOp U t x y W=>gn P U t (Zo P ts t x) (Zo P ts W y) hs
 |.unOp .not _ x=>match Zo P ts 0 x with
  |.p (.bool t)=>ab ([],.p (.bool (!t)),hs)
  |_=>ad
 |.unOp .neg _ x=>match Zo P ts 0 x with
  |.p (.int k n)=>fS k (0 - n) hs
  |_=>ad
 |.unOp .xor _ x=>match Zo P ts 0 x with
  |.p (.int k n)=>if k.signed then ad else ab ([],.p (.int k (bits .xor k k.max n)),hs)
  |_=>ad
 |.convert src dst x=>match P.underlying src,P.underlying dst,Zo P ts src x with
  |some _,ab (.int k),.p (.int _ n)=>fS k n hs
  |some (.slice e),ab .string,.p (.sl _ s j)=>match hs,P.underlying e with
   |.el (.str b)::hs',ab (.int .u8)=>if s=1 then ab ([j=b.data.toList.map λx=>.int .u8 (x.toNat:Int)],.p (.str b),hs') else ad
   |_,_=>ad
  |some (.slice e),ab .string,.own _ _ s j=>match hs,P.underlying e with
   |.el (.str b)::hs',ab (.int .u8)=>if s=1 then ab ([j=b.data.toList.map λx=>.int .u8 (x.toNat:Int)],.p (.str b),hs') else ad
   |_,_=>ad
  |some .string,ab (.slice e),.p (.str b)=>match P.underlying e with
   |some (.int .u8)=>ab ([b.size<=maxLen],.p (.sl (ab ae) 1 (b.data.toList.map λx=>.int .u8 (x.toNat:Int))),hs)
   |_=>ad
  |_,_,_=>ad
 |.sliceToArrayPointer t x=>match P.underlying t,Zo P ts 0 x with
  |some (.array n e),.p (.sl _ s j)=>if n !=0 then ab ([n<=j.length],.elem (.arr n s (j.take n)),hs) else ad
  |some (.array n e),.own _ _ s j=>if n !=0 then ab ([n<=j.length],.elem (.arr n s (j.take n)),hs) else ad
  |_,_=>ad
 |.makeFunc (.func f) first captured=>if first.isEmpty&&ag (f < big) then ab ([],.fn f (captured.toList.map (Zo P ts 0)),hs) else if captured.isEmpty then ab ([],.fn (f+big) (first.toList.map (Zo P ts 0)),hs) else ad
 |.makeInterface t x=>match P.underlying t with
  |some (.interface _)=>ad
  |some _=>ab ([],.iface t (Zo P ts t x),hs)
  |none=>ad
 |.field t x i=>(im P t (Zo P ts t x) i).map λd=>([],d,hs)
 |.fieldAddr t x i=>match P.underlying t,Zo P ts 0 x with
  |some (.struct I),.am id A E=>match I[i]? with
   |some f=>if P.cellsOf f.type !=0&&(P.info? f.type).isSome then ab ([],.am id (A+f.offset) (E++[i]),hs) else ad
   |none=>ad
  |some (.struct I),.aW id v A E=>match I[i]? with
   |some f=>if P.cellsOf f.type !=0&&(P.info? f.type).isSome then ab ([],.aW id v (A+f.offset) (E++[i]),hs) else ad
   |none=>ad
  |some (.struct _),.elem y=>match im P t (.p y) i with
   |some (.p z)=>ab ([],.elem z,hs)
   |_=>ad
  |_,_=>ad
 |.indexAddr t x ix=>match P.underlying t,Zo P ts t x,Zo P ts 0 ix with
  |some (.slice e),.p (.sl _ s j),.p (.int _ i)=>match hs with
   |.el y::hs'=>if P.cellsOf e=s&&(P.info? e).isSome then ab ([0<=i,j[i.toNat]? =ab y],.elem y,hs') else ad
   |_=>ad
  |some (.slice e),.own _ _ s j,.p (.int _ i)=>match hs with
   |.el y::hs'=>if P.cellsOf e=s&&(P.info? e).isSome then ab ([0<=i,j[i.toNat]? =ab y],.elem y,hs') else ad
   |_=>ad
  |some (.slice e),.view id A E s lo n,.p (.int _ i)=>
   if P.cellsOf e=s&&(P.info? e).isSome then ab ([0<=i,i < (n:Int)],.am id (A+(lo+i.toNat)*s) (E++[lo+i.toNat]),hs) else ad
  |some (.slice e),.rv id v s lo n,.p (.int _ i)=>
   if P.cellsOf e=s&&(P.info? e).isSome then ab ([0<=i,i < (n:Int)],.aW id v ((lo+i.toNat)*s) [lo+i.toNat],hs) else ad
  |some (.array n e),.aW id v A E,.p (.int _ i)=>
   if(P.info? e).isSome then ab ([0<=i,i < (n:Int)],.aW id v (A+i.toNat*P.cellsOf e) (E++[i.toNat]),hs) else ad
  |some (.array n e),.am id A E,.p (.int _ i)=>
   if(P.info? e).isSome then ab ([0<=i,i < (n:Int)],.am id (A+i.toNat*P.cellsOf e) (E++[i.toNat]),hs) else ad
  |some (.array n e),.elem (.arr F s j),.p (.int _ i)=>match hs with
   |.el y::hs'=>if n=F&&P.cellsOf e=s&&(P.info? e).isSome then ab ([0<=i,j[i.toNat]? =ab y],.elem y,hs') else ad
   |_=>ad
  |_,_,_=>ad
 |.index t x ix=>match P.underlying t,Zo P ts t x,Zo P ts 0 ix with
  |some (.array n e),.p (.arr F s j),.p (.int _ i)=>match hs with
   |.el y::hs'=>if n=F&&P.cellsOf e=s&&Wa P e==y.isAgg&&(P.underlying e).isSome&&(P.info? e).isSome&&s !=0 then ab ([0<=i,j[i.toNat]? =ab y],.p y,hs') else ad
   |_=>ad
  |some .string,.p (.str s),.p (.int _ i)=>match hs with
   |.el (.int .u8 b)::hs'=>ab ([0<=i,(s.data.toList[i.toNat]?).map (λx:yB=>(x.toNat:Int))=ab b],.p (.int .u8 b),hs')
   |_=>ad
  |some (.array n e),.arr F s j,.p (.int _ i)=>match j[i.toNat]? with
   |some d=>if n=F&&P.cellsOf e=s&&Wa P e==d.isAgg&&(P.underlying e).isSome&&(P.info? e).isSome&&s !=0 then ab ([0<=i],d,hs) else ad
   |none=>ad
  |_,_,_=>ad
 |.slice t x lo S ad=>match P.underlying t,Zo P ts t x,fU P ts lo,fU P ts S with
  |some (.slice e),.p (.sl nn s j),ab l,ab h=>
   if P.cellsOf e=s&&(P.info? e).isSome then ab (Xf j.length l h,.p (.sl nn s (V4 j l h)),hs) else ad
  |some (.slice e),.own _ nn s j,ab l,ab h=>
   if P.cellsOf e=s&&(P.info? e).isSome then ab (Xf j.length l h,.p (.sl nn s (V4 j l h)),hs) else ad
  |some (.slice e),.view id A E s lo n,ab l,ab h=>
   if P.cellsOf e=s&&(P.info? e).isSome then ab (Xf n l h,.view id A E s (lo+(l.getD 0).toNat) ((h.getD n).toNat - (l.getD 0).toNat),hs) else ad
  |some (.slice e),.rv id v s lo n,ab l,ab h=>match hs with
   |.bare::hs'=>if P.cellsOf e=s&&(P.info? e).isSome then ab (Xf n l h,.rv id v s (lo+(l.getD 0).toNat) ((h.getD n).toNat - (l.getD 0).toNat),hs') else ad
   |_=>ad
  |some (.array n e),.elem (.arr F s j),ab l,ab h=>
   if n=F&&P.cellsOf e=s&&(P.info? e).isSome&&n<=maxLen then ab (Xf n l h,.p (.sl (ab ae) s (V4 j l h)),hs) else ad
  |some (.array n e),.am id A E,ab l,ab h=>match hs with
   |.raw::hs'=>if(P.info? e).isSome&&n<=maxLen then ab (Xf n l h,.view id A E (P.cellsOf e) (l.getD 0).toNat ((h.getD n).toNat - (l.getD 0).toNat),hs') else ad
   |_=>ad
  |_,_,_,_=>ad
 |.slice t x lo S (ab X)=>match P.underlying t,Zo P ts t x,fU P ts lo,fU P ts S,fU P ts (ab X) with
  |some (.slice e),.rv _ _ _ _ n,ab (ab l),ab (ab h),ab (ab m)=>if(P.info? e).isSome then ab ([0<=l,l<=h,h<=m,m<=(n:Int)],.an,hs) else ad
  |_,_,_,_,_=>ad
 |.extract x i=>match Zo P ts 0 x with
  |.bf M=>(M[i]?).map λd=>([],d,hs)
  |_=>ad
 |.load t a=>match Zo P ts 0 a with
  |.elem y=>if P.cellsOf t=y.size&&Wa P t==y.isAgg&&(P.underlying t).isSome&&(P.info? t).isSome then ab ([],.p y,hs) else ad
  |_=>ad
 |.build t parts=>match P.underlying t,YI P t with
  |some (.struct I),.p (.agg zs)=>
   if kT (go P ts (kU P t) parts.toList)&&I.size==zs.length&&(yu zs.length).all λi=>kS P I i (Pl.sizes (zs.take i)) ((zs.getD i default).size) ((zs.getD i default).isAgg) then
    (gS (zs.map .p) (go P ts (kU P t) parts.toList)).map λM=>([],pB M,hs)
   else ad
  |some (.array _ e),.p (.arr n s zs)=>
   if kT (go P ts (kU P t) parts.toList)&&P.cellsOf e=s&&(P.info? e).isSome then
    (gS (zs.map .p) (go P ts (kU P t) parts.toList)).bind λM=>match iI M with
      |some j=>ab ([],.p (.arr n s j),hs)
      |none=>ab ([],.arr n s M,hs)
   else ad
  |_,_=>ad
 |.call c=>match c.callee with
  |.builtin .len=>match c.args.toList,c.argTypes.toList with
   |[x],[t]=>match P.underlying t,Zo P ts t x with
    |some (.slice _),.p (.sl _ _ j)=>ab ([],.p (.int .i64 (j.length:Int)),hs)
    |some (.slice _),.own _ _ _ j=>ab ([],.p (.int .i64 (j.length:Int)),hs)
    |some (.slice _),.view _ _ _ _ _ n=>ab ([],.p (.int .i64 (n:Int)),hs)
    |some (.slice _),.rv _ _ _ _ n=>ab ([],.p (.int .i64 (n:Int)),hs)
    |some (.array n _),_=>ab ([],.p (.int .i64 (n:Int)),hs)
    |some .string,.p (.str s)=>ab ([],.p (.int .i64 (s.size:Int)),hs)
    |_,_=>ad
   |_,_=>ad
  |.builtin .max=>match c.args.toList,c.argTypes.toList with
   |[x,y],[t,u]=>match Zo P ts t x,Zo P ts u y with
    |.p (.int .i64 m),.p (.int .i64 n)=>ab ([],.p (.int .i64 (if n > m then n else m)),hs)
    |_,_=>ad
   |_,_=>ad
  |.builtin .min=>match c.args.toList,c.argTypes.toList with
   |[x,y],[t,u]=>match Zo P ts t x,Zo P ts u y with
    |.p (.int .i64 m),.p (.int .i64 n)=>ab ([],.p (.int .i64 (if n < m then n else m)),hs)
    |_,_=>ad
   |_,_=>ad
  |.builtin .append=>match c.args.toList,c.argTypes.toList,hs with
   |[x,y],[t,u],.gP::hs'=>match P.underlying t,Zo P ts t x with
    |some (.slice e),.p (.sl (ab af) _ [])=>match P.info? e,gG P (P.cellsOf e) u (Zo P ts u y) with
     |some i,ab Q=>if bP i&&i.size !=0 then ab ([Q.length*i.bytes<=Zn,Q.length<=maxLen],.p (.sl ad (P.cellsOf e) Q),hs') else ad
     |_,_=>ad
    |_,_=>ad
   |_,_,_=>ad
  |.value f=>match Zo P ts 0 f,hs with
   |.fn g T,.call r [] []::hs'=>
    if gp P (dQ g)&&c.args.size==c.argTypes.size then match Dv.bi (λ_=>ad) (ZZ P [] ts c g T),r.rn (λ_=>ad) with
     |some G,ab _=>ab ([cF P (dQ g) G [] r []],r,hs')
     |_,_=>ad
    else ad
   |.fn g [],.el (.str x)::.el (.str y)::hs'=>
    if lW P g&&c.args.size==c.argTypes.size then match ZZ P [] ts c g [] with
     |[.p (.sl _ s j),.p (.sl _ Y Q)]=>if s=1/\Y=1 then ab ([j=gu x,Q=gu y],.p (.int .i64 (Go.Lib.compareBytes x.data.toList y.data.toList)),hs') else ad
     |_=>ad
    else ad
   |_,_=>ad
  |_=>ad
 |.buildSlice t len parts=>match hs with
  |.gP::hs'=>match P.underlying t with
   |some (.slice e)=>match P.info? e,Wx P ts e (P.cellsOf e) len parts.toList with
    |some i,ab j=>if bP i&&i.size !=0&&len*i.size<=16777216 then ab ([],.p (.sl (ab ae) i.size (j.map Pl.soft)),hs') else ad
    |_,_=>ad
   |_=>ad
  |.bare::hs'=>match P.underlying t with
   |some (.slice e)=>match P.info? e,Wx P ts e (P.cellsOf e) len parts.toList with
    |some i,ab j=>if bP i&&i.size !=0&&len*i.size<=16777216 then ab ([],.p (.sl (ab ae) i.size j),hs') else ad
    |_,_=>ad
   |_=>ad
  |_=>ad
 |_=>ad
def Ym:Dv->yL Nat->yL aj->yO (yL Prop×Nat×Dv×yL aj)
 |d,[],hs=>ab ([],0,d,hs)
 |.p (.agg c),i::r,hs=>match c[i]? with
  |some x=>(Ym (.p x) r hs).map λq=>(q.1,Pl.sizes (c.take i)+q.2.1,q.2.2)
  |none=>ad
 |.p (.arr _ s c),i::r,hs=>match hs with
  |.el y::hs'=>(Ym (.p y) r hs').map λq=>((c[i]? =ab y)::q.1,i*s+q.2.1,q.2.2)
  |_=>ad
 |.agg c,i::r,hs=>match c[i]? with
  |some x=>(Ym x r hs).map λq=>(q.1,Dv.sizes (c.take i)+q.2.1,q.2.2)
  |none=>ad
 |.arr _ s c,i::r,hs=>match c[i]? with
  |some x=>(Ym x r hs).map λq=>(q.1,i*s+q.2.1,q.2.2)
  |none=>ad
 |_,_,_=>ad
def WU(new:Dv):Dv->yL Nat->yL aj->yO Dv
 |_,[],_=>ab new
 |.p (.agg c),i::r,hs=>match c[i]? with
  |some x=>match WU new (.p x) r hs with
   |some (.p y)=>ab (.p (.agg (c.set i y)))
   |some y=>ab (.agg ((c.map .p).set i y))
   |none=>ad
  |none=>ad
 |.p (.arr n s c),i::r,hs=>match hs with
  |.el y::hs'=>match WU new (.p y) r hs' with
   |some (.p z)=>ab (.p (.arr n s (c.set i z.soft)))
   |some z=>ab (.arr n s ((c.map .p).set i z))
   |none=>ad
  |_=>ad
 |.agg c,i::r,hs=>match c[i]? with
  |some x=>(WU new x r hs).map λy=>.agg (c.set i y)
  |none=>ad
 |.arr n s c,i::r,hs=>match c[i]? with
  |some x=>(WU new x r hs).map λy=>.arr n s (c.set i y)
  |none=>ad
 |_,_,_=>ad
def gv(P:yg)(t:yb)(d:Dv):Bool:=
 P.cellsOf t==d.size&&Wa P t==d.isAgg&&(P.underlying t).isSome&&(P.info? t).isSome
def gU(J:Sg):Sg:={ F:=λb _=>b < J.w.heap.size,B:=λb=>J.w.heap.size<=b,m:=[],H:=[],w:=J.w,X:=λ_ _=>False}
def cn:yO ar->yO ar
 |some (.var d _)=>ab (.var d ae)
 |some (.row v s _ e d)=>ab (.row v s ae e d)
 |x=>x
mutual
def Dv.xr:Dv->yO Nat
 |.rv id _ _ _ _=>ab id
 |.view id _ _ _ _ _=>ab id
 |.agg c=>Dv.eE c
 |_=>ad
def Dv.eE:yL Dv->yO Nat
 |[]=>ad
 |x::r=>match x.xr with
  |some i=>ab i
  |none=>Dv.eE r
end
def jW(id:Nat)(E:yO ar)(c:yL Dv)(e:yL Pl):Prop:=∀(J:Sg)(vs:yL yh),Ok J->cn (J.H[id]?)=E->aB J c vs->aB (gU J) (e.map Dv.p) vs
def bm(P:yg)(o:Oper)(ts:yL Dv)(H:yL ar)(hs:yL aj):lU:=
 match o.op with
 |.load t a=>match Zo P ts 0 a with
  |.am id A I=>match H[id]? with
   |some (.var d _)=>match Ym d I hs with
    |some (C,m,sub,hs')=>if gv P t sub then ab (C++[m=A],sub,hs') else ad
    |none=>ad
   |_=>ad
  |.aW id v A I=>match H[id]? with
   |some (.row G _ _ _ d)=>match Ym d I hs with
    |some (C,m,sub,hs')=>if gv P t sub&&G==v then ab (C++[m=A],sub,hs') else ad
    |none=>ad
   |_=>ad
  |_=>ad
 |.slice t x lo Z ad=>match P.underlying t,Zo P ts t x,fU P ts lo,fU P ts Z,hs with
  |some (.slice e),.rv id v s M n,ab l,ab (ab h),.raw::hs'=>match H[id]? with
   |some (.row G W _ _ d)=>match aJ d W with
    |some N=>if P.cellsOf e=s&&(P.info? e).isSome&&G==v&&W==s&&W !=0 then ab ([0<=l.getD 0,l.getD 0<=h,M+h.toNat<=N],.rv id v s (M+(l.getD 0).toNat) (h.toNat - (l.getD 0).toNat),hs') else ad
    |none=>ad
   |_=>ad
  |some (.array n e),.am id A I,ab l,ab h,.bS::hs'=>match H[id]? with
   |some (.var d af)=>match Ym d I hs' with
    |some (C,m,.p (.arr n' s xs),Q)=>
     if n=n'&&P.cellsOf e=s&&(P.info? e).isSome&&n<=maxLen then ab (C++[m=A]++Xf n l h,.p (.sl (ab ae) s (V4 xs l h)),Q) else ad
    |_=>ad
   |_=>ad
  |_,_,_,_,_=>ad
 |.lookup t x ix S=>match P.underlying t,Zo P ts t x with
  |some (.map j F),.mp id=>match Zo P ts j ix,H[id]?,hs with
   |.p k,ab (.map _ aN),.el v::hs'=>if eS P j then ab ([aO P 20 j k,VH P j aN,WO aN k (ab v)],if S then .bf [.p v,.p (.bool ae)] else .p v,hs') else ad
   |.p k,ab (.map _ aN),.raw::hs'=>if eS P j&&jl P F then
     ab ([aO P 20 j k,VH P j aN,WO aN k ad],if S then .bf [YI P F,.p (.bool af)] else YI P F,hs') else ad
   |_,_,_=>ad
  |some (.map j F),.cz id=>match Zo P ts j ix,H[id]?,S with
   |.p k,ab (.maps v _ _ l),af=>if eS P j&&sV P F then ab ([aO P 20 j k,fH P j l],.cC id v k,hs) else ad
   |_,_,_=>ad
  |some (.map j F),.cC id v (.int U z)=>match Zo P ts j ix,H[id]?,hs with
   |.p k,ab (.maps G X _ l),.aN aN::.el y::hs'=>match P.underlying X with
    |some (.map E _)=>if eS P j&&Nat.beq v G then
      ab ([aO P 20 E (.int U z),fH P E l,lV l (.int U z) aN,aO P 20 j k,VH P j aN,WO aN k (ab y)],if S then .bf [.p y,.p (.bool ae)] else .p y,hs') else ad
    |_=>ad
   |.p k,ab (.maps G X _ l),.aN aN::.raw::hs'=>match P.underlying X with
    |some (.map E _)=>if eS P j&&Nat.beq v G&&jl P F then
      ab ([aO P 20 E (.int U z),fH P E l,lV l (.int U z) aN,aO P 20 j k,VH P j aN,WO aN k ad],if S then .bf [YI P F,.p (.bool af)] else YI P F,hs') else ad
    |_=>ad
   |_,_,_=>ad
  |_,_=>ad
 |.call c=>match c.callee with
  |.builtin .len=>match c.args.toList,c.argTypes.toList with
   |[x],[t]=>match P.underlying t,Zo P ts t x with
    |some (.map _ _),.mp id=>match H[id]? with
     |some (.map _ aN)=>ab ([],.p (.int .i64 (aN.length:Int)),hs)
     |_=>ad
    |_,_=>ad
   |_,_=>ad
  |.value f=>match Zo P ts 0 f,hs with
   |.fn g T,.el (.agg Y)::.call (.p r) [] []::hs'=>match Dv.eE (ZZ P [] ts c g T) with
    |some id=>if gp P (dQ g)&&c.args.size==c.argTypes.size&&r.flat then ab ([jW id (cn (H[id]?)) (ZZ P [] ts c g T) Y,cF P (dQ g) (Y.map Dv.p) [] (.p r) []],.p r,hs') else ad
    |none=>ad
   |_,_=>ad
  |_=>ad
 |_=>ad
def aR(ids:yL Nat)(id:Nat):yO Nat:=ids.idxOf? id
def aM(ids:yL Nat)(n:Nat)(j:Nat):yO Nat:=if j < ids.length then ids[j]? else ab (n+(j - ids.length))
def aH(H:yL ar)(all:yL Nat):yL Nat->yO (yL ar)
 |[]=>ab []
 |id::r=>match (H[id]?).bind (ar.rn (aR all)),aH H all r with
  |some e,ab c=>ab (e::c)
  |_,_=>ad
def ao{α:Type}:yL α->yL Nat->yL α->yL α
 |H,[],Hb=>H++Hb
 |H,id::r,e::Hb=>ao (H.set id e) r Hb
 |H,_::_,[]=>H
def once:yL Nat->Bool
 |[]=>ae
 |x::r=> !r.contains x&&once r
def Dv.cB(d:Dv):Dv:=
 match d.flat with
 |some x=>.p x
 |none=>d
def io(yM:yL Nat)(d:Dv)(new:Dv):yO Dv:=
 match d with
 |.p _=>ab new.cB
 |_=>match yM with
  |[]=>ab new.cB
  |_=>ab new
def nP(xs ys:yL Pl)(lo:Nat):yL Pl:=xs.take lo++(ys++xs.drop (lo+ys.length))
def gV(P:yg)(s:Nat)(t:yb)(H:yL ar)(hs:yL aj)(d:Dv):yO (yL Prop×yL Pl×yL aj):=
 match d with
 |.view id f h g lo n=>match P.underlying t,H[id]? with
  |some (.slice _),ab (.var j _)=>match Ym j h hs with
   |some (C,e,.p (.arr N c zs),hs')=>if g=s&&c=s then ab (C++[e=f,lo+n<=N],(zs.drop lo).take n,hs') else ad
   |_=>ad
  |_,_=>ad
 |.rv id v g lo n=>match P.underlying t,H[id]? with
  |some (.slice _),ab (.row l c _ _ (.p (.arr N m zs)))=>if g=s&&c=s&&m=s&&l==v then ab ([lo+n<=N],(zs.drop lo).take n,hs) else ad
  |_,_=>ad
 |d=>(gG P s t d).map λx=>([],x,hs)
def iJ(d:Dv)(H:yL ar)(hs:yL aj):sT:=
 match d with
 |.view id g m s lo n=>match H[id]? with
  |some (.var l _)=>match Ym l m hs with
   |some (C,c,.p (.arr t h f),hs')=>if h=s then ab (C++[c=g,lo+n<=t],.p (.sl (ab ae) s ((f.drop lo).take n)),H.set id (.var l af),hs') else ad
   |_=>ad
  |_=>ad
 |.rv id v s lo n=>match H[id]? with
  |some (.row x h _ e (.p (.arr N j f)))=>if h=s&&j=s&&x==v then ab ([lo+n<=N],.p (.sl ad s ((f.drop lo).take n)),H.set id (.row v s af e (.p (.arr N s f))),hs) else ad
  |_=>ad
 |_=>ad
def XD:Dv->yL Nat->Nat->Dv->yO Dv
 |.p (.sl (ab af) f []),[],s,c=>if f=s then ab c else ad
 |.p (.agg e),i::r,s,c=>match e[i]? with
  |some x=>(XD (.p x) r s c).map λy=>.agg ((e.map Dv.p).set i y)
  |none=>ad
 |.agg e,i::r,s,c=>match e[i]? with
  |some x=>(XD x r s c).map λy=>.agg (e.set i y)
  |none=>ad
 |_,_,_,_=>ad
def YM(d:Dv)(n:Nat):yL aj->Dv×yL ar×yL aj
 |.aZ f s e::hs=>match XD d f s (.own n ad s []) with
  |some c=>((YM c (n+1) hs).1,.log s e []::(YM c (n+1) hs).2.1,(YM c (n+1) hs).2.2)
  |none=>(d,[],.aZ f s e::hs)
 |hs=>(d,[],hs)
def lX(d:Dv):Dv:=
 match d.plain with
 |some y=>.p y
 |none=>d
def bZ(P:yg)(o:Oper)(ts:yL Dv)(H:yL ar)(hs:yL aj):sT:=
 match o.op with
 |.assign x=>match hs with
  |.fresh I::hs'=>if o.dst=ab I then match P.underlying o.type,Zo P ts o.type x with
    |some (.slice e),.p (.sl (ab af) _ [])=>match P.info? e with
     |some i=>if bP i&&i.size !=0 then ab ([],.own H.length ad i.size [],H++[.log i.size e []],hs') else ad
     |none=>ad
    |_,_=>ad
   else ad
  |.iH I::hs'=>if o.dst=ab I then match P.underlying o.type,Zo P ts o.type x with
    |some (.slice e),.p (.sl (ab af) _ [])=>match P.info? e with
     |some i=>if bP i&&i.size !=0 then ab ([],.rv H.length 0 i.size 0 0,H++[.row 0 i.size ae e (.p (.arr 0 i.size []))],hs') else ad
     |none=>ad
    |_,_=>ad
   else ad
  |.still I::hs'=>if o.dst=ab I then iJ (Zo P ts o.type x) H hs' else ad
  |_=>ad
 |.move x=>match hs with
  |.still I::hs'=>if o.dst=ab I then iJ (Zo P ts o.type x) H hs' else ad
  |_=>ad
 |.makeSlice t l c=>match P.underlying t,Zo P ts 0 l,Zo P ts 0 c with
  |some (.slice e),.p (.int .i64 n),.p (.int .i64 n')=>match P.info? e,hs with
   |some i,.own::hs'=>if bP i&&i.size !=0 then ab ([n=0,0<=n',n'.toNat*i.bytes<=Zn,n'.toNat<=maxLen],.own H.length (ab ae) i.size [],H++[.log i.size e []],hs') else ad
   |some i,.arr::hs'=>if bP i&&i.size !=0 then ab ([n=0,0<=n',n'.toNat*i.bytes<=Zn,n'.toNat<=maxLen],.rv H.length 0 i.size 0 0,H++[.row 0 i.size ae e (.p (.arr 0 i.size []))],hs') else ad
   |some i,.raw::hs'=>match YI P e with
    |.p z=>if bP i&&i.size=1&&z.size=1&& !z.isAgg then ab ([n'=n,0<=n,n.toNat*i.bytes<=Zn,n.toNat<=maxLen],.view H.length 0 [] 1 0 n.toNat,H++[.var (.p (.arr n.toNat 1 (yab n.toNat z))) ae],hs') else ad
    |_=>ad
   |some i,.bS::hs'=>match YI P e with
    |.p z=>if bP i&&i.size=1&&z.size=1&& !z.isAgg then ab ([n'=n,0<=n,n.toNat*i.bytes<=Zn,n.toNat<=maxLen],.rv H.length 0 1 0 n.toNat,H++[.row 0 1 ae e (.p (.arr n.toNat 1 (yab n.toNat z)))],hs') else ad
    |_=>ad
   |_,_=>ad
  |_,_,_=>ad
 |.makeMap t ad=>if MN P t=ae then ab ([],.cz H.length,H++[.maps 0 t t []],hs) else match hs with
  |.pm::hs'=>ab ([],.pm H.length 0,H++[.bA 0 []],hs')
  |.raw::hs'=>ab ([],.mp H.length,H++[.map t []],hs')
  |_=>ad
 |.mapUpdate t m k x=>match P.underlying t,Zo P ts t m with
  |some (.map E et),.mp id=>match Zo P ts E k,(Zo P ts et x).flat,H[id]?,hs with
   |.p k,ab v,ab (.map I aN),.aN l::hs'=>if eS P E then ab ([aO P 20 E k,VH P E aN,QG aN k v.soft l],.an,H.set id (.map I l),hs') else ad
   |_,_,_,_=>ad
  |some (.map E et),.cC id v (.int ik z)=>match Zo P ts E k,(Zo P ts et x).flat,H[id]?,hs with
   |.p k,ab y,ab (.maps T I u' l),.aN aN::.aN kvs2::.sR l2::hs'=>match P.underlying I with
    |some (.map kt0 _)=>if eS P E&&Nat.beq v T then
      ab ([aO P 20 kt0 (.int ik z),fH P kt0 l,(Pl.int ik z,aN)∈l,aO P 20 E k,VH P E aN,QG aN k y.soft kvs2,l2=gm l (.int ik z) kvs2],.an,H.set id (.maps T I u' l2),hs') else ad
    |_=>ad
   |_,_,_,_=>ad
  |some (.map E et),.cz id=>match Zo P ts E k,Zo P ts et x,H[id]?,hs with
   |.p k,.pm id2 v2,ab (.maps v I u' l),.sR l2::hs'=>match H[id2]? with
    |some (.bA v2' aN)=>if eS P E&&Nat.beq v2 v2' then
      ab ([aO P 20 E k,fH P E l,l2=gm l k aN],.an,(H.set id (.maps (v+1) I u' l2)).set id2 (.bA (v2'+1) []),hs') else ad
    |_=>ad
   |_,_,_,_=>ad
  |_,_=>ad
 |.insert t m k x=>match P.underlying t,Zo P ts t m with
  |some (.map E et),.mp id=>match Zo P ts E k,(Zo P ts et x).flat,H[id]?,hs with
   |.p k,ab v,ab (.map I aN),.aN l::hs'=>if eS P E then ab ([aO P 20 E k,VH P E aN,QG aN k v.soft l],.an,H.set id (.map I l),hs') else ad
   |_,_,_,_=>ad
  |_,_=>ad
 |.alloc t=>match P.info? t with
  |some i=>match (YM (YI P t) (H.length+1) hs).2.2 with
   |.raw::hs'=>if bP i&&gv P t (YI P t)&&(YI P t).bt then ab ([],.am H.length 0 [],H++.var (YM (YI P t) (H.length+1) hs).1 ae::(YM (YI P t) (H.length+1) hs).2.1,hs') else ad
   |_=>ad
  |none=>ad
 |.box t x=>
  match (YM (lX (Zo P ts t x)) (H.length+1) hs).2.2 with
  |.raw::hs'=>if(lX (Zo P ts t x)).bt then ab ([],.am H.length 0 [],H++.var (YM (lX (Zo P ts t x)) (H.length+1) hs).1 ae::(YM (lX (Zo P ts t x)) (H.length+1) hs).2.1,hs') else ad
  |_=>ad
 |.store t a x=>match Zo P ts 0 a,Zo P ts t x with
  |.am id M W,v=>match H[id]? with
   |some (.var d ae)=>match Ym d W hs with
    |some (C,F,sub,hs')=>match io W d v with
     |some G=>match WU G d W hs with
      |some d'=>if G.bt&&G.size==sub.size&&P.cellsOf t==G.size&&(P.info? t).isSome&&G.isAgg==sub.isAgg then(match (YM d' H.length hs').2.2 with
       |.raw::X=>ab (C++[F=M],.an,H.set id (.var (YM d' H.length hs').1 ae)++(YM d' H.length hs').2.1,X)
       |_=>ad) else ad
      |none=>ad
     |none=>ad
    |none=>ad
   |_=>ad
  |.aW id v M W,w=>match H[id]? with
   |some (.row T s ae e d)=>match Ym d W hs with
    |some (C,F,sub,hs')=>match io W d w with
     |some G=>match WU G d W hs with
      |some d'=>if G.bt&&G.size==sub.size&&P.cellsOf t==G.size&&(P.info? t).isSome&&G.isAgg==sub.isAgg&&T==v&&aJ d' s==aJ d s then
        ab (C++[F=M],.an,H.set id (.row v s ae e d'),hs') else ad
      |none=>ad
     |none=>ad
    |none=>ad
   |_=>ad
  |_,_=>ad
 |.buildSlice t len parts=>match hs with
  |.fresh id::hs'=>match P.underlying t,H[id]? with
   |some (.slice e),ab (.row v s st U dd)=>match P.info? e,Wx P ts e (P.cellsOf e) len parts.toList with
    |some i,ab A=>if bP i&&i.size !=0&&len*i.size<=16777216&&U==e&&s==i.size then ab ([],.rv id (v+1) i.size 0 len,H.set id (.row (v+1) i.size ae e (.p (.arr len i.size (A.map Pl.soft)))),hs') else ad
    |_,_=>ad
   |_,_=>ad
  |.arr::hs'=>match P.underlying t with
   |some (.slice e)=>match P.info? e,Wx P ts e (P.cellsOf e) len parts.toList with
    |some i,ab A=>if bP i&&i.size !=0&&len*i.size<=16777216 then ab ([],.rv H.length 0 i.size 0 len,H++[.row 0 i.size ae e (.p (.arr len i.size (A.map Pl.soft)))],hs') else ad
    |_,_=>ad
   |_=>ad
  |.raw::hs'=>match P.underlying t with
   |some (.slice e)=>match P.info? e,nO P ts e (P.cellsOf e) len parts.toList with
    |some i,ab ds=>if bP i&&i.size !=0&&len*i.size<=16777216 then ab ([],.rv H.length 0 i.size 0 len,H++[.row 0 i.size ae e (.arr len i.size ds)],hs') else ad
    |_,_=>ad
   |_=>ad
  |.own::hs'=>match P.underlying t with
   |some (.slice e)=>match P.info? e,Wx P ts e (P.cellsOf e) len parts.toList with
    |some i,ab A=>if bP i&&i.size !=0&&len*i.size<=16777216 then ab ([],.own H.length (ab ae) i.size (A.map Pl.soft),H++[.log i.size e (A.map Pl.soft)],hs') else ad
    |_,_=>ad
   |_=>ad
  |_=>ad
 |.convert src dst x=>match P.underlying src,Zo P ts src x with
  |some (.slice e),.rv id v s lo n=>match H[id]?,P.underlying e with
   |some (.row T Q ae U (.p (.arr N s2 A))),ab (.int .u8)=>if src==dst&&T==v&&s==1&&Q==1&&s2==1&&lo==0&&N==n&&n !=0 then
     ab ([],.p (.sl (ab ae) 1 A),H.set id (.row (v+1) 1 ae U (.p (.arr 0 1 []))),hs) else ad
   |_,_=>ad
  |_,_=>ad
 |.slice t x lo hi ad=>match P.underlying t,Zo P ts t x,fU P ts lo,fU P ts hi with
  |some (.array n e),.am id M W,ab l,ab h=>match hs with
   |.bS::hs'=>match H[id]? with
    |some (.var d _)=>match Ym d W hs' with
     |some (C,F,.p (.arr n' s A),X)=>
      if n=n'&&P.cellsOf e=s&&(P.info? e).isSome&&n<=maxLen then ab (C++[F=M]++Xf n l h,.p (.sl (ab ae) s (V4 A l h)),H.set id (.var d af),X) else ad
     |_=>ad
    |_=>ad
   |_=>ad
  |some (.slice e),.rv id v s lo' n,ab l,ab (ab h)=>match hs with
   |.arr::hs'=>match H[id]? with
    |some (.row T Q ae U (.p (.arr N s2 A)))=>if P.cellsOf e=s&&(P.info? e).isSome&&T==v&&Q==s&&s2==s&&Q !=0&&lo'==0&&l.getD 0==0 then
      ab ([0<=h,h.toNat<=N],.rv id v s 0 h.toNat,H.set id (.row v s ae U (.p (.arr h.toNat s (A.take h.toNat)))),hs') else ad
    |_=>ad
   |_=>ad
  |_,_,_,_=>ad
 |.call c=>match c.callee with
  |.builtin .append=>match c.args.toList,c.argTypes.toList with
   |[x,y],[t,u]=>match P.underlying t,Zo P ts t x with
    |some (.slice e),.own id nn s A=>match P.info? e,gV P s u H hs (Zo P ts u y),H[id]? with
     |some i,ab (C,j,hs'),ab (.log Q U zs)=>if bP i&&i.size=s&&Q=s&&U=e&&s !=0 then
       ab (C++[zs=A,(A.length+j.length)*i.bytes<=Zn,A.length+j.length<=maxLen],.own id ad s (A++j),H.set id (.log s e (A++j)),hs') else ad
     |_,_,_=>ad
    |some (.slice e),.p (.sl (ab af) _ [])=>match hs,P.info? e,gG P (P.cellsOf e) u (Zo P ts u y) with
     |.own::hs',ab i,ab j=>if bP i&&i.size !=0 then
       ab ([j.length*i.bytes<=Zn,j.length<=maxLen],.own H.length ad i.size j,H++[.log i.size e j],hs') else ad
     |.arr::hs',ab i,ab j=>if bP i&&i.size !=0 then
       ab ([j.length*i.bytes<=Zn,j.length<=maxLen],.rv H.length 0 i.size 0 j.length,H++[.row 0 i.size ae e (.p (.arr j.length i.size j))],hs') else ad
     |_,_,_=>ad
    |some (.slice e),.rv id v s lo n=>match hs with
     |.bare::Y=>match P.info? e,gV P (P.cellsOf e) u H Y (Zo P ts u y) with
      |some i,ab (C,j,hs')=>if bP i then ab (C++[j=[]],.rv id v s lo n,H,hs') else ad
      |_,_=>ad
     |.raw::Y=>match P.info? e,gV P s u H Y (Zo P ts u y),H[id]? with
      |some i,ab (C,j,hs'),ab (.row T Q st U (.p (.arr N Z A)))=>if bP i&&i.size=s&&Q=s&&Z=s&&U=e&&s !=0&&T==v&&lo=0 then
        ab (C++[n<=N,(n+j.length)*i.bytes<=Zn,n+j.length<=maxLen,st=ae\/n=N],.rv id (v+1) s 0 (n+j.length),H.set id (.row (v+1) s st e (.p (.arr (n+j.length) s (A.take n++j)))),hs') else ad
      |_,_,_=>ad
     |.gP::Y=>match P.info? e,gV P s u H Y (Zo P ts u y),H[id]? with
      |some i,ab (C,j,hs'),ab (.row T Q ae U (.p (.arr N Z A)))=>if bP i&&i.size=s&&Q=s&&Z=s&&U=e&&s !=0&&T==v&&lo=0 then
        ab (C++[0 < N,n+j.length<=N],.rv id v s 0 (n+j.length),H.set id (.row v s ae e (.p (.arr N s (A.take n++(j++A.drop (n+j.length)))))),hs') else ad
      |_,_,_=>ad
     |_=>ad
    |_,_=>ad
   |_,_=>ad
  |.builtin .clear=>match c.args.toList,c.argTypes.toList with
   |[x],[t]=>match P.underlying t,Zo P ts t x with
    |some (.slice e),.rv id v s lo n=>match P.info? e,YI P e,H[id]? with
     |some i,.p z,ab (.row T Q ae U (.p (.arr N Z A)))=>if bP i&&i.size=s&&Q=s&&Z=s&&T==v&&s !=0&&z.size==s then
       ab ([n=1,lo+1<=N],.bf [],H.set id (.row v s ae U (.p (.arr N s (A.set lo z.soft)))),hs) else ad
     |_,_,_=>ad
    |_,_=>ad
   |_,_=>ad
  |.builtin .delete=>match c.args.toList,c.argTypes.toList with
   |[x,y],[t,u]=>match P.underlying t,Zo P ts t x with
    |some (.map E _),.mp id=>match Zo P ts u y,H[id]?,hs with
     |.p k,ab (.map I aN),.aN l::hs'=>if eS P E then ab ([aO P 20 E k,VH P E aN,fT aN k l],.bf [],H.set id (.map I l),hs') else ad
     |_,_,_=>ad
    |_,_=>ad
   |_,_=>ad
  |.builtin .copy=>match c.args.toList,c.argTypes.toList with
   |[x,y],[t,u]=>match P.underlying t,Zo P ts t x with
    |some (.slice e),.view id M W s lo n=>match gG P s u (Zo P ts u y),H[id]? with
     |some j,ab (.var dd ae)=>match Ym dd W hs with
      |some (C,F,.p (.arr N Q A),hs')=>match WU (.p (.arr N Q (nP A j lo))) dd W hs with
       |some dd'=>if Q=s&&P.cellsOf e=s&&(P.info? e).isSome then ab (C++[F=M,j.length<=n,lo+n<=N],.p (.int .i64 (j.length:Int)),H.set id (.var dd' ae),hs') else ad
       |none=>ad
      |_=>ad
     |_,_=>ad
    |_,_=>ad
   |_,_=>ad
  |.value f=>match Zo P ts 0 f,hs with
   |.fn g cap,.call r H' ids::hs'=>
    if gp P (dQ g)&&c.args.size==c.argTypes.size&&once ids&&ids.length<=H'.length then
     match Dv.bi (aR ids) (ZZ P ids ts c g cap),aH H ids ids,r.rn (aM ids H.length),ar.bi (aM ids H.length) H' with
     |some S,ab Hin,ab r',ab Hb=>ab ([cF P (dQ g) S Hin r H'],r',ao H ids Hb,hs')
     |_,_,_,_=>ad
    else ad
   |_,_=>ad
  |.invoke recv name=>match Zo P ts 0 recv,hs with
   |.iface t x,.gQ g::.call r H' ids::hs'=>
    if gp P g&&c.args.size==c.argTypes.size&&once ids&&ids.length<=H'.length then
     match Dv.bi (aR ids) (x.bI ids::ZZ P ids ts c 0 []),aH H ids ids,r.rn (aM ids H.length),ar.bi (aM ids H.length) H' with
     |some S,ab Hin,ab r',ab Hb=>ab ([jk P t name g,cF P g S Hin r H'],r',ao H ids Hb,hs')
     |_,_,_,_=>ad
    else ad
   |_,_=>ad
  |_=>ad
 |_=>ad
def eG(P:yg)(o:Oper)(ts:yL Dv)(H:yL ar)(hs:yL aj):sT:=
 match aU P o ts hs with
 |some (C,d,hs')=>ab (C,d,H,hs')
 |none=>match bm P o ts H hs with
  |some (C,d,hs')=>ab (C,d,H,hs')
  |none=>bZ P o ts H hs
def fI(ts:yL Dv)(dst:yO Tmp)(d:Dv):yL Dv:=
 match dst with
 |some i=>ts.set i d
 |none=>ts
def iq(dst:yO Tmp)(d:Dv)(hs:yL aj):yL Prop×Dv×yL aj:=([],d,hs)
def cR(P:yg)(ops:Array Oper)(o:Oper)(ts:yL Dv)(H:yL ar)(hs:yL aj):sT:=
 match o.guard with
 |none=>(eG P o ts H hs).map λ(C,d,H',hs')=>(C++(iq o.dst d hs').1,(iq o.dst d hs').2.1,H',(iq o.dst d hs').2.2)
 |some (j,e)=>match ((ops[j]?).bind (·.dst)).map λt=>ts.getD t .an,hs with
  |some (.p (.bool t)),.b β::hs'=>
   if β=e then(eG P o ts H hs').map λ(C,d,H',c)=>((t=β)::C++(iq o.dst d c).1,(iq o.dst d c).2.1,H',(iq o.dst d c).2.2)
   else ab ([t=β],.bf [],H,hs')
  |some (.bf []),.raw::hs'=>ab ([],.bf [],H,hs')
  |_,_=>ad
def jm(P:yg)(ops:Array Oper):yL Oper->yL Dv->yL ar->yL aj->yO (yL Prop×yL Dv×yL ar×yL aj)
 |[],ts,H,hs=>ab ([],ts,H,hs)
 |o::f,ts,H,hs=>match cR P ops o ts H hs with
  |some (C,d,H',hs')=>match jm P ops f (fI ts o.dst d) H' hs' with
   |some (C',e,H'',c)=>ab (C++C',e,H'',c)
   |none=>ad
  |none=>ad
def looks(ops:Array Oper)(o:Oper):yL Nat:=
 (o.op.operands.toList.filterMap λx=>match x with|.tmp t=>ab t|_=>ad)++
 (match o.guard with|some (g,_)=>((ops[g]?).bind (·.dst)).toList|none=>[])
def ZR(keep:yL Nat):Nat->yL Dv->yL Dv
 |_,[]=>[]
 |i,d::r=>(if keep.contains i then d else .an)::ZR keep (i+1) r
def bC(P:yg)(o:Oper)(ts:yL Dv)(H:yL ar)(hs:yL aj):Nat:=
 match o.guard,hs with
 |some (_,c),.b β::hs'=>if β=c then(if(aU P o ts hs').isSome then 0 else if(bm P o ts H hs').isSome then 1 else 2) else 0
 |some _,.raw::_=>0
 |_,hs=>if(aU P o ts hs).isSome then 0 else if(bm P o ts H hs).isSome then 1 else 2
def nQ(P:yg)(o:Oper)(ts:yL Dv):yO Nat:=
 match o.op with
 |.load t a=>match Zo P ts 0 a with
  |.am id _ _=>ab id
  |.aW id _ _ _=>ab id
  |_=>ad
 |.slice t x _ _ ad=>match Zo P ts t x with
  |.am id _ _=>ab id
  |_=>ad
 |.lookup t x _ _=>match Zo P ts t x with
  |.mp id=>ab id
  |.cz id=>ab id
  |.cC id _ _=>ab id
  |_=>ad
 |.call c=>match c.callee with
  |.value f=>match Zo P ts 0 f with
   |.fn g e=>Dv.eE (ZZ P [] ts c g e)
   |_=>ad
  |_=>ad
 |_=>ad
def iK(P:yg)(o:Oper)(ts:yL Dv)(hs:yL aj):yO (yL Nat):=
 match o.op with
 |.assign _=>ab []
 |.move _=>ab []
 |.makeSlice _ _ _=>ab []
 |.makeMap _ ad=>ab []
 |.alloc _=>ab []
 |.box _ _=>ab []
 |.buildSlice _ _ _=>match hs with
  |.fresh id::_=>ab [id]
  |_::_=>ab []
  |[]=>ad
 |.slice t x _ _ ad=>match Zo P ts t x with
  |.rv id _ _ _ _=>ab [id]
  |_=>ab []
 |.convert src _ x=>match Zo P ts src x with
  |.rv id _ _ _ _=>ab [id]
  |_=>ad
 |.store t x y=>match Zo P ts 0 x with
  |.am id _ _=>ab [id]
  |.aW id _ _ _=>ab [id]
  |_=>ad
 |.call c=>match c.callee with
  |.builtin .append=>match c.args.toList,c.argTypes.toList with
   |[x,y],[t,u]=>match Zo P ts t x with
    |.own id _ _ _=>ab [id]
    |.rv id _ _ _ _=>ab [id]
    |.p _=>ab []
    |_=>ad
   |_,_=>ad
  |.value _=>match hs with
   |.call _ _ ids::_=>ab ids
   |_=>ad
  |.invoke _ _=>match hs with
   |.gQ _::.call _ _ ids::_=>ab ids
   |_=>ad
  |_=>ad
 |_=>ad
structure Rec where
 hs:List aj
 C:List Prop
 d:Dv
 H:List ar
 H':List ar
 hs':List aj
 bu:Nat
 rd:Option Nat
 tc:Option (List Nat)
 push:Bool
 loc:Bool
 ex:Bool
def jn(o:Oper):Bool:=match o.op with
 |.slice _ _ _ _ _=>ae
 |_=>af
def lY(r:Dv)(Hn:yL ar)(ids:yL Nat):Bool:=Hn.length==ids.length&&(r.rn (λj=>ids[j]?)).isSome&&(ar.bi (λj=>ids[j]?) Hn).isSome
def jX(o:Oper)(hs:yL aj):Bool:=o.guard.isNone&&match o.op with
 |.call c=>match c.callee with
  |.value _=>match hs with
   |.call r Hn ids::_=>lY r Hn ids
   |_=>af
  |.invoke _ _=>match hs with
   |.gQ _::.call r Hn ids::_=>lY r Hn ids
   |_=>af
  |_=>af
 |_=>af
def ir(o:Oper)(hs:yL aj)(n:Nat):Bool:=o.guard.isNone&&match o.op with
 |.alloc _=>ae
 |.call c=>match c.callee with
  |.value _=>match hs with
   |.call r Hn ids::_=>ids.isEmpty&&lY r Hn [n]
   |_=>af
  |_=>af
 |_=>af
def pC(P:yg)(o:Oper)(ts:yL Dv):yO Nat:=nQ P o ts
def jY(P:yg)(o:Oper)(ts:yL Dv)(hs:yL aj):yO (yL Nat):=if o.guard.isNone then iK P o ts hs else ad
def lZ(P:yg)(ops:Array Oper):yL Oper->yL Dv->yL ar->yL aj->yO (yL Prop×yL Rec×yL Dv×yL ar×yL aj)
 |[],ts,H,hs=>ab ([],[],ts,H,hs)
 |o::f,ts,H,hs=>match cR P ops o (ZR (looks ops o) 0 ts) H hs with
  |some (C,d,H',hs')=>match lZ P ops f (fI ts o.dst d) H' hs' with
   |some (C',rs,e,H'',c)=>ab (C++C',⟨hs,C,d,H,H',hs',bC P o (ZR (looks ops o) 0 ts) H hs,pC P o (ZR (looks ops o) 0 ts),jY P o (ZR (looks ops o) 0 ts) hs,ir o hs H.length,jX o hs,jn o⟩::rs,e,H'',c)
   |none=>ad
  |none=>ad
def mb(A:yL Nat)(i:Nat)(o:Oper):Nat:=
 o.after.toList.foldl (λm e=>if Region.binds .any e&&ag (e.on < i) then m|||(1 <<< e.on)|||A.getD e.on 0 else m) 0
def MO:yL Oper->Nat->yL Nat->yL Nat
 |[],_,A=>A
 |o::r,i,A=>MO r (i+1) (A++[mb A i o])
def xt(ops:yL Oper):yL Nat:=MO ops 0 []
def pD(l:yL Oper):Nat->Bool
 |i=>match l with
  |[]=>ae
  |o::r=>(o.after.toList.all λe=> !Region.binds .any e || decide (e.on < i))&&pD r (i+1)
def gW(l:yL Oper)(i:Nat):yO Tmp:=(l[i]?).bind (·.dst)
noncomputable def ZLB(id:Nat)(q:Rec):Bool:=@decide (cn (q.H'[id]?)=cn (q.H[id]?)) (Classical.propDecidable _)
noncomputable def kV(rs:yL Rec)(i j:Nat):Bool:=
 match rs[i]?,rs[j]? with
 |some r,ab q=>(match r.rd with
  |some id=>ag (id < q.H.length)&&ag (id < r.H.length)&&(if r.ex=ae then q.push else((match q.tc with|some l=> !l.contains id|none=>af) || ZLB id q))
  |none=>af)
 |_,_=>af
def sX(rs:yL Rec)(c:Nat)(r:Rec):Bool:=r.loc || (r.push&&r.H'.length==r.H.length+1&&(rs.take c).all λq=>ag (q.H.length<=r.H.length))
def jo(rs:yL Rec)(c i j:Nat):Bool:=((rs[c]?).map (sX rs c)).getD af&&((i==c&&ag (c < j)&&((rs[j]?).map (·.push)).getD af) || (j==c&&ag (c < i)&&((rs[i]?).map (·.push)).getD af))
noncomputable def sY(ops:Array Oper)(rs:yL Rec):Bool:=
 let e:=rs.map (·.bu);let l:=ops.toList;let A:=xt l;let n:=l.length
 (e.length==n)&&pD l 0&&
 ((yu n).all λi=>match l[i]? with|some o=>A.getD i 0==mb A i o|none=>ae)&&
 ((yu n).all λi=>(yu n).all λj=>i==j || gW l i==ad || !(gW l i==gW l j))&&
 ((yu n).all λi=>match l[i]? with
   |some o=>let k:=looks ops o
    (yu n).all λj=>match gW l j with
      |some t=>i==j || !(k.contains t) || (if j < i then(A.getD i 0).testBit j else(A.getD j 0).testBit i)
      |none=>ae
   |none=>ae)&&
 ((yu (n+1)).any λc=>(yu n).all λi=>e.getD i 0==0 || (yu n).all λj=>i==j || !(e.getD j 0==2) || (if j < i then(A.getD i 0).testBit j else(A.getD j 0).testBit i) || (e.getD i 0==1&&kV rs i j) || jo rs c i j)
noncomputable def sZ(P:yg)(ops:Array Oper)(ts:yL Dv)(H:yL ar)(hs:yL aj):yO (yL Prop×yL Dv×yL ar×yL aj):=
 if P.follows .mixedOrders then
  match lZ P ops ops.toList ts H hs with
  |some (C,rs,c,H',hs')=>if sY ops rs then ab (C,c,H',hs') else ad
  |none=>ad
 else ad
def pE(ts:yL Dv):yL Nat->yL Dv
 |[]=>ts
 |i::r=>pE (ts.set i .an) r
abbrev ZN7:=yO (yL Prop×Ex×yL Dv×yL ar×yL aj)
noncomputable def ev(P:yg):Code->yL Dv->yL ar->yL aj->ZN7
 |.skip,ts,H,hs=>ab ([],.normal,ts,H,hs)
 |.label _,ts,H,hs=>ab ([],.normal,ts,H,hs)
 |.region _ ops g,ts,H,hs=>if g then(sZ P ops ts H hs).map λ(C,e,H',hs')=>(C,.normal,e,H',hs') else(jm P ops ops.toList ts H hs).map λ(C,e,H',hs')=>(C,.normal,e,H',hs')
 |.seq x y,ts,H,hs=>match ev P x ts H hs with
  |some (C,.normal,e,H',hs')=>match ev P y e H' hs' with
   |some (C',h,j,H'',l)=>ab (C++C',h,j,H'',l)
   |none=>ad
  |r=>r
 |.cond c x y,ts,H,hs=>match Zo P ts 0 c,hs with
  |.p (.bool t),.b ae::hs'=>(ev P x ts H hs').map λ(C,r)=>((t=ae)::C,r)
  |.p (.bool t),.b af::hs'=>(ev P y ts H hs').map λ(C,r)=>((t=af)::C,r)
  |_,_=>ad
 |.block id f,ts,H,hs=>match ev P f ts H hs with
  |some (C,.exit m,e,H',hs')=>ab (C,if m=id then .normal else .exit m,e,H',hs')
  |r=>r
 |.loop f,ts,H,hs=>match hs with
  |.loop s h e H'::hs'=>if h=.normal then ad else ab ([Wq P (.loop f) (pE ts s) H h e H'],h,e,H',hs')
  |_=>ad
 |.scope f,ts,H,hs=>ev P f ts H hs
 |.exit id,ts,H,hs=>ab ([],.exit id,ts,H,hs)
 |.ret,ts,H,hs=>ab ([],.ret,ts,H,hs)
 |_,_,_,_=>ad
def jp(P:yg)(ts:yL Dv)(H:yL ar):yL ResultVar->yL aj->yO (yL Prop×yL Dv)
 |[],_=>ab ([],[])
 |.tmp t::r,hs=>(jp P ts H r hs).map λq=>(q.1,ts.getD t .an::q.2)
 |.cell a f::r,hs=>match ts.getD a .an with
  |.am id e g=>match H[id]? with
   |some (.var d _)=>match Ym d g hs with
    |some (C,c,sub,hs')=>if gv P f sub then(jp P ts H r hs').map λq=>(C++[c=e]++q.1,sub::q.2) else ad
    |none=>ad
   |_=>ad
  |_=>ad
def mc:yL Dv->Dv
 |[d]=>d
 |c=>.bf c
def fin(P:yg)(fn:Func)(ts:yL Dv)(H:yL ar)(k:Nat)(keep:yL Nat)(hs:yL aj):yO (yL Prop×Dv×yL ar):=
 match jp P ts H fn.results.toList hs with
 |some (C,c)=>
  let L:=yu k++keep
  match once L,(mc (c.map Dv.arg)).rn (aR L),(mc c).rn (aR L),aH H L L with
  |true,_,ab r,ab H'=>ab (C,r,H')
  |true,ab r,ad,ab H'=>ab (C,r,H')
  |_,_,_,_=>ad
 |none=>ad
def aY:yL Prop->Prop
 |[]=>True
 |p::r=>p/\aY r
end Go.Ev
end
section
namespace Go.Ev
section
variable{J:Sg}{v:yh}
theorem ZG{k:IntKind}{n:Int}(h:yH J (.p (.int k n)) v):v=.int k n:=by simpa[yH,Dv.isAgg,Pl.isAgg,yG,aq] using h
theorem Y6{b:Bool}(h:yH J (.p (.bool b)) v):v=.bool b:=by simpa[yH,Dv.isAgg,Pl.isAgg,yG,aq] using h
theorem nS{b:ByteArray}(h:yH J (.p (.str b)) v):v=.string b:=by simpa[yH,Dv.isAgg,Pl.isAgg,yG,aq] using h
theorem pF(h:yH J (.p .bH) v):v=.pointer ad:=by simpa[yH,Dv.isAgg,Pl.isAgg,yG,aq] using h
theorem xu(h:yH J (.p .fn0) v):v=.nilFunc:=by simpa[yH,Dv.isAgg,Pl.isAgg,yG,aq] using h
theorem Zu(k:IntKind)(n:Int):yH J (.p (.int k n)) (.int k n):=by simp[yH,Dv.isAgg,Pl.isAgg,yG,aq]
theorem Yc(b:Bool):yH J (.p (.bool b)) (.bool b):=by simp[yH,Dv.isAgg,Pl.isAgg,yG,aq]
theorem Wb:yH J .an v:=by simp[yH,Dv.isAgg,yG]
theorem Ya{d:Dv}(ha:d.isAgg=ae):yH J d v↔∃cs:Array yh,v=.agg cs/\yG J d cs.toList:=by
 simp[yH,ha]
theorem Zg{d:Dv}(ha:d.isAgg=af):yH J d v↔yG J d [v]:=by
 simp[yH,ha]
theorem Wy{nn:yO Bool}{s:Nat}{xs:yL Pl}(h:yH J (.p (.sl nn s xs)) v):
 aT s xs/\∃A c,v=.slice A xs.length c/\xs.length<=c/\c<=maxLen/\ij nn A/\(A=ad->c=0)/\
  (xs≠[]->∃b o us,A=ab ⟨b,o,ad⟩/\ak J.w J.aV xs us/\W9 J.w J.aV b o us):=by
 rw[Zg (by rfl)]at h;simpa[yG,aq] using h
theorem Yp{nn:yO Bool}{s:Nat}{xs:yL Pl}{A:yO Addr}{c:Nat}(h1:aT s xs)(h2:xs.length<=c)(h3:c<=maxLen)(h4:ij nn A)(h5:A=ad->c=0)
 (h6:xs≠[]->∃b o us,A=ab ⟨b,o,ad⟩/\ak J.w J.aV xs us/\W9 J.w J.aV b o us):yH J (.p (.sl nn s xs)) (.slice A xs.length c):=by
 rw[Zg (by rfl)];simp only[yG,aq];exact⟨h1,A,c,rfl,h2,h3,h4,h5,h6⟩
theorem kW{id s:Nat}{nn:yO Bool}{xs:yL Pl}(h:yH J (.own id nn s xs) v):
 aT s xs/\∃A c,v=.slice A xs.length c/\xs.length<=c/\c<=maxLen/\ij nn A/\(A=ad->c=0)/\
  (xs≠[]->∃b o us,A=ab ⟨b,o,ad⟩/\ak J.w J.aV xs us/\W9 J.w J.aV b o us)/\cL J id s xs.length A c:=by
 rw[Zg (by rfl)]at h;simpa[yG] using h
theorem nT{id s:Nat}{nn:yO Bool}{xs:yL Pl}(h:yH J (.own id nn s xs) v):yH J (.p (.sl nn s xs)) v:=by
 obtain⟨e,A,c,rfl,f,g,j,l,m,_⟩:=kW h;exact Yp e f g j l m
end
mutual
theorem WR{w:yad}{S:Nat->Nat->Prop}:∀(x:Pl)(vs:yL yh),aq w S x vs->vs.length=x.size
 |.int _ _,_,h=>by simp only[aq]at h;subst h;rfl
 |.bool _,_,h=>by simp only[aq]at h;subst h;rfl
 |.str _,_,h=>by simp only[aq]at h;subst h;rfl
 |.bH,_,h=>by simp only[aq]at h;subst h;rfl
 |.fn0,_,h=>by simp only[aq]at h;subst h;rfl
 |.dy,_,h=>by simp only[aq]at h;subst h;rfl
 |.bR,_,h=>by simp only[aq]at h;subst h;rfl
 |.fQ _,_,h=>by simp only[aq]at h;subst h;rfl
 |.agg e,vs,h=>by
  simp only[aq]at h
  simpa[Pl.size] using aG e vs h
 |.arr n s e,vs,h=>by
  simp only[aq]at h;obtain⟨f,g,j⟩:=h;have:=aG e vs j;rw[this,Pl.size, <-f]
  exact aI g
 |.sl _ _ _,_,h=>by
  simp only[aq]at h;obtain⟨_,A,c,h,_⟩:=h
  subst h;rfl
 |.iface _ _,_,h=>by
  simp only[aq]at h;obtain⟨v,h,_⟩:=h;subst h;rfl
theorem aG{w:yad}{S:Nat->Nat->Prop}:∀(xs:yL Pl)(vs:yL yh),ak w S xs vs->vs.length=Pl.sizes xs
 |[],_,h=>by simp only[ak]at h;subst h;rfl
 |x::xs,vs,h=>by
  simp only[ak]at h;obtain⟨e,c,rfl,f,g⟩:=h;rw[yn,WR x e f,aG xs c g,Pl.sizes]
theorem aI{s:Nat}:∀{xs:yL Pl},aT s xs->Pl.sizes xs=xs.length*s
 |[],_=>by simp[Pl.sizes]
 |x::xs,h=>by
  rw[Pl.sizes,h x (yay ..),aI (λy c=>h y (yba _ c)),yam,ybd];omega
end
theorem Ys{w:yad}{S:Nat->Nat->Prop}{xs ys:yL Pl}{us vs:yL yh}(h:ak w S xs us)(k:ak w S ys vs):ak w S (xs++ys) (us++vs):=by
 induction xs generalizing us with
 |nil=>simp only[ak]at h;subst h;simpa using k
 |cons x xs c=>
  simp only[ak]at h;obtain⟨a,b,rfl,e,f⟩:=h;simp only[yaa,ak,yac];exact⟨a,b++vs,rfl,e,c f⟩
theorem Yh{w:yad}{S:Nat->Nat->Prop}{xs ys:yL Pl}{us:yL yh}(h:ak w S (xs++ys) us):∃a b,us=a++b/\ak w S xs a/\ak w S ys b:=by
 induction xs generalizing us with
 |nil=>exact⟨[],us,rfl,by simp[ak],h⟩
 |cons x xs e=>
  simp only[yaa,ak]at h;obtain⟨a,b,rfl,f,g⟩:=h;obtain⟨c,d,rfl,j,l⟩:=e g;exact⟨a++c,d,by simp,by simp only[ak];exact⟨a,c,rfl,f,j⟩,l⟩
theorem Vh{s:Nat}{xs ys:yL Pl}(h:aT s xs)(k:aT s ys):aT s (xs++ys):=by
 intro x c;rcases ycm.1 c with h1|h1
 .exact h x h1
 .exact k x h1
theorem V5{s:Nat}{xs:yL Pl}(h:aT s xs)(n:Nat):aT s (xs.take n):=λx c=>h x (List.mem_of_mem_take c)
theorem ta{s:Nat}{xs:yL Pl}(h:aT s xs)(n:Nat):aT s (xs.drop n):=λx c=>h x (List.mem_of_mem_drop c)
theorem W9.append{w:yad}{S:Nat->Nat->Prop}{b o:Nat}{us vs:yL yh}(h:W9 w S b o (us++vs)):W9 w S b o us/\W9 w S b (o+us.length) vs:=by
 constructor
 .intro j u c;exact h j u (by rw[yaj (yp.1 c).1];exact c)
 .intro j u c;have:=h (us.length+j) u (by rw[yan (by omega)];simpa using c)
  rwa [<-yci]at this
theorem MP{P:yg}{t:yb}{v:yh}{x:Pl}(h:sS P t v=ab x)(w:yad)(S:Nat->Nat->Prop):aq w S x [v]/\x.isAgg=af:=by
 unfold sS at h
 split at h <;> first
  |(cases h;done)
  |(simp only[yj]at h;subst h;refine⟨?_,rfl⟩;simp only[aq];done)
  |(simp only[yj]at h;subst h;exact⟨by simp only[aq];exact⟨λ_ c=>(by cases c),ad,0,rfl,ym _,Nat.zero_le _,ML rfl,λ_=>rfl,λe=>absurd rfl e⟩,rfl⟩)
mutual
theorem xv{P:yg}:∀(yD:Nat)(t:yb)(vs:yL yh)(x:Pl)(r:yL yh),nL P yD t vs=ab (x,r)->∀w S,∃us,vs=us++r/\aq w S x us
 |0,_,_,_,_,h,_,_=>by simp[nL]at h
 |yD+1,t,vs,x,r,h,w,S=>by
  simp only[nL]at h;split at h
  .rename_i y _;simp only[yq,yl]at h;obtain⟨⟨j,g⟩,c,rfl,rfl⟩:=h;obtain⟨us,e,f⟩:=dK yD _ _ _ _ c w S;exact⟨us,e,by simpa[aq] using f⟩
  .rename_i n e _;simp only[yq,yl]at h;obtain⟨⟨j,g⟩,c,rfl,rfl⟩:=h;obtain⟨us,l,m,s,f⟩:=fj yD _ _ _ _ _ c w S;exact⟨us,l,by simp only[aq];exact⟨m,s,f⟩⟩
  .split at h
   .rename_i v g;simp only[yq,yl]at h;obtain⟨z,c,rfl,rfl⟩:=h;exact⟨[v],rfl,(MP c w S).1⟩
   .cases h
  .cases h
theorem dK{P:yg}:∀(yD:Nat)(ts:yL yb)(vs:yL yh)(xs:yL Pl)(r:yL yh),cM P yD ts vs=ab (xs,r)->∀w S,∃us,vs=us++r/\ak w S xs us
 |0,_,_,_,_,h,_,_=>by simp[cM]at h
 |yD+1,[],vs,xs,r,h,w,S=>by
  simp only[cM,yj,yl]at h;obtain⟨rfl,rfl⟩:=h
  exact⟨[],rfl,by simp[ak]⟩
 |yD+1,t::ts,vs,xs,r,h,w,S=>by
  simp only[cM]at h;split at h
  .rename_i x z e;simp only[yq,yl]at h;obtain⟨⟨f,g⟩,j,rfl,rfl⟩:=h;obtain⟨us,l,m⟩:=xv yD _ _ _ _ e w S;obtain⟨c,s,y⟩:=dK yD _ _ _ _ j w S;subst s;exact⟨us++c,by rw[l,yac],by simp only[ak];exact⟨us,c,rfl,m,y⟩⟩
  .cases h
theorem fj{P:yg}:∀(yD:Nat)(e:yb)(n:Nat)(vs:yL yh)(xs:yL Pl)(r:yL yh),fg P yD e n vs=ab (xs,r)->
 ∀w S,∃us,vs=us++r/\xs.length=n/\aT (P.cellsOf e) xs/\ak w S xs us
 |0,_,_,_,_,_,h,_,_=>by simp[fg]at h
 |yD+1,e,0,vs,xs,r,h,w,S=>by
  simp only[fg,yj,yl]at h;obtain⟨rfl,rfl⟩:=h
  exact⟨[],rfl,rfl,(λ_ g=>(by cases g)),by simp[ak]⟩
 |yD+1,e,n+1,vs,xs,r,h,w,S=>by
  simp only[fg]at h;split at h
  .rename_i x I j;split at h
   .rename_i hs;simp only[yq,yl]at h;obtain⟨⟨l,m⟩,s,rfl,rfl⟩:=h;obtain⟨us,t,z⟩:=xv yD _ _ _ _ j w S;obtain⟨c,A,E,F,G⟩:=fj yD _ _ _ _ _ s w S;subst A;refine⟨us++c,by rw[t,yac],by simp[E], ?_,by simp only[ak];exact⟨us,c,rfl,z,G⟩⟩;intro y f
    cases f with
    |head=>exact hs
    |tail _ f=>exact F y f
   .cases h
  .cases h
end
theorem MQ{J:Sg}{f:yr}(c:f < big):yH J (.fn f []) (.func (.func f) #[] #[]):=by
 have e:dQ f=f:=by
  unfold dQ;rw[yW c]
 rw[Zg rfl];simp only[yG];exact⟨#[], #[],by rw[e],yW c,by simp[aB]⟩
theorem VB{P:yg}{t:yb}{v:yh}{J:Sg}:yH J (nM P t v) v:=by
 unfold nM;split
 .rename_i l;split
  .rename_i x h;split
   .rename_i m;obtain⟨A,e,s⟩:=xv _ _ _ _ _ h J.w J.aV;rw[Ya (by simpa[Dv.isAgg] using m)];exact⟨l,rfl,by simp only[yG];rw[e];simpa using s⟩
   .exact Wb
  .exact Wb
 .rename_i f c g;split
  .rename_i j;have y:c= #[]:=by simpa using j.1
   have z:g= #[]:=by simpa using j.2.1
   subst y;subst z;exact MQ j.2.2
  .exact Wb
 .split
  .rename_i x h;have:=MP h J.w J.aV;rw[Zg (by simpa[Dv.isAgg] using this.2)];simpa[yG] using this.1
  .exact Wb
theorem Zh{P:yg}{J:Sg}{ts:yL Dv}{a:Act}(h:ay J ts a)(t:yb)(x:yo):yH J (Zo P ts t x) (a.eval x):=by
 cases x with
 |tmp i=>
  simp only[Zo,Act.eval]
  cases c:ts[i]? with
  |none=>simp only[List.getD,c,Option.getD_none];exact Wb
  |some d=>simp only[List.getD,c,Option.getD_some];exact h.at_ i d c
 |const v=>exact VB
 |global g=>exact Wb
 |func f=>
  simp only[Zo,Act.eval];split
  .rename_i e;exact MQ e
  .exact Wb
theorem ZET{J:Sg}{d:Dv}{x:Pl}{v:yh}(h:d.plain=ab x)(c:yH J d v):yH J (.p x) v:=by
 unfold Dv.plain at h;split at h
 .cases h;exact c
 .cases h;exact nT c
 .cases h
mutual
theorem pG{J:Sg}:∀(d:Dv)(x:Pl)(us:yL yh),d.flat=ab x->yG J d us->aq J.w J.aV x us
 |.p y,x,us,h,e=>by rw[Dv.flat]at h;cases h;simpa[yG] using e
 |.own id nn s g,x,us,h,e=>by
  rw[Dv.flat]at h;cases h;simp only[yG]at e;obtain⟨l,A,c,m,t,z,E,F,G,_⟩:=e;simp only[aq]
  exact⟨l,A,c,m,t,z,E,F,G⟩
 |.agg j,x,us,h,e=>by
  rw[Dv.flat]at h
  cases f:Dv.aL j with
  |none=>rw[f]at h;cases h
  |some g=>
   rw[f]at h;cases h;simp only[yG]at e;simp only[aq]
   exact dD j g us f e
 |.elem _,x,us,h,e=>by rw[Dv.flat]at h <;> simp_all
 |.am _ _ _,x,us,h,e=>by rw[Dv.flat]at h <;> simp_all
 |.view _ _ _ _ _ _,x,us,h,e=>by rw[Dv.flat]at h <;> simp_all
 |.arr _ _ _,x,us,h,e=>by rw[Dv.flat]at h <;> simp_all
 |.fn _ _,x,us,h,e=>by rw[Dv.flat]at h <;> simp_all
 |.iface _ _,x,us,h,e=>by rw[Dv.flat]at h <;> simp_all
 |.bf _,x,us,h,e=>by rw[Dv.flat]at h <;> simp_all
 |.mp _,x,us,h,e=>by rw[Dv.flat]at h <;> simp_all
 |.cz _,x,us,h,e=>by rw[Dv.flat]at h <;> simp_all
 |.cC _ _ _,x,us,h,e=>by rw[Dv.flat]at h <;> simp_all
 |.pm _ _,x,us,h,e=>by rw[Dv.flat]at h <;> simp_all
 |.rv _ _ _ _ _,x,us,h,e=>by rw[Dv.flat]at h <;> simp_all
 |.aW _ _ _ _,x,us,h,e=>by rw[Dv.flat]at h <;> simp_all
 |.an,x,us,h,e=>by rw[Dv.flat]at h <;> simp_all
theorem dD{J:Sg}:∀(c:yL Dv)(xs:yL Pl)(us:yL yh),Dv.aL c=ab xs->aC J c us->ak J.w J.aV xs us
 |[],xs,us,h,e=>by rw[Dv.aL]at h;cases h;simpa[aC,ak] using e
 |d::c,xs,us,h,e=>by
  rw[Dv.aL]at h;split at h
  .rename_i x f g j;cases h;simp only[aC]at e;obtain⟨a,b,rfl,l,m⟩:=e;simp only[ak];exact⟨a,b,rfl,pG d x a g l,dD c f b j m⟩
  .cases h
end
theorem xw{d:Dv}{x:Pl}(h:d.flat=ab x):x.isAgg=d.isAgg:=by
 cases d <;> first
  |(rw[Dv.flat]at h;cases h;rfl)
  |(rename_i e;rw[Dv.flat]at h;cases c:Dv.aL e with
     |none=>rw[c]at h;cases h
     |some f=>rw[c]at h;cases h;rfl)
  |(simp[Dv.flat]at h)
theorem pH{J:Sg}{d:Dv}{x:Pl}{v:yh}(h:d.flat=ab x)(c:yH J d v):yH J (.p x) v:=by
 have f:=xw h
 cases e:d.isAgg with
 |true=>
  rw[Ya e]at c;rw[Ya (by show x.isAgg=_;rw[f,e])];obtain⟨g,rfl,j⟩:=c
  exact⟨g,rfl,by simp only[yG];exact pG d x _ h j⟩
 |false=>
  rw[Zg e]at c;rw[Zg (by show x.isAgg=_;rw[f,e])];simp only[yG];exact pG d x _ h c
theorem MR{J:Sg}{c:yL Dv}{v:yh}(e:yH J (.agg c) v):yH J (Dv.df c) v:=by
 unfold Dv.df
 cases h:Dv.aL c with
 |none=>exact e
 |some f=>exact pH (d:=.agg c) (by rw[Dv.flat,h];rfl) e
theorem xy{J:Sg}{d:Dv}{v:yh}(ids:yL Nat)(c:yH J d v):yH J (d.bI ids) v:=by
 unfold Dv.bI;split
 .split
  .exact c
  .exact nT c
 .split
  .exact c
  .exact MR c
 .exact c
theorem ZJG{J:Sg}{d:Dv}{v:yh}(c:yH J d v):yH J d.arg v:=by
 unfold Dv.arg;split
 .exact nT c
 .exact MR c
 .exact c
end Go.Ev
end
section
namespace Go.Ev
theorem md{k:IntKind}{x:Int}(h:V3 k x):k.wrap x=x:=by
 obtain⟨c,e⟩:=h;cases k <;> simp only[IntKind.min,IntKind.max,IntKind.wrap,IntKind.signed,IntKind.bits] at* <;> simp at* <;> (try split) <;> omega
theorem Zj{A B:yL Prop}:aY (A++B)↔aY A/\aY B:=by
 induction A with
 |nil=>simp[aY]
 |cons p A c=>simp[aY,c,and_assoc]
theorem pI{k:IntKind}{x:Int}{hs hs':yL aj}{C:yL Prop}{d:Dv}(h:fS k x hs=ab (C,d,hs'))(hc:aY C)(J:Sg):yH J d (.int k (k.wrap x)):=by
 unfold fS at h;split at h
 .simp only[yj,yl]at h;obtain⟨rfl,rfl,rfl⟩:=h;rw[md hc.1];exact Zu _ _
 .simp only[yj,yl]at h;obtain⟨rfl,rfl,rfl⟩:=h;exact Zu _ _
 .cases h
theorem nU(n a:Nat)(h:a < 2 ^ n):(BitVec.ofInt n (a:Int)).toNat=a:=by
 rw[BitVec.ofInt_natCast,BitVec.toNat_ofNat];exact Nat.mod_eq_of_lt h
theorem MS{k:IntKind}{x:Int}(h:V3 k x)(c:0<=x):x.toNat < 2 ^ k.bits:=by
 obtain⟨e,f⟩:=h;cases k <;> simp only[IntKind.min,IntKind.max,IntKind.signed,IntKind.bits] at* <;> simp at* <;> omega
theorem td{op:BinOp}{k:IntKind}{x y:Int}{r:Nat}(c:sU op x.toNat y.toNat=ab r)(hx:0<=x)(l:V3 k x)(j:0<=y)(m:V3 k y)(h:V3 k (r:Int)):
 bits op k x y=(r:Int):=by
 obtain⟨a,rfl⟩:=Int.eq_ofNat_of_zero_le hx;obtain⟨b,rfl⟩:=Int.eq_ofNat_of_zero_le j;have f:=MS l hx;have g:=MS m j;simp only[Int.toNat_natCast]at f g c;unfold sU at c;split at c
 .cases c;have e:bits .and k (a:Int) (b:Int)=k.wrap ((BitVec.ofInt k.bits (a:Int)&&&BitVec.ofInt k.bits (b:Int)).toNat:Int):=rfl;rw[e,BitVec.toNat_and,nU _ _ f,nU _ _ g];exact md h
 .cases c;have e:bits .or k (a:Int) (b:Int)=k.wrap ((BitVec.ofInt k.bits (a:Int)|||BitVec.ofInt k.bits (b:Int)).toNat:Int):=rfl;rw[e,BitVec.toNat_or,nU _ _ f,nU _ _ g];exact md h
 .cases c;have e:bits .xor k (a:Int) (b:Int)=k.wrap ((BitVec.ofInt k.bits (a:Int)^^^BitVec.ofInt k.bits (b:Int)).toNat:Int):=rfl;rw[e,BitVec.toNat_xor,nU _ _ f,nU _ _ g];exact md h
 .cases c
theorem Zzj{P:yg}{op:BinOp}{k:IntKind}{x y:Int}{hs hs':yL aj}{C:yL Prop}{d:Dv}(h:Xn op k x y hs=ab (C,d,hs'))(hc:aY C)(J:Sg)(t:yb):
 ∃v,(binOp op t (.int k x) (.int k y)).run P J.w=.ok v J.w/\yH J d v:=by
 unfold Xn at h;split at h
 .exact⟨_,by rw[binOp_add];rfl,pI h hc J⟩
 .exact⟨_,by rw[binOp_sub];rfl,pI h hc J⟩
 .exact⟨_,by rw[binOp_mul];rfl,pI h hc J⟩
 .split at h
  .simp only[yj,yl]at h;obtain⟨rfl,rfl,rfl⟩:=h;obtain⟨c,e,f,_⟩:=hc;have g:y≠0:=by omega
   refine⟨_, ?_,Zu k (x / y)⟩;rw[binOp_quo];simp only[Op.intDiv,g,if_false];rw[Int.tdiv_eq_ediv_of_nonneg c,md f];rfl
  .simp only[yj,yl]at h;obtain⟨rfl,rfl,rfl⟩:=h;have g:y≠0:=hc.1;refine⟨_, ?_,Zu k _⟩;rw[binOp_quo];simp only[Op.intDiv,g,if_false];rfl
  .cases h
 .split at h
  .simp only[yj,yl]at h;obtain⟨rfl,rfl,rfl⟩:=h;obtain⟨c,e,_⟩:=hc;have g:y≠0:=by omega
   refine⟨_, ?_,Zu k (x % y)⟩;rw[binOp_rem];simp only[Op.intDiv,g,if_false];rw[Int.tmod_eq_emod_of_nonneg c];rfl
  .simp only[yj,yl]at h;obtain⟨rfl,rfl,rfl⟩:=h;have g:y≠0:=hc.1;refine⟨_, ?_,Zu k _⟩;rw[binOp_rem];simp only[Op.intDiv,g,if_false];rfl
  .cases h
 .split at h
  .simp only[yq,yl]at h;obtain⟨r,j,rfl,rfl,rfl⟩:=h;obtain⟨c,e,f,l,m,_⟩:=hc;refine⟨_, ?_,Zu k _⟩;rw[binOp_and,intBits_and,td j c e f l m];rfl
  .simp only[yj,yl]at h;obtain⟨rfl,rfl,rfl⟩:=h;exact⟨_,by rw[binOp_and,intBits_and];rfl,Zu k _⟩
  .cases h
 .split at h
  .simp only[yq,yl]at h;obtain⟨r,j,rfl,rfl,rfl⟩:=h;obtain⟨c,e,f,l,m,_⟩:=hc;refine⟨_, ?_,Zu k _⟩;rw[binOp_or,intBits_or,td j c e f l m];rfl
  .simp only[yj,yl]at h;obtain⟨rfl,rfl,rfl⟩:=h;exact⟨_,by rw[binOp_or,intBits_or];rfl,Zu k _⟩
  .cases h
 .split at h
  .simp only[yq,yl]at h;obtain⟨r,j,rfl,rfl,rfl⟩:=h;obtain⟨c,e,f,l,m,_⟩:=hc;refine⟨_, ?_,Zu k _⟩;rw[binOp_xor,intBits_xor,td j c e f l m];rfl
  .simp only[yj,yl]at h;obtain⟨rfl,rfl,rfl⟩:=h;exact⟨_,by rw[binOp_xor,intBits_xor];rfl,Zu k _⟩
  .cases h
 .split at h
  .simp only[yj,yl]at h;obtain⟨rfl,rfl,rfl⟩:=h;exact⟨_,by rw[binOp_andNot,intBits_andNot];rfl,Zu k _⟩
  .cases h
 all_goals first
  |(cases h;done)
  |(simp only[yj,yl]at h
    obtain⟨rfl,rfl,rfl⟩:=h
    first
     |exact⟨_,by rw[binOp_eql];rfl,Yc _⟩
     |exact⟨_,by rw[binOp_neq];rfl,Yc _⟩
     |exact⟨_,by rw[binOp_lss];rfl,Yc _⟩
     |exact⟨_,by rw[binOp_leq];rfl,Yc _⟩
     |exact⟨_,by rw[binOp_gtr];rfl,Yc _⟩
     |exact⟨_,by rw[binOp_geq];rfl,Yc _⟩)
theorem Zuv{P:yg}{op:BinOp}{k yk:IntKind}{x y:Int}{hs hs':yL aj}{C:yL Prop}{d:Dv}(h:Vg op k x y hs=ab (C,d,hs'))(hc:aY C)(J:Sg):
 ∃v,(Op.shift op k x yk y).run P J.w=.ok v J.w/\yH J d v:=by
 unfold Vg at h;split at h
 .simp only[yj,yl]at h;obtain⟨rfl,rfl,rfl⟩:=h;obtain⟨f,e,g,_⟩:=hc;refine⟨_, ?_,Zu k _⟩;have c:¬y < 0:=by omega
  simp only[Op.shift,c,if_false];rw[ybi (Nat.le_of_lt e),md g];rfl
 .simp only[yj,yl]at h;obtain⟨rfl,rfl,rfl⟩:=h;refine⟨_, ?_,Zu k _⟩;have c:¬y < 0:=by have:0<=y:=hc.1;omega
  simp only[Op.shift,c,if_false];rfl
 .simp only[yj,yl]at h;obtain⟨rfl,rfl,rfl⟩:=h;obtain⟨f,e,_⟩:=hc;refine⟨_, ?_,Zu k _⟩;have c:¬y < 0:=by omega
  simp only[Op.shift,c,if_false];rw[ybi e,Int.fdiv_eq_ediv_of_nonneg _ (by exact Int.le_of_lt (Int.pow_pos (by decide)))];rfl
 .simp only[yj,yl]at h;obtain⟨rfl,rfl,rfl⟩:=h;refine⟨_, ?_,Zu k _⟩;have c:¬y < 0:=by have:0<=y:=hc.1;omega
  simp only[Op.shift,c,if_false];rfl
 .cases h
mutual
theorem xz{w:yad}{S:Nat->Nat->Prop}:∀(x:Pl)(vs:yL yh),aq w S x vs->∀u,u∈vs->u.oneCell'=ae
 |.int _ _,_,h,u,e=>by simp only[aq]at h;subst h;cases yav.1 e;rfl
 |.bool _,_,h,u,e=>by simp only[aq]at h;subst h;cases yav.1 e;rfl
 |.str _,_,h,u,e=>by simp only[aq]at h;subst h;cases yav.1 e;rfl
 |.bH,_,h,u,e=>by simp only[aq]at h;subst h;cases yav.1 e;rfl
 |.fn0,_,h,u,e=>by simp only[aq]at h;subst h;cases yav.1 e;rfl
 |.dy,_,h,u,e=>by simp only[aq]at h;subst h;cases yav.1 e;rfl
 |.bR,_,h,u,e=>by simp only[aq]at h;subst h;cases yav.1 e;rfl
 |.fQ _,_,h,u,e=>by simp only[aq]at h;subst h;cases yav.1 e;rfl
 |.agg f,vs,h,u,e=>by
  simp only[aq]at h
  exact cj f vs h u e
 |.arr n s f,vs,h,u,e=>by
  simp only[aq]at h
  exact cj f vs h.2.2 u e
 |.sl _ _ _,_,h,u,e=>by
  simp only[aq]at h;obtain⟨_,A,c,h,_⟩:=h
  subst h;cases yav.1 e;rfl
 |.iface _ _,_,h,u,e=>by
  simp only[aq]at h;obtain⟨v,h,_⟩:=h;subst h;cases yav.1 e;rfl
theorem cj{w:yad}{S:Nat->Nat->Prop}:∀(xs:yL Pl)(vs:yL yh),ak w S xs vs->∀u,u∈vs->u.oneCell'=ae
 |[],_,h,u,c=>by simp only[ak]at h;subst h;cases c
 |x::xs,vs,h,u,c=>by
  simp only[ak]at h;obtain⟨f,e,rfl,g,j⟩:=h;rcases ycm.1 c with h3|h3
  .exact xz x f g u h3
  .exact cj xs e j u h3
end
mutual
theorem Wr{J:Sg}:∀(d:Dv)(vs:yL yh),yG J d vs->vs.length=d.size
 |.p x,vs,h=>by simp only[yG]at h;exact WR x vs h
 |.elem _,_,h=>by simp only[yG]at h;obtain⟨b,o,t,rfl,_⟩:=h;rfl
 |.am _ _ _,_,h=>by simp only[yG]at h;obtain⟨b,_,_,rfl⟩:=h;rfl
 |.own _ _ _ _,_,h=>by simp only[yG]at h;obtain⟨_,A,c,rfl,_⟩:=h;rfl
 |.view _ _ _ _ _ _,_,h=>by simp only[yG]at h;obtain⟨b,c,a,_,_,rfl,_⟩:=h;rfl
 |.agg e,vs,h=>by simp only[yG]at h;simpa[Dv.size] using cS e vs h
 |.arr n s e,vs,h=>by
  simp only[yG]at h;obtain⟨g,j,l⟩:=h;rw[cS e vs l,Dv.size, <-g]
  exact cD j
 |.fn _ _,_,h=>by simp only[yG]at h;obtain⟨y,f,rfl,_⟩:=h;rfl
 |.iface _ _,_,h=>by simp only[yG]at h;obtain⟨f,rfl,_⟩:=h;rfl
 |.bf _,_,h=>by simp only[yG]at h;obtain⟨f,rfl,_⟩:=h;rfl
 |.mp _,_,h=>by simp only[yG]at h;obtain⟨b,_,_,rfl⟩:=h;rfl
 |.cz _,_,h=>by simp only[yG]at h;obtain⟨b,_,_,rfl⟩:=h;rfl
 |.cC _ _ _,_,h=>by simp only[yG]at h;obtain⟨m,rfl,_⟩:=h;rfl
 |.pm _ _,_,h=>by simp only[yG]at h;obtain⟨m,rfl,_⟩:=h;rfl
 |.rv _ _ _ _ _,_,h=>by simp only[yG]at h;obtain⟨A,c,rfl,_⟩:=h;rfl
 |.aW _ _ _ _,_,h=>by simp only[yG]at h;obtain⟨b,o,rfl,_⟩:=h;rfl
 |.an,_,h=>by simpa[yG,Dv.size] using h
theorem cS{J:Sg}:∀(e:yL Dv)(vs:yL yh),aC J e vs->vs.length=Dv.sizes e
 |[],_,h=>by simp only[aC]at h;subst h;rfl
 |x::f,vs,h=>by
  simp only[aC]at h;obtain⟨g,c,rfl,j,l⟩:=h;rw[yn,Wr x g j,cS f c l,Dv.sizes]
theorem cD{s:Nat}:∀{xs:yL Dv},(∀x,x∈xs->x.size=s)->Dv.sizes xs=xs.length*s
 |[],_=>by simp[Dv.sizes]
 |x::xs,h=>by
  rw[Dv.sizes,h x (yay ..),cD (λy c=>h y (yba _ c)),yam,ybd];omega
end
theorem jZ{w:yad}{S:Nat->Nat->Prop}{xs:yL Pl}{us:yL yh}{i:Nat}{y:Pl}(h:ak w S xs us)(e:xs[i]? =ab y):
 ∃a b c,us=a++(b++c)/\a.length=Pl.sizes (xs.take i)/\aq w S y b/\b.length=y.size/\ak w S (xs.take i) a/\ak w S (xs.drop (i+1)) c:=by
 have s:i < xs.length:=(yp.1 e).1
 have l:xs=xs.take i++(y::xs.drop (i+1)):=by
  rw[<-(yp.1 e).2,List.getElem_cons_drop,ybk]
 rw[l]at h;obtain⟨a,r,rfl,f,g⟩:=Yh h;simp only[ak]at g;obtain⟨b,c,rfl,j,m⟩:=g;exact⟨a,b,c,rfl,aG _ _ f,j,WR _ _ j,f,m⟩
theorem pJ{J:Sg}{xs ys:yL Dv}{us vs:yL yh}(h:aC J xs us)(k:aC J ys vs):aC J (xs++ys) (us++vs):=by
 induction xs generalizing us with
 |nil=>simp only[aC]at h;subst h;simpa using k
 |cons x xs c=>
  simp only[aC]at h;obtain⟨a,b,rfl,e,f⟩:=h;simp only[yaa,aC,yac];exact⟨a,b++vs,rfl,e,c f⟩
theorem Zzk{J:Sg}{xs ys:yL Dv}{us:yL yh}(h:aC J (xs++ys) us):∃a b,us=a++b/\aC J xs a/\aC J ys b:=by
 induction xs generalizing us with
 |nil=>exact⟨[],us,rfl,by simp[aC],h⟩
 |cons x xs e=>
  simp only[yaa,aC]at h;obtain⟨a,b,rfl,f,g⟩:=h;obtain⟨c,d,rfl,j,l⟩:=e g;exact⟨a++c,d,by simp,by simp only[aC];exact⟨a,c,rfl,f,j⟩,l⟩
theorem kX{J:Sg}{xs:yL Dv}{us:yL yh}{i:Nat}{y:Dv}(h:aC J xs us)(j:xs[i]? =ab y):
 ∃a b c,us=a++(b++c)/\a.length=Dv.sizes (xs.take i)/\yG J y b/\b.length=y.size/\aC J (xs.take i) a/\aC J (xs.drop (i+1)) c:=by
 have l:xs=xs.take i++(y::xs.drop (i+1)):=by
  rw[<-(yp.1 j).2,List.getElem_cons_drop,ybk]
 rw[l]at h;obtain⟨a,r,rfl,e,f⟩:=Zzk h;simp only[aC]at f;obtain⟨b,c,rfl,g,m⟩:=f;exact⟨a,b,c,rfl,cS _ _ e,g,Wr _ _ g,e,m⟩
theorem jq{J:Sg}:∀{xs:yL Pl}{us:yL yh},aC J (xs.map .p) us↔ak J.w J.aV xs us
 |[],us=>by simp[aC,ak]
 |x::xs,us=>by
  simp only[yaf,aC,ak,yG];constructor
  .rintro⟨a,b,rfl,c,e⟩;exact⟨a,b,rfl,c,jq.1 e⟩
  .rintro⟨a,b,rfl,c,e⟩;exact⟨a,b,rfl,c,jq.2 e⟩
theorem MT{P:yg}{t:yb}(h:(P.underlying t).isSome=ae)(w:yad):(isAgg t).run P w=.ok (Wa P t) w:=by
 cases c:P.underlying t with
 |none=>simp[c]at h
 |some d=>
  unfold isAgg Wa;rw[Sem.run_bind,run_underlying c w];cases d <;> simp[c]
theorem Z0{P:yg}{t:yb}(h:(P.info? t).isSome=ae)(w:yad):(sizeOf t).run P w=.ok (P.cellsOf t) w:=by
 cases c:P.info? t with
 |none=>simp[c]at h
 |some i=>simp[sizeOf,typeInfo,c,Program.cellsOf]
theorem jr{P:yg}{J:Sg}{t:yb}{d:Dv}{cs:Array yh}{a b c:yL yh}(hcs:cs.toList=a++(b++c))(f:yG J d b)(hs:P.cellsOf t=d.size)(hi:(P.info? t).isSome=ae)
 (hu:(P.underlying t).isSome=ae) (ha:Wa P t=d.isAgg) (l:d.size≠0):∃v,(part t cs a.length).run P J.w=.ok v J.w/\yH J d v:=by
 have g:b.length=d.size:=Wr _ _ f;unfold part;simp only[Sem.run_bind,MT hu,Result.andThen_ok]
 cases e:d.isAgg with
 |true=>
  rw[ha,e];simp only[if_true,Sem.run_bind,Z0 hi,Result.andThen_ok,Sem.run_pure];refine⟨_,rfl, ?_⟩;rw[Ya e];refine⟨_,rfl, ?_⟩
  have:(cs.extract a.length (a.length+P.cellsOf t)).toList=b:=by
   rw[Array.toList_extract,hcs,hs, <-g,List.extract_eq_take_drop];simp
  rw[this]
  exact f
 |false=>
  rw[ha,e];simp only[Bool.false_eq_true,if_false]
  have h:d.size=1:=by
   cases d with
   |p x=>cases x <;> first|rfl|(simp[Dv.isAgg,Pl.isAgg]at e)
   |agg _=>simp[Dv.isAgg]at e
   |arr _ _ _=>simp[Dv.isAgg]at e
   |_=>rfl
  rw[h]at g
  obtain⟨v,rfl⟩:∃v,b=[v]:=by
   match b,g with
   |[v],_=>exact⟨v,rfl⟩
  have j:cs[a.length]? =ab v:=by
   rw[<-ybr,hcs];simp
  rw[j];exact⟨v,rfl,(Zg e).2 f⟩
theorem Zuw{P:yg}{J:Sg}{t:yb}{x d:Dv}{i:Nat}{v:yh}(h:im P t x i=ab d)(l:yH J x v):
 ∃u,(Instr.field t v i).run P J.w=.ok u J.w/\yH J d u:=by
 unfold im at h;split at h
 .rename_i U W s;split at h
  .rename_i y z;split at h
   .rename_i g;cases h;unfold kS at g;split at g
    .rename_i f A;simp only[yi,yT,yE]at g;obtain⟨⟨⟨⟨⟨E,F⟩,G⟩,I⟩,M⟩,Q⟩:=g;rw[Ya rfl]at l;obtain⟨X,rfl,l⟩:=l;simp only[yG,aq]at l;obtain⟨a,b,c,e,S,T,_⟩:=jZ l z;obtain⟨u,j,m⟩:=jr (P:=P) (J:=J) (t:=f.type) (d:=.p y) e (by simpa[yG] using T) F G M I Q;refine⟨u, ?_,m⟩;rw[S, <-E]at j;simp[Instr.field,run_underlying s,A,asAgg,j]
    .cases g
   .cases h
  .cases h
 .rename_i U W s;split at h
  .rename_i y z;split at h
   .rename_i g;cases h;unfold kS at g;split at g
    .rename_i f A;simp only[yi,yT,yE]at g;obtain⟨⟨⟨⟨⟨E,F⟩,G⟩,I⟩,M⟩,Q⟩:=g;rw[Ya rfl]at l;obtain⟨X,rfl,l⟩:=l;simp only[yG]at l;obtain⟨a,b,c,e,S,T,_⟩:=kX l z;obtain⟨u,j,m⟩:=jr (P:=P) (J:=J) (t:=f.type) (d:=d) e T F G M I Q;refine⟨u, ?_,m⟩;rw[S, <-E]at j;simp[Instr.field,run_underlying s,A,asAgg,j]
    .cases g
   .cases h
  .cases h
 .cases h
theorem Addr.bB(b o n:Nat):(⟨b,o,ad⟩:Addr).add n=⟨b,o+n,ad⟩:=Addr.add_lit b o n
theorem te{w:yad}{S:Nat->Nat->Prop}{s:Nat}{xs:yL Pl}{us:yL yh}{b o i:Nat}{y:Pl}(hs:aT s xs)(g:ak w S xs us)(hc:W9 w S b o us)(f:xs[i]? =ab y):
 ∃e,aq w S y e/\W9 w S b (o+i*s) e:=by
 obtain⟨a,e,c,rfl,h,j,_⟩:=jZ g f;have l:i < xs.length:=(yp.1 f).1
 have m:a.length=i*s:=by
  rw[h,aI (V5 hs i),yy,ybi (Nat.le_of_lt l)]
 refine⟨e,j, ?_⟩;have t:=(W9.append (W9.append hc).2).1
 rwa [m]at t
theorem tf{P:yg}{J:Sg}{t:yb}{d:Dv}{b o:Nat}{us:yL yh}(e:yG J d us)(hc:∀(j:Nat)(u:yh),us[j]? =ab u->J.w.cell? ⟨b,o+j,ad⟩=ab u)(hs:P.cellsOf t=d.size)
 (hi:(P.info? t).isSome=ae) (hu:(P.underlying t).isSome=ae) (ha:Wa P t=d.isAgg):∃v,(loadVar t ⟨b,o,ad⟩).run P J.w=.ok v J.w/\yH J d v:=by
 have f:us.length=d.size:=Wr _ _ e;unfold loadVar;simp only[Sem.run_bind,MT hu,Result.andThen_ok]
 cases c:d.isAgg with
 |true=>
  rw[ha,c];have g:=run_loadCells_list (P:=P) J.w ⟨b,o,ad⟩ us (λj u hu=>by rw[Addr.bB];exact hc j u hu);rw[f, <-hs]at g;simp only[if_true,Sem.run_bind,Z0 hi,Result.andThen_ok,g,Sem.run_pure]
  exact⟨_,rfl,(Ya c).2 ⟨_,rfl,by simpa using e⟩⟩
 |false=>
  rw[ha,c];simp only[Bool.false_eq_true,if_false]
  have h:d.size=1:=by
   cases d with
   |p x=>cases x <;> first|rfl|(simp[Dv.isAgg,Pl.isAgg]at c)
   |agg _=>simp[Dv.isAgg]at c
   |arr _ _ _=>simp[Dv.isAgg]at c
   |_=>rfl
  rw[h]at f
  obtain⟨v,rfl⟩:∃v,us=[v]:=by
   match us,f with
   |[v],_=>exact⟨v,rfl⟩
  have:=hc 0 v rfl;simp only[ycl]at this;rw[run_load,this];exact⟨v,rfl,(Zg c).2 e⟩
mutual
theorem kb{f:Nat->yO Nat}:∀(d d':Dv),d.rn f=ab d'->d'.size=d.size/\d'.isAgg=d.isAgg
 |.p x,d',h=>by simp only[Dv.rn,yj]at h;subst h;exact⟨rfl,rfl⟩
 |.elem x,d',h=>by simp only[Dv.rn,yj]at h;subst h;exact⟨rfl,rfl⟩
 |.am id j l,d',h=>by simp only[Dv.rn,yq]at h;obtain⟨i,_,rfl⟩:=h;exact⟨rfl,rfl⟩
 |.own id nn s e,d',h=>by simp only[Dv.rn,yq]at h;obtain⟨i,_,rfl⟩:=h;exact⟨rfl,rfl⟩
 |.view id j l s lo n,d',h=>by simp only[Dv.rn,yq]at h;obtain⟨i,_,rfl⟩:=h;exact⟨rfl,rfl⟩
 |.agg e,d',h=>by
  simp only[Dv.rn,yq]at h;obtain⟨c,m,rfl⟩:=h
  exact⟨by simp only[Dv.size];exact fk e c m,rfl⟩
 |.arr n s e,d',h=>by simp only[Dv.rn,yq]at h;obtain⟨c,_,rfl⟩:=h;exact⟨rfl,rfl⟩
 |.fn g y,d',h=>by simp only[Dv.rn,yq]at h;obtain⟨c,_,rfl⟩:=h;exact⟨rfl,rfl⟩
 |.iface t x,d',h=>by simp only[Dv.rn,yq]at h;obtain⟨c,_,rfl⟩:=h;exact⟨rfl,rfl⟩
 |.bf e,d',h=>by simp only[Dv.rn,yq]at h;obtain⟨c,_,rfl⟩:=h;exact⟨rfl,rfl⟩
 |.mp id,d',h=>by simp only[Dv.rn,yq]at h;obtain⟨c,_,rfl⟩:=h;exact⟨rfl,rfl⟩
 |.cz id,d',h=>by simp only[Dv.rn,yq]at h;obtain⟨c,_,rfl⟩:=h;exact⟨rfl,rfl⟩
 |.cC id _ _,d',h=>by simp only[Dv.rn,yq]at h;obtain⟨c,_,rfl⟩:=h;exact⟨rfl,rfl⟩
 |.pm id _,d',h=>by simp only[Dv.rn,yq]at h;obtain⟨c,_,rfl⟩:=h;exact⟨rfl,rfl⟩
 |.rv id _ _ _ _,d',h=>by simp only[Dv.rn,yq]at h;obtain⟨c,_,rfl⟩:=h;exact⟨rfl,rfl⟩
 |.aW id _ _ _,d',h=>by simp only[Dv.rn,yq]at h;obtain⟨c,_,rfl⟩:=h;exact⟨rfl,rfl⟩
 |.an,d',h=>by simp only[Dv.rn,yj]at h;subst h;exact⟨rfl,rfl⟩
theorem fk{f:Nat->yO Nat}:∀(e c:yL Dv),Dv.bi f e=ab c->Dv.sizes c=Dv.sizes e
 |[],c,h=>by simp only[Dv.bi,yj]at h;subst h;rfl
 |x::r,c,h=>by
  simp only[Dv.bi]at h;split at h
  .rename_i y g j l;cases h;simp only[Dv.sizes];rw[(kb x y j).1,fk r g l]
  .cases h
end
theorem xA{f:Nat->yO Nat}:∀{e c:yL Dv},Dv.bi f e=ab c->c.length=e.length
 |[],c,h=>by simp only[Dv.bi,yj]at h;subst h;rfl
 |x::r,c,h=>by
  simp only[Dv.bi]at h;split at h
  .rename_i y j l g;cases h;simp[xA g]
  .cases h
theorem MU{f:Nat->yO Nat}{s:Nat}:∀{g c:yL Dv},Dv.bi f g=ab c->(∀x,x∈g->x.size=s)->∀x,x∈c->x.size=s
 |[],c,h,_=>by simp only[Dv.bi,yj]at h;subst h;intro x l;cases l
 |x::r,c,h,j=>by
  simp only[Dv.bi]at h;split at h
  .rename_i y E m t;cases h;intro z e
   cases e with
   |head=>rw[(kb x y m).1];exact j x (yay ..)
   |tail _ e=>exact MU t (λw A=>j w (yba _ A)) z e
  .cases h
structure Rn(f:Nat->Option Nat)(J J':Sg):Prop where
 w:J'.w=J.w
 aV:∀(b o:Nat)(v:yh),J.w.cell? ⟨b,o,ad⟩=ab v->J.aV b o->J'.aV b o
 m:∀(id id':Nat),f id=ab id'->∀(a:Option Nat),J.m[id]? =ab a->J'.m[id']? =ab a
 H:∀(id id':Nat),f id=ab id'->∀(e:ar),J.H[id]? =ab e->∃e',J'.H[id']? =ab e'/\e.rn f=ab e'
theorem Rn.cells{f:Nat->yO Nat}{J J':Sg}(h:Rn f J J'):∀(b o:Nat)(v:yh),J.w.cell? ⟨b,o,ad⟩=ab v->J.aV b o->J'.w.cell? ⟨b,o,ad⟩=ab v/\J'.aV b o:=
 λb o v c e=>⟨by rw[h.w];exact c,h.aV b o v c e⟩
theorem Rn.var{f:Nat->yO Nat}{J J':Sg}(h:Rn f J J'){id c:Nat}(g:f id=ab c)(hv:∃d st,J.H[id]? =ab (.var d st)):∃d st,J'.H[c]? =ab (.var d st):=by
 obtain⟨d,st,hv⟩:=hv;obtain⟨m,j,e⟩:=h.H id c g _ hv;simp only[ar.rn,yq]at e;obtain⟨l,_,rfl⟩:=e;exact⟨l,st,j⟩
theorem Rn.map{f:Nat->yO Nat}{J J':Sg}(h:Rn f J J'){id c:Nat}(g:f id=ab c)(hv:∃t aN,J.H[id]? =ab (.map t aN)):∃t aN,J'.H[c]? =ab (.map t aN):=by
 obtain⟨d,st,hv⟩:=hv;obtain⟨l,j,e⟩:=h.H id c g _ hv;simp only[ar.rn,yj]at e;subst e;exact⟨d,st,j⟩
theorem Rn.front{f:Nat->yO Nat}{J J':Sg}(h:Rn f J J'){id g s len c:Nat}{A:yO Addr}(j:f id=ab g)(hv:cL J id s len A c):cL J' g s len A c:=by
 obtain⟨e,z,E,F,G⟩:=hv;obtain⟨T,I,y⟩:=h.H id g j _ E;simp only[ar.rn,yj]at y;subst y;refine⟨e,z,I,F,λM=> ?_⟩;rcases G M with⟨l,t⟩|⟨b,x,l,t,Q,S⟩
 .exact .inl ⟨h.m _ _ j _ l,t⟩
 .exact .inr ⟨b,x,h.m _ _ j _ l,t,by rw[h.w];exact Q,S⟩
theorem Rn.row{f:Nat->yO Nat}{J J':Sg}(h:Rn f J J'){id c v s:Nat}{st:Bool}{e:yb}{d:Dv}(j:f id=ab c)(hv:J.H[id]? =ab (.row v s st e d)):∃d',J'.H[c]? =ab (.row v s st e d'):=by
 obtain⟨m,l,g⟩:=h.H id c j _ hv;simp only[ar.rn,yq]at g;obtain⟨d',_,rfl⟩:=g;exact⟨d',l⟩
theorem Rn.maps{f:Nat->yO Nat}{J J':Sg}(h:Rn f J J'){id c v:Nat}{t u:yb}{l:yL (Pl×yL (Pl×Pl))}(g:f id=ab c)(hv:J.H[id]? =ab (.maps v t u l)):J'.H[c]? =ab (.maps v t u l):=by
 obtain⟨m,j,e⟩:=h.H id c g _ hv;simp only[ar.rn,yj]at e;subst e;exact j
theorem Rn.bA{f:Nat->yO Nat}{J J':Sg}(h:Rn f J J'){id c v:Nat}{l:yL (Pl×Pl)}(g:f id=ab c)(hv:J.H[id]? =ab (.bA v l)):J'.H[c]? =ab (.bA v l):=by
 obtain⟨m,j,e⟩:=h.H id c g _ hv;simp only[ar.rn,yj]at e;subst e;exact j
theorem Rn.rowAt{f:Nat->yO Nat}{J J':Sg}(h:Rn f J J'){id g v s lo c:Nat}{A:yO Addr}(j:f id=ab g)(hv:rowAt J id v s lo A c):rowAt J' g v s lo A c:=by
 obtain⟨y,z,st,e,d,E,F,G⟩:=hv;obtain⟨I,M⟩:=h.row j E;refine⟨y,z,st,e,I,M,F,λhv=> ?_⟩;obtain⟨Q,S⟩:=G hv;refine⟨Q, ?_⟩;rcases S with⟨l,t⟩|⟨b,x,l,t,T⟩
 .exact .inl ⟨h.m _ _ j _ l,t⟩
 .exact .inr ⟨b,x,h.m _ _ j _ l,by rw[h.w];exact t,T⟩
theorem Rn.rowIs{f:Nat->yO Nat}{J J':Sg}(h:Rn f J J'){id c v b o g:Nat}(j:f id=ab c)(hv:rowIs J id v b o g):rowIs J' c v b o g:=by
 obtain⟨s,t,st,e,d,x,y,l⟩:=hv;obtain⟨z,A⟩:=h.row j x;exact⟨s,t,st,e,z,A,y,λhv=>⟨h.m _ _ j _ (l hv).1,(l hv).2⟩⟩
mutual
theorem kc{f:Nat->yO Nat}{J J':Sg}(h:Rn f J J'):∀(d d':Dv)(vs:yL yh),d.rn f=ab d'->yG J d vs->yG J' d' vs
 |.p x,d',vs,j,e=>by
  simp only[Dv.rn,yj]at j;subst j;simp only[yG]at e ⊢
  exact Vd h.cells x vs e
 |.elem x,d',vs,j,e=>by
  simp only[Dv.rn,yj]at j;subst j;simp only[yG]at e ⊢;obtain⟨b,o,T,E,F,G⟩:=e
  exact⟨b,o,T,E,Vd h.cells x T F,G.mono h.cells⟩
 |.am id U yM,d',vs,j,e=>by
  simp only[Dv.rn,yq]at j;obtain⟨i,z,rfl⟩:=j;simp only[yG]at e ⊢;obtain⟨b,E,F,G⟩:=e
  exact⟨b,h.m _ _ z _ E,h.var z F,G⟩
 |.own id nn s I,d',vs,j,e=>by
  simp only[Dv.rn,yq]at j;obtain⟨i,z,rfl⟩:=j;simp only[yG]at e ⊢;obtain⟨E,A,c,F,G,M,X,Y,h7,h8⟩:=e;refine⟨E,A,c,F,G,M,X,Y,λZ=> ?_,h.front z h8⟩;obtain⟨b,o,T,e1,e2,e3⟩:=h7 Z
  exact⟨b,o,T,e1,ax h.cells I T e2,e3.mono h.cells⟩
 |.view id U yM s lo n,d',vs,j,e=>by
  simp only[Dv.rn,yq]at j;obtain⟨i,z,rfl⟩:=j;simp only[yG]at e ⊢;obtain⟨b,c,a,E,F,G⟩:=e
  exact⟨b,c,a,h.m _ _ z _ E,h.var z F,G⟩
 |.agg I,d',vs,j,e=>by
  simp only[Dv.rn,yq]at j;obtain⟨Q,z,rfl⟩:=j;simp only[yG]at e ⊢
  exact eI h I Q vs z e
 |.arr n s I,d',vs,j,e=>by
  simp only[Dv.rn,yq]at j;obtain⟨Q,z,rfl⟩:=j;simp only[yG]at e ⊢
  exact⟨by rw[xA z];exact e.1,MU z e.2.1,eI h I Q vs z e.2.2⟩
 |.fn g cap,d',vs,j,e=>by
  simp only[Dv.rn,yq]at j;obtain⟨Q,z,rfl⟩:=j;simp only[yG]at e ⊢;obtain⟨fs,W,E,h0,F⟩:=e
  exact⟨fs,W,E,h0,dg h cap Q _ z F⟩
 |.iface t x,d',vs,j,e=>by
  simp only[Dv.rn,yq]at j;obtain⟨y,z,rfl⟩:=j;simp only[yG]at e ⊢;obtain⟨v,E,F,G⟩:=e;refine⟨v,E,λha=> ?_,λha=>kc h x y _ z (G (by rw[<-(kb x y z).2];exact ha))⟩;obtain⟨W,e1,e2⟩:=F (by rw[<-(kb x y z).2];exact ha)
  exact⟨W,e1,kc h x y _ z e2⟩
 |.bf I,d',vs,j,e=>by
  simp only[Dv.rn,yq]at j;obtain⟨Q,z,rfl⟩:=j;simp only[yG]at e ⊢;obtain⟨W,E,F⟩:=e
  exact⟨W,E,dg h I Q _ z F⟩
 |.mp id,d',vs,j,e=>by
  simp only[Dv.rn,yq]at j;obtain⟨i,z,rfl⟩:=j;simp only[yG]at e ⊢;obtain⟨b,E,F,G⟩:=e
  exact⟨b,h.m _ _ z _ E,h.map z F,G⟩
 |.cz id,d',vs,j,e=>by
  simp only[Dv.rn,yq]at j;obtain⟨i,z,rfl⟩:=j;simp only[yG]at e ⊢;obtain⟨b,E,⟨v,t,u,l,F⟩,G⟩:=e
  exact⟨b,h.m _ _ z _ E,⟨v,t,u,l,h.maps z F⟩,G⟩
 |.cC id v k,d',vs,j,e=>by
  simp only[Dv.rn,yq]at j;obtain⟨i,z,rfl⟩:=j;simp only[yG]at e ⊢;obtain⟨ob,E,v',t,u,l,F,G,M⟩:=e;refine⟨ob,E,v',t,u,l,h.maps z F,G,λhv=> ?_⟩;rcases M hv with q|⟨b,es,S,en,a1,a2,a3,a4,a5⟩
  .exact .inl q
  .exact .inr ⟨b,es,S,en,h.m _ _ z _ a1,by rw[h.w];exact a2,a3,MM h.cells a4,a5⟩
 |.pm id v,d',vs,j,e=>by
  simp only[Dv.rn,yq]at j;obtain⟨i,z,rfl⟩:=j;simp only[yG]at e ⊢;obtain⟨ob,E,v',l,F,G,M⟩:=e;refine⟨ob,E,v',l,h.bA z F,G,λhv=> ?_⟩;obtain⟨b,q1,q2⟩:=M hv
  exact⟨b,q1,h.m _ _ z _ q2⟩
 |.rv id v s lo n,d',vs,j,e=>by
  simp only[Dv.rn,yq]at j;obtain⟨i,z,rfl⟩:=j;simp only[yG]at e ⊢;obtain⟨A,c,E,F,G,M,X,Y⟩:=e
  exact⟨A,c,E,F,G,M,X,h.rowAt z Y⟩
 |.aW id v U yM,d',vs,j,e=>by
  simp only[Dv.rn,yq]at j;obtain⟨i,z,rfl⟩:=j;simp only[yG]at e ⊢;obtain⟨b,o,E,F⟩:=e
  exact⟨b,o,E,h.rowIs z F⟩
 |.an,d',vs,j,e=>by
  simp only[Dv.rn,yj]at j;subst j;simpa[yG] using e
theorem eI{f:Nat->yO Nat}{J J':Sg}(h:Rn f J J'):∀(l c:yL Dv)(vs:yL yh),Dv.bi f l=ab c->aC J l vs->aC J' c vs
 |[],c,vs,e,j=>by
  simp only[Dv.bi,yj]at e;subst e
  simpa[aC] using j
 |x::s,c,vs,e,j=>by
  simp only[Dv.bi]at e;split at e
  .rename_i y t z A;cases e;simp only[aC]at j ⊢;obtain⟨m,g,E,F,G⟩:=j;exact⟨m,g,E,kc h x y m z F,eI h s t g A G⟩
  .cases e
theorem dg{f:Nat->yO Nat}{J J':Sg}(h:Rn f J J'):∀(s c:yL Dv)(vs:yL yh),Dv.bi f s=ab c->aB J s vs->aB J' c vs
 |[],c,vs,e,j=>by
  simp only[Dv.bi,yj]at e;subst e
  simpa[aB] using j
 |x::t,c,vs,e,j=>by
  simp only[Dv.bi]at e;split at e
  .rename_i y z l A;cases e;simp only[aB]at j ⊢;obtain⟨v,g,E,⟨F,G⟩,I⟩:=j;refine⟨v,g,E,⟨λm=> ?_,λm=>kc h x y _ l (G (by rw[<-(kb x y l).2];exact m))⟩,dg h t z g A I⟩;obtain⟨M,Q,S⟩:=F (by rw[<-(kb x y l).2];exact m);exact⟨M,Q,kc h x y _ l S⟩
  .cases e
end
theorem kf{f:Nat->yO Nat}{J J':Sg}(h:Rn f J J'){d d':Dv}{v:yh}(hd:d.rn f=ab d')(e:yH J d v):yH J' d' v:=by
 obtain⟨g,j⟩:=e;refine⟨λc=> ?_,λc=>kc h d d' _ hd (j (by rw[<-(kb d d' hd).2];exact c))⟩;obtain⟨l,m,s⟩:=g (by rw[<-(kb d d' hd).2];exact c);exact⟨l,m,kc h d d' _ hd s⟩
theorem WP{w:yad}{b o:Nat}{v:yh}(h:w.cell? ⟨b,o,ad⟩=ab v):b < w.heap.size:=World.block_lt_of_cell? w ⟨b,o,ad⟩ h
theorem MV{J J':Sg}(h:bO J J'):∀(l:yL (Pl×Pl))(es:yL MapEntry),fe J l es->fe J' l es
 |[],[],_=>trivial
 |[],_::_,k=>k.elim
 |_::_,[],k=>k.elim
 |q::r,e::es,k=>⟨Y5 h k.1,Y5 h k.2.1,MV h r es k.2.2⟩
theorem VC{J J':Sg}(h:bO J J'){l:yL (Pl×Pl)}{es:yL MapEntry}(k:ff J l es):ff J' l es:=by
 obtain⟨c,p,e,k⟩:=k;exact⟨c,p,e,MV h _ _ k⟩
theorem MW{J J':Sg}(h:bO J J'){b:Nat}(hx:∀c,J.X b c->J'.X b c/\J'.w.heap[c]? =J.w.heap[c]?):∀(l:yL (Pl×yL (Pl×Pl)))(es:yL MapEntry),fR J b l es->fR J' b l es
 |[],[],_=>trivial
 |[],_::_,k=>k.elim
 |_::_,[],k=>k.elim
 |q::r,e::es,k=>by
  obtain⟨j,⟨c,m,s,g,f,t,x,y⟩,z⟩:=k;obtain⟨A,E⟩:=hx c s;exact⟨Y5 h j,⟨c,m,A,g,f,E.trans t,VC h x,y⟩,MW h hx r es z⟩
theorem V6{J J':Sg}(h:bO J J'){a:yO Nat}{e:ar}(hb:∀b,a=ab b->J'.w.heap[b]? =J.w.heap[b]?)(hx:∀b c,a=ab b->J.X b c->J'.X b c/\J'.w.heap[c]? =J.w.heap[c]?)(he:cW J a e):cW J' a e:=by
 cases e with
 |var d st=>
  obtain⟨b,G,t,rfl,g,j,m⟩:=he
  exact⟨b,G,t,rfl,(hb b rfl).trans g,Z7 h d _ j,m⟩
 |log s e I=>
  rcases he with⟨rfl,g⟩|⟨b,x,y,rfl,g,j,m,z,A,F⟩
  .exact .inl ⟨rfl,g⟩
  .exact .inr ⟨b,x,y,rfl,(hb b rfl).trans g,j,m,z,A,ax h.cells I _ F⟩
 |map t aN=>
  obtain⟨b,E,f,rfl,g,j,m⟩:=he
  exact⟨b,E,f,rfl,(hb b rfl).trans g,VC h j,m⟩
 |row v s st e d=>
  obtain⟨N,M,g⟩:=he;refine⟨N,M, ?_⟩;rcases g with g|⟨b,x,y,rfl,g,j,m,z,A⟩
  .exact .inl g
  .exact .inr ⟨b,x,y,rfl,(hb b rfl).trans g,j,m,z,Z7 h d _ A⟩
 |maps v t u aN=>
  obtain⟨b,E,f,rfl,g,⟨l,j,m,z⟩,A,F⟩:=he
  exact⟨b,E,f,rfl,(hb b rfl).trans g,⟨l,j,m,MW h (hx b · rfl) _ _ z⟩,A,F⟩
 |bA v aN=>
  rcases he with he|⟨b,E,f,rfl,g,j,m⟩
  .exact .inl he
  .exact .inr ⟨b,E,f,rfl,(hb b rfl).trans g,VC h j,m⟩
 |gone=>exact he
theorem pK{J:Sg}(ok:Ok J){w':yad}(x:J.w.grownBy w' ad):To J { J with w:=w'}/\Ok { J with w:=w'}:=by
 have j:∀b,b < J.w.heap.size->w'.heap[b]? =J.w.heap[b]? :=λb j=>x.block b j (by simp);have E:∀(id b:Nat),J.m[id]? =ab (ab b)->w'.heap[b]? =J.w.heap[b]? :=λid b h=>j b (ok.lt id b h)
 have y:bO J { J with w:=w'}:=by
  refine⟨λb o v f g=>⟨?_,g⟩,λid b f g=>⟨f,g⟩,λid s len A c f=> ?_,λid b f g=>⟨f,g⟩,λid v s st e d h=>⟨v,st,d,h,ym _,λ_=>⟨rfl,λb z j I=>⟨z,(E id b j).trans I,rfl⟩⟩⟩,λid v t u l h=>⟨v,l,h,ym _,rfl,λ_=>⟨rfl,λb Y G f g=>(E id b f).trans g⟩⟩,λid v l h=>⟨v,l,h,ym _,λ_=>rfl⟩⟩
  .show w'.cell? ⟨b,o,ad⟩=ab v;rw[World.cell?_of_block (w:=J.w) (j b (WP f))];exact f
  .obtain⟨e,M,g,Q,S⟩:=f;refine⟨e,M,g,Q,λT=> ?_⟩;rcases S T with F|⟨b,z,F,U,W,X⟩
   .exact .inl F
   .exact .inr ⟨b,z,F,U,(E id b F).trans W,X⟩
 refine⟨⟨y,rfl,rfl,x.os,x.tape,x.output,x.size,λb f _ _=>j b f,λid b h=>.inl h,ym _,λb _ h=>.inl ⟨b,h⟩⟩,⟨ok.len,ok.inj,λi b h=>yda (ok.lt i b h) x.size,λi e a f g=> ?_,λb h=>ok.new b (ybv x.size h),ok.own,λb c h=>⟨yda (ok.cQ b c h).1 x.size,(ok.cQ b c h).2⟩,ok.one⟩⟩;exact V6 y (λb j=>E i b (by rw[g,j])) (λb c _ h=>⟨h,j c (ok.cQ b c h).1⟩) (ok.cA i e a f g)
theorem xB{J:Sg}(ok:Ok J){b o:Nat}(h:J.B b)(c:∀(id:Nat),J.m[id]? ≠ab (ab b)):J.aV b o:=
 ⟨.inr h,λid _ e _=>absurd e (c id)⟩
def YH(P:yg)(o:Oper)(a:Act)(J:Sg)(d:Dv)(H':yL ar):Prop:=
 ∀(K:Act->yad->Prop)(Q:Exit->Act->yad->Prop),(∀v J',J'.H=H'->To J J'->Ok J'->yH J' d v->K (a.put o.dst v) J'.w)->o.wp P a J.w K Q
theorem Zi{P:yg}{o:Oper}{a:Act}{J:Sg}{d:Dv}{v:yh}(ok:Ok J)(c:(execOp a.eval o).run P J.w=.ok (.value v) J.w)(hd:yH J d v):YH P o a J d J.H:=by
 intro K Q h;unfold Oper.wp;rw[c];exact h v J rfl (To.refl J) ok hd
theorem ZH{P:yg}{o:Oper}{a:Act}{J J':Sg}{d:Dv}{v:yh}(c:(execOp a.eval o).run P J.w=.ok (.value v) J'.w)(to:To J J')(ok:Ok J')(hd:yH J' d v):YH P o a J d J'.H:=by
 intro K Q h;unfold Oper.wp;rw[c];exact h v J' rfl to ok hd
structure bw(x y:Pl):Prop where
 size:x.size=y.size
 agg:x.isAgg=y.isAgg
 cG:∀(w:yad)(S:Nat->Nat->Prop)(vs:List yh),aq w S x vs->aq w S y vs
structure bc(xs ys:List Pl):Prop where
 len:xs.length=ys.length
 sizes:Pl.sizes xs=Pl.sizes ys
 all:∀s,aT s xs->aT s ys
 cG:∀(w:yad)(S:Nat->Nat->Prop)(vs:List yh),ak w S xs vs->ak w S ys vs
theorem bw.refl(x:Pl):bw x x:=⟨rfl,rfl,λ_ _ _ h=>h⟩
theorem bc.refl(x:yL Pl):bc x x:=⟨rfl,rfl,λ_ h=>h,λ_ _ _ h=>h⟩
theorem bc.of_eq{x y:yL Pl}(h:x=y):bc x y:=h ▸ bc.refl x
theorem bc.nil:bc [] []:=bc.refl []
theorem bc.cons{x y:Pl}{xs ys:yL Pl}(h:bw x y)(k:bc xs ys):bc (x::xs) (y::ys) where
 len:=by simp[k.len]
 sizes:=by simp only[Pl.sizes];rw[h.size,k.sizes]
 all s ha:=by
  intro z hz;rcases List.mem_cons.1 hz with rfl|hz
  .rw[<-h.size];exact ha x (yay ..)
  .exact k.all s (λz hz=>ha z (yba _ hz)) z hz
 cG w S vs hr:=by
  simp only[ak]at hr ⊢;obtain⟨us,us',e,h1,h2⟩:=hr;exact⟨us,us',e,h.cG w S us h1,k.cG w S us' h2⟩
theorem bw.trans{x y z:Pl}(h:bw x y)(k:bw y z):bw x z:=⟨h.size.trans k.size,h.agg.trans k.agg,λw S vs r=>k.cG w S vs (h.cG w S vs r)⟩
theorem bc.map{α:Type}{f g:α->Pl}(h:∀x,bw (f x) (g x)):∀(l:yL α),bc (l.map f) (l.map g)
 |[]=>bc.nil
 |x::l=>bc.cons (h x) (bc.map h l)
theorem bw.mf{xs ys:yL Pl}(h:bc xs ys):bw (.agg xs) (.agg ys):=⟨h.sizes,rfl,λw S vs c=>by simp only[aq]at c ⊢;exact h.cG w S vs c⟩
theorem bw.iL{n s:Nat}{xs ys:yL Pl}(h:bc xs ys):bw (.arr n s xs) (.arr n s ys):=
 ⟨rfl,rfl,λw S vs c=>by simp only[aq]at c ⊢;exact⟨by rw[<-h.len];exact c.1,h.all s c.2.1,h.cG w S vs c.2.2⟩⟩
theorem bw.pL{nn:yO Bool}{s:Nat}{xs ys:yL Pl}(h:bc xs ys):bw (.sl nn s xs) (.sl nn s ys):=⟨rfl,rfl,λw S vs g=>by
 simp only[aq]at g ⊢;obtain⟨j,A,c,rfl,l,m,t,x,y⟩:=g;refine⟨h.all s j,A,c,by rw[h.len],by rw[<-h.len];exact l,m,t,x,λf=> ?_⟩;obtain⟨b,o,z,e,r,k⟩:=y (by intro e;subst e;exact f (ybo h.len.symm));exact⟨b,o,z,e,h.cG _ _ _ r,k⟩⟩
theorem bw.iM{t:yb}{x y:Pl}(h:bw x y):bw (.iface t x) (.iface t y):=⟨rfl,rfl,λw S vs f=>by
 simp only[aq]at f ⊢;obtain⟨v,e,g,j⟩:=f;refine⟨v,e,λc=> ?_,λc=>h.cG _ _ _ (j (by rw[h.agg];exact c))⟩;obtain⟨l,m,s⟩:=g (by rw[h.agg];exact c);exact⟨l,m,h.cG _ _ _ s⟩⟩
theorem bw.gH{nn:yO Bool}{s:Nat}{xs ys:yL Pl}(h:bc xs ys):bw (.sl nn s xs) (.sl ad s ys):=⟨rfl,rfl,λw S vs g=>by
 simp only[aq]at g ⊢;obtain⟨j,A,c,rfl,l,m,z,t,x⟩:=g;refine⟨h.all s j,A,c,by rw[h.len],by rw[<-h.len];exact l,m,Yd _,t,λf=> ?_⟩;obtain⟨b,o,y,e,r,k⟩:=x (by intro e;subst e;exact f (ybo h.len.symm));exact⟨b,o,y,e,h.cG _ _ _ r,k⟩⟩
structure Wk(d e:Dv):Prop where
 size:d.size=e.size
 agg:d.isAgg=e.isAgg
 cG:∀(J:Sg)(vs:List yh),yG J d vs->yG J e vs
theorem Wk.refl(d:Dv):Wk d d:=⟨rfl,rfl,λ_ _ h=>h⟩
theorem Wk.of_eq{x y:Dv}(h:x=y):Wk x y:=h ▸ Wk.refl x
theorem Wk.p{x y:Pl}(h:bw x y):Wk (.p x) (.p y):=⟨h.size,h.agg,λJ vs r=>by simp only[yG]at r ⊢;exact h.cG _ _ _ r⟩
theorem MX{J:Sg}{id s:Nat}{nn g:yO Bool}{xs ys:yL Pl}{vs:yL yh}(h:bc xs ys)(j:∀A,ij nn A->ij g A)(r:yG J (.own id nn s xs) vs):yG J (.own id g s ys) vs:=by
 simp only[yG]at r ⊢;obtain⟨l,A,c,m,t,x,y,z,E,F⟩:=r;refine⟨h.all s l,A,c,by rw[<-h.len];exact m,by rw[<-h.len];exact t,x,j A y,z,λf=> ?_,by rw[<-h.len];exact F⟩;obtain⟨b,o,G,e,r,k⟩:=E (by intro e;subst e;exact f (ybo h.len.symm));exact⟨b,o,G,e,h.cG _ _ _ r,k⟩
theorem Wk.own{id s:Nat}{nn:yO Bool}{xs ys:yL Pl}(e:xs=ys):Wk (.own id nn s xs) (.own id ad s ys):=
 ⟨rfl,rfl,λJ vs r=>MX (bc.of_eq e) (λ_ _=>Yd _) r⟩
theorem Wk.mh{id s:Nat}{nn:yO Bool}{xs ys:yL Pl}(e:bc xs ys):Wk (.own id nn s xs) (.own id nn s ys):=
 ⟨rfl,rfl,λJ vs r=>MX e (λ_ h=>h) r⟩
theorem Wk.mq{id s:Nat}{nn:yO Bool}{xs ys:yL Pl}(h:bc xs ys):Wk (.own id nn s xs) (.p (.sl ad s ys)):=by
 refine⟨rfl,rfl,λJ vs r=> ?_⟩;simp only[yG]at r ⊢;obtain⟨e,A,c,f,g,j,l,m,t,x⟩:=r;exact(bw.gH (nn:=nn) h).cG _ _ _ (by simp only[aq];exact⟨e,A,c,f,g,j,l,m,t⟩)
theorem Wk.an{d:Dv}(h:d.isAgg=af)(hs:d.size=1):Wk d .an:=⟨hs,h,λJ vs r=>by simp only[yG];rw[Wr _ _ r,hs]⟩
theorem Wk.dv{d e:Dv}(h:Wk d e){J:Sg}{v:yh}(r:yH J d v):yH J e v:=by
 obtain⟨f,g⟩:=r;refine⟨λc=> ?_,λc=>h.cG _ _ (g (by rw[h.agg];exact c))⟩;obtain⟨j,l,m⟩:=f (by rw[h.agg];exact c);exact⟨j,l,h.cG _ _ m⟩
inductive cu:List Dv->List Dv->Prop where
 |nil:cu [] []
 |cons {d e:Dv} {ds es:List Dv} (h:Wk d e) (k:cu ds es):cu (d::ds) (e::es)
theorem cu.refl:∀(l:yL Dv),cu l l
 |[]=>.nil
 |d::l=>.cons (Wk.refl d) (cu.refl l)
theorem cu.bf{f es:yL Dv}(h:cu f es):Wk (.bf f) (.bf es):=by
 refine⟨rfl,rfl,λJ vs r=> ?_⟩;simp only[yG]at r ⊢;obtain⟨g,e,r⟩:=r;refine⟨g,e, ?_⟩;clear e;generalize g.toList=l at r
 induction h generalizing l with
 |nil=>exact r
 |cons h k j=>
  simp only[aB]at r ⊢;obtain⟨v,c,m,s,t⟩:=r;exact⟨v,c,m,h.dv s,j _ t⟩
theorem cu.vs{e es:yL Dv}(h:cu e es){J:Sg}:∀{l:yL yh},aB J e l->aB J es l:=by
 induction h with
 |nil=>intro l r;exact r
 |cons h k f=>
  intro l r;simp only[aB]at r ⊢;obtain⟨v,c,g,j,m⟩:=r;exact⟨v,c,g,h.dv j,f m⟩
theorem cu.len{c es:yL Dv}(h:cu c es):c.length=es.length:=by
 induction h with
 |nil=>rfl
 |cons _ _ e=>simp[e]
theorem cu.get{f es:yL Dv}(h:cu f es):∀{i:Nat}{e:Dv},es[i]? =ab e->∃d,f[i]? =ab d/\Wk d e:=by
 induction h with
 |nil=>intro i e h;simp at h
 |cons h k g=>
  intro i e c
  cases i with
  |zero=>simp only[ybt,yj]at c ⊢;subst c;exact⟨_,rfl,h⟩
  |succ j=>simp only[ybe]at c ⊢;exact g c
theorem cu.pM{c es:yL Dv}(h:cu c es){J:Sg}{a:Act}(r:ay J c a):ay J es a:=by
 refine⟨by rw[<-h.len];exact r.size,λi e f=> ?_,r.defers⟩;obtain⟨d,g,j⟩:=h.get f;exact j.dv (r.at_ i d g)
theorem cu.agg{c es:yL Dv}(h:cu c es):Wk (.agg c) (.agg es):=by
 have hs:Dv.sizes c=Dv.sizes es:=by
  induction h with
  |nil=>rfl
  |cons h k f=>simp only[Dv.sizes];rw[h.size,f]
 refine⟨hs,rfl,λJ vs r=> ?_⟩;simp only[yG]at r ⊢;clear hs
 induction h generalizing vs with
 |nil=>exact r
 |cons h k f=>
  simp only[aC]at r ⊢;obtain⟨j,g,e,l,m⟩:=r;exact⟨j,g,e,h.cG _ _ l,f _ m⟩
inductive dL:List (Pl×Pl)->List (Pl×Pl)->Prop where
 |nil:dL [] []
 |cons {k v v':Pl} {l m:List (Pl×Pl)} (h:bw v v') (r:dL l m):dL ((k,v)::l) ((k,v')::m)
theorem dL.cG{J:Sg}{l m:yL (Pl×Pl)}(h:dL l m):∀(es:yL MapEntry),fe J l es->fe J m es:=by
 induction h with
 |nil=>intro es h;exact h
 |cons h r c=>
  intro es k
  cases es with
  |nil=>exact k
  |cons e es=>exact⟨k.1,(Wk.p h).dv k.2.1,c es k.2.2⟩
theorem dL.keys{l m:yL (Pl×Pl)}(h:dL l m):m.map (·.1)=l.map (·.1):=by
 induction h with
 |nil=>rfl
 |cons h r c=>rw[yaf,yaf,c]
theorem dL.perm{l l':yL (Pl×Pl)}(p:l.Perm l'):∀{m:yL (Pl×Pl)},dL l m->∃m',m.Perm m'/\dL l' m':=by
 induction p with
 |nil=>intro m h;exact⟨m,.refl _,h⟩
 |cons x p f=>
  intro m h
  cases h with
  |cons h r=>
   obtain⟨m',g,j⟩:=f r
   exact⟨_,g.cons _,.cons h j⟩
 |swap x y l=>
  intro m h
  cases h with
  |cons h r=>
   cases r with
   |cons s r=>exact⟨_,.swap _ _ _,.cons s (.cons h r)⟩
 |trans p q c e=>
  intro m h;obtain⟨G,t,z⟩:=c h;obtain⟨A,E,F⟩:=e z;exact⟨A,t.trans E,F⟩
theorem dL.any{J:Sg}{l m:yL (Pl×Pl)}(h:dL l m){es:yL MapEntry}(k:ff J l es):ff J m es:=by
 obtain⟨j,p,c,r⟩:=k;obtain⟨e,f,g⟩:=dL.perm p.symm h;exact⟨e,f.symm,by rw[h.keys];exact c,g.cG _ r⟩
inductive dI:ar->ar->Prop where
 |refl (e:ar):dI e e
 |var {d d':Dv} {st:Bool} (h:Wk d d'):dI (.var d st) (.var d' st)
 |log {s:Nat} {e:yb} {xs ys:List Pl} (h:bc xs ys):dI (.log s e xs) (.log s e ys)
 |map {t:yb} {l m:List (Pl×Pl)} (h:dL l m):dI (.map t l) (.map t m)
 |perm {t:yb} {l m:List (Pl×Pl)} (h:l.Perm m):dI (.map t l) (.map t m)
 |row {v s:Nat} {st:Bool} {e:yb} {d d':Dv} (h:Wk d d'/\aJ d s=aJ d' s):dI (.row v s st e d) (.row v s st e d')
 |lock {v s:Nat} {st:Bool} {e:yb} {d:Dv}:dI (.row v s st e d) (.row v s af e d)
 |bS {d:Dv} {st:Bool}:dI (.var d st) (.var d af)
 |kg {d d':Dv} {st:Bool} (h:Wk d d'):dI (.var d st) (.var d' af)
 |shr {v s n N:Nat} {e:yb} {xs:List Pl} (h:n<=N):dI (.row v s ae e (.p (.arr N s xs))) (.row v s ae e (.p (.arr n s (xs.take n))))
inductive ca:List ar->List ar->Prop where
 |nil:ca [] []
 |cons {e f:ar} {es fs:List ar} (h:dI e f) (k:ca es fs):ca (e::es) (f::fs)
theorem ca.refl:∀(l:yL ar),ca l l
 |[]=>.nil
 |d::l=>.cons (.refl d) (ca.refl l)
theorem ca.len{c es:yL ar}(h:ca c es):c.length=es.length:=by
 induction h with
 |nil=>rfl
 |cons _ _ e=>simp[e]
theorem ca.get{f es:yL ar}(h:ca f es):∀{i:Nat}{d:ar},f[i]? =ab d->∃e,es[i]? =ab e/\dI d e:=by
 induction h with
 |nil=>intro i e h;simp at h
 |cons h k g=>
  intro i e c
  cases i with
  |zero=>simp only[ybt,yj]at c ⊢;subst c;exact⟨_,rfl,h⟩
  |succ j=>simp only[ybe]at c ⊢;exact g c
theorem ca.back{f es:yL ar}(h:ca f es):∀{i:Nat}{e:ar},es[i]? =ab e->∃d,f[i]? =ab d/\dI d e:=by
 induction h with
 |nil=>intro i e h;simp at h
 |cons h k g=>
  intro i e c
  cases i with
  |zero=>simp only[ybt,yj]at c ⊢;subst c;exact⟨_,rfl,h⟩
  |succ j=>simp only[ybe]at c ⊢;exact g c
theorem dI.bg{e f:ar}(h:dI e f)(o:Nat)(k:e.bg o):f.bg o:=by
 cases h with
 |log h=>simpa only[ar.bg,h.len] using k
 |lock=>exact⟨rfl,k.2⟩
 |row h=>exact⟨k.1,by rw[<-h.2];exact k.2⟩
 |shr _=>exact absurd k.1 (by simp)
 |bS=>rfl
 |kg _=>rfl
 |_=>exact k
theorem MY{w:yad}{S:Nat->Nat->Prop}{s:Nat}:∀{xs:yL Pl}{vs:yL yh},(∀x,x∈xs->x.size=s)->ak w S xs vs->∀(n:Nat),n<=xs.length->ak w S (xs.take n) (vs.take (n*s))
 |[],vs,_,h,n,c=>by
  have:n=0:=by simpa using c
  subst this;simp only[ak]at h;subst h
  simp[ak]
 |x::r,vs,hs,h,0,_=>by simp[ak]
 |x::r,vs,hs,h,n+1,c=>by
  simp only[ak]at h;obtain⟨f,e,rfl,g,j⟩:=h;have l:f.length=s:=by rw[WR _ _ g];exact hs x (yay ..)
  simp only[List.take_succ_cons,ak];refine⟨f,e.take (n*s), ?_,g,MY (λy m=>hs y (yba _ m)) j n (by simpa using c)⟩;rw[List.take_append,l,ybd,Nat.one_mul,List.take_of_length_le (by omega)];congr 2;omega
theorem ca.dh:∀{l:yL ar}{i:Nat}{e f:ar},l[i]? =ab e->dI e f->ca l (l.set i f)
 |[],_,_,_,h,_=>by simp at h
 |x::l,0,e,f,h,k=>by
  simp only[ybt,yj]at h;subst h
  exact .cons k (ca.refl l)
 |x::l,i+1,e,f,h,k=>by
  simp only[ybe]at h;exact .cons (.refl x) (ca.dh h k)
theorem js{J:Sg}(ok:Ok J){H':yL ar}(h:ca J.H H'):To J { J with H:=H'}/\Ok { J with H:=H'}:=by
 have aV:∀b o,J.aV b o->({ J with H:=H'}:Sg).aV b o:=λb o hs=>⟨hs.1,λid e z F=>by
  obtain⟨d,Q,j⟩:=h.back F;exact j.bg o (hs.2 id d z Q)⟩
 have U:bO J { J with H:=H'}:=by
  refine⟨λb o v z F=>⟨z,aV b o F⟩,λid b z F=>⟨z, ?_⟩,λid s len A c z=> ?_,λid b z F=>⟨z, ?_⟩,λid v s st e d z=> ?_,λid v t u l z=> ?_,λid v l z=> ?_⟩
  .obtain⟨d,st,F⟩:=F;obtain⟨e,Q,j⟩:=h.get F
   cases j with
   |refl=>exact⟨d,st,Q⟩
   |var f=>exact⟨_,_,Q⟩
   |bS=>exact⟨_,_,Q⟩
   |kg _=>exact⟨_,_,Q⟩
  .obtain⟨e,ys,F,Q⟩:=z;obtain⟨X,j,f⟩:=h.get F
   cases f with
   |refl=>exact⟨e,ys,j,Q⟩
   |log h6=>exact⟨_,_,j,by rw[<-h6.len];exact Q⟩
  .obtain⟨t,aN,F⟩:=F;obtain⟨X,j,f⟩:=h.get F
   cases f with
   |refl=>exact⟨t,aN,j⟩
   |map h6=>exact⟨_,_,j⟩
   |perm h6=>exact⟨_,_,j⟩
  .obtain⟨X,j,f⟩:=h.get z
   cases f with
   |refl=>exact⟨v,st,d,j,ym _,λ_=>⟨rfl,λb g _ W=>⟨g,W,rfl⟩⟩⟩
   |row h6=>exact⟨v,st,_,j,ym _,λ_=>⟨rfl,λb g _ W=>⟨g,W,rfl⟩⟩⟩
   |shr _=>exact⟨v,ae,_,j,ym _,λ_=>⟨rfl,λb g _ W=>⟨g,W,rfl⟩⟩⟩
   |lock=>exact⟨v,af,_,j,ym _,λ_=>⟨rfl,λb g _ W=>⟨g,W,rfl⟩⟩⟩
  .obtain⟨X,j,f⟩:=h.get z
   cases f with
   |refl=>exact⟨v,l,j,ym _,rfl,λ_=>⟨rfl,λ_ _ _ _ h=>h⟩⟩
  .obtain⟨X,j,f⟩:=h.get z
   cases f with
   |refl=>exact⟨v,l,j,ym _,λ_=>rfl⟩
 refine⟨⟨U,rfl,rfl,rfl,rfl,rfl,ym _,λ_ _ _ _=>rfl,λ_ _ h=>.inl h,ym _,λb _ h=>.inl ⟨b,h⟩⟩,⟨by show J.m.length=H'.length;rw[ok.len,h.len],ok.inj,ok.lt,λi e a z F=> ?_,ok.new,ok.own,λb c hx=> ?_,ok.one⟩⟩
 case refine_2=>
  obtain⟨x1,x2,x3,i,e,x4,x5,x6⟩:=ok.cQ b c hx;obtain⟨X,j,f⟩:=h.get x5;refine⟨x1,x2,x3,i,X,x4,j, ?_⟩;cases f <;> first|exact x6|cases x6
 obtain⟨d,Q,j⟩:=h.back z;have T:=V6 U (λb _=>rfl) (λb c _ h=>⟨h,rfl⟩) (ok.cA i d a Q F)
 cases j with
 |refl=>exact T
 |var f=>
  obtain⟨b,cs,t,E,y,M,I⟩:=T
  exact⟨b,cs,t,E,y,by rw[<-f.size];exact f.cG _ _ M,by rw[<-f.size];exact I⟩
 |log f=>
  rcases T with⟨E,y⟩|⟨b,g,S,E,y,M,I,Y,e6,Z⟩
  .subst y;exact .inl ⟨E,ybo f.len.symm⟩
  .exact .inr ⟨b,g,S,E,y,M,by rw[<-f.len];exact I,Y,f.all _ e6,by rw[<-f.len];exact f.cG _ _ _ Z⟩
 |map f=>
  obtain⟨b,es,G,E,y,M,I⟩:=T
  exact⟨b,es,G,E,y,f.any M,I⟩
 |perm f=>
  obtain⟨b,es,G,E,y,⟨l',p,nd,r⟩,I⟩:=T
  exact⟨b,es,G,E,y,⟨l',p.trans f,(f.map _).nodup_iff.1 nd,r⟩,I⟩
 |row f=>
  obtain⟨N,E,y⟩:=T;refine⟨N,by rw[<-f.2];exact E, ?_⟩;rcases y with y|⟨b,g,S,M,I,Y,e6,Z,e8⟩
  .exact .inl y
  .exact .inr ⟨b,g,S,M,I,Y,e6,Z,f.1.cG _ _ e8⟩
 |lock=>exact T
 |bS=>exact T
 |kg f=>
  obtain⟨b,cs,t,E,y,M,I⟩:=T
  exact⟨b,cs,t,E,y,by rw[<-f.size];exact f.cG _ _ M,by rw[<-f.size];exact I⟩
 |shr f=>
  obtain⟨N0,E,y⟩:=T;simp only[aJ,yW,yj]at E;subst E;refine⟨_,yW rfl, ?_⟩;rcases y with⟨y,M⟩|⟨b,g,S,M,I,Y,e6,Z,e8⟩
  .exact .inl ⟨y,by omega⟩
  .refine .inr ⟨b,g,S,M,I,Y,by omega,Z, ?_⟩;simp only[yG,aq]at e8 ⊢;obtain⟨q1,q2,q3⟩:=e8;refine⟨by rw[yy];omega,λx hx=>q2 x (List.mem_of_mem_take hx), ?_⟩;have:=MY q2 q3 _ (show _<=_ from by rw[q1];exact f)
   rw[List.take_take,ybi (Nat.mul_le_mul_right _ f)]at this;exact this
theorem Pl.ck:∀(xs:yL Pl),Pl.cy xs=xs.map Pl.soft
 |[]=>rfl
 |x::r=>by rw[Pl.cy,Pl.ck r];rfl
mutual
theorem kh:∀(x:Pl),bw x x.soft
 |.int _ _=>bw.refl _
 |.bool _=>bw.refl _
 |.str _=>bw.refl _
 |.bH=>bw.refl _
 |.fn0=>bw.refl _
 |.dy=>bw.refl _
 |.bR=>bw.refl _
 |.fQ _=>bw.refl _
 |.agg c=>by rw[Pl.soft];exact bw.mf (cq c)
 |.arr n s c=>by rw[Pl.soft];exact bw.iL (cq c)
 |.sl nn s c=>by rw[Pl.soft];exact bw.gH (bc.refl _)
 |.iface t x=>by rw[Pl.soft];exact bw.iM (kh x)
theorem cq:∀(xs:yL Pl),bc xs (Pl.cy xs)
 |[]=>bc.nil
 |x::r=>by rw[Pl.cy];exact bc.cons (kh x) (cq r)
end
theorem xC(x:Pl):x.soft.size=x.size:=(kh x).size.symm
theorem ca.append{a b c d:yL ar}(h:ca a b)(k:ca c d):ca (a++c) (b++d):=by
 induction h with
 |nil=>exact k
 |cons h _ e=>exact .cons h e
theorem ca.bD{e f:ar}:∀(l:yL ar)(i:Nat),dI e f->ca (l.set i e) (l.set i f)
 |[],_,_=>.nil
 |x::l,0,h=>.cons h (ca.refl l)
 |x::l,i+1,h=>.cons (.refl x) (ca.bD l i h)
theorem bc.bD{x y:Pl}(h:bw x y):∀(l:yL Pl)(i:Nat),bc (l.set i x) (l.set i y)
 |[],_=>.nil
 |z::l,0=>.cons h (bc.refl l)
 |z::l,i+1=>.cons (bw.refl z) (bc.bD h l i)
theorem tg{P:yg}{o:Oper}{a:Act}{J:Sg}{d d':Dv}{H1 H2:yL ar}(h:YH P o a J d H1)(hd:Wk d d')(hH:ca H1 H2):YH P o a J d' H2:=by
 intro K Q j;refine h K Q λv J1 l c e f=> ?_;obtain⟨to,g⟩:=js e (H':=H2) (by rw[l];exact hH);exact j v { J1 with H:=H2} rfl (c.trans to) g (hd.dv (Y5 to.leaf f))
theorem xD{J:Sg}:∀{c:yL Dv}{vs:yL yh},aB J c vs->vs.length=c.length
 |[],vs,h=>by simp only[aB]at h;subst h;rfl
 |d::c,vs,h=>by
  simp only[aB]at h;obtain⟨v,e,rfl,_,f⟩:=h;simp[xD f]
theorem xE{J:Sg}:∀{e:yL Dv}{vs:yL yh}{i:Nat}{d:Dv},aB J e vs->e[i]? =ab d->∃v,vs[i]? =ab v/\yH J d v
 |[],vs,i,d,_,c=>by simp at c
 |x::e,vs,i,d,h,c=>by
  simp only[aB]at h;obtain⟨v,f,rfl,g,j⟩:=h
  cases i with
  |zero=>
   simp only[ybt,yj]at c;subst c
   exact⟨v,rfl,g⟩
  |succ i=>
   simp only[ybe]at c ⊢;exact xE j c
theorem Vi{J:Sg}:∀{c es:yL Dv}{vs us:yL yh},aB J c vs->aB J es us->aB J (c++es) (vs++us)
 |[],es,vs,us,h,k=>by simp only[aB]at h;subst h;simpa using k
 |d::c,es,vs,us,h,k=>by
  simp only[aB]at h;obtain⟨v,e,rfl,f,g⟩:=h;simp only[yaa,aB];exact⟨v,e++us,rfl,f,Vi g k⟩
theorem xF{J:Sg}{α:Type}(f:α->Dv)(g:α->yh)(h:∀x,yH J (f x) (g x)):∀(l:yL α),aB J (l.map f) (l.map g)
 |[]=>by simp[aB]
 |x::l=>by
  simp only[yaf,aB];exact⟨g x,l.map g,rfl,h x,xF f g h l⟩
theorem th{w:yad}{S:Nat->Nat->Prop}{s:Nat}{xs:yL Pl}{A:yO Addr}{c l h:Nat}(hs:aT s xs)(Y:xs.length<=c)(y:c<=maxLen)(f:A=ad->c=0)
 (z:xs≠[]->∃b o us,A=ab ⟨b,o,ad⟩/\ak w S xs us/\W9 w S b o us) (h1:l<=h) (h2:h<=xs.length):
 aT s ((xs.take h).drop l)/\((xs.take h).drop l).length=h - l/\h - l<=c - l/\c - l<=maxLen/\(if c=l then A else A.map (·.add (l*s))).isSome=A.isSome/\
  ((if c=l then A else A.map (·.add (l*s)))=ad->c - l=0)/\
  ((xs.take h).drop l≠[]->∃b o us,(if c=l then A else A.map (·.add (l*s)))=ab ⟨b,o,ad⟩/\ak w S ((xs.take h).drop l) us/\W9 w S b o us):=by
 have x:((xs.take h).drop l).length=h - l:=by rw[List.length_drop,yy,ybi h2]
 refine⟨ta (V5 hs _) _,x,by omega,by omega, ?_, ?_,λg=> ?_⟩
 .split
  .rfl
  .simp
 .split
  .omega
  .intro E;have j:A=ad:=by simpa using E
   have:=f j;omega
 .have F:l < h:=by
   rcases yck l h with h3|h3
   .exact h3
   .exact absurd (ybo (by rw[x];omega)) g
  have m:xs≠[]:=by
   rintro rfl;simp at h2;omega
  obtain⟨b,o,us,rfl,h3,G⟩:=z m;have I:¬c=l:=by omega
  rw[yX I]
  have e:xs=xs.take l++((xs.take h).drop l++xs.drop h):=by
   have M:(xs.take h).drop l++xs.drop h=xs.drop l:=by
    have:xs.drop l=(xs.take h++xs.drop h).drop l:=by rw[ybk]
    rw[this,List.drop_append_of_le_length (by rw[yy];omega)]
   rw[M,ybk]
  rw[e]at h3;obtain⟨Q,Z,rfl,T,U⟩:=Yh h3;obtain⟨W,u4,rfl,X,h8⟩:=Yh U
  have t:Q.length=l*s:=by
   rw[aG _ _ T,aI (V5 hs _),yy,ybi (by omega)]
  refine⟨b,o+l*s,W,by simp[Addr.bB],X, ?_⟩;have:=(W9.append (W9.append G).2).1
  rwa [t]at this
theorem mv{P:yg}{w:yad}(isSlice:Bool)(len cap:Nat)(lo hi:yO yh)(l h:yO Int)(hl:lo=ad/\l=ad\/∃k i,lo=ab (.int k i)/\l=ab i)
 (m:hi=ad/\h=ad\/∃k i,hi=ab (.int k i)/\h=ab i) (hc:aY (Xf len l h)) (zV:len<=cap):
 ∃a b,(Instr.sliceBounds isSlice len cap lo hi ad).run P w=.ok (a,b,cap) w/\a<=b/\b<=len/\a=(l.getD 0).toNat/\b=(h.getD (len:Int)).toNat:=by
 rcases hl with⟨rfl,rfl⟩|⟨k,i,rfl,rfl⟩ <;> rcases m with⟨rfl,rfl⟩|⟨t,c,rfl,rfl⟩
 .exact⟨0,len,by simp[Instr.sliceBounds],Nat.zero_le _,ym _,rfl,by simp⟩
 .obtain⟨e,g,_⟩:=hc;refine⟨0,c.toNat, ?_,Nat.zero_le _,by omega,rfl,rfl⟩;have f:0<=c/\c<=(cap:Int):=⟨e,by omega⟩;simp[Instr.sliceBounds,Instr.sliceBound,asIntOf,f]
 .obtain⟨e,g,_⟩:=hc;refine⟨i.toNat,len, ?_,by omega,ym _,rfl,by simp⟩;have f:0<=i/\i<=(len:Int):=⟨e,g⟩;simp[Instr.sliceBounds,Instr.sliceBound,asIntOf,f]
 .obtain⟨e,g,x,_⟩:=hc;refine⟨i.toNat,c.toNat, ?_,by omega,by omega,rfl,rfl⟩;have f:0<=c/\c<=(cap:Int):=⟨by omega,by omega⟩;have s:0<=i/\i<=(c.toNat:Int):=⟨e,by omega⟩;have j:i<=max c 0:=by omega
  simp[Instr.sliceBounds,Instr.sliceBound,asIntOf,f,e,j]
theorem ti{α:Type}(xs:yL α)(l h:yO Int)(hc:aY (Xf xs.length l h)):V4 xs l h=(xs.take ((h.getD (xs.length:Int)).toNat)).drop ((l.getD 0).toNat):=by
 cases l <;> cases h <;> simp[V4]
theorem YT{P:yg}{J:Sg}{ts:yL Dv}{a:Act}(c:ay J ts a){x:yO yo}{l:yO Int}(h:fU P ts x=ab l):
 x.map a.eval=ad/\l=ad\/∃k i,x.map a.eval=ab (.int k i)/\l=ab i:=by
 unfold fU at h;split at h
 .cases h;exact .inl ⟨rfl,rfl⟩
 .rename_i y;split at h
  .rename_i k i e;cases h;have:=Zh (P:=P) c 0 y;rw[e]at this;exact .inr ⟨k,i,by simp[ZG this],rfl⟩
  .cases h
end Go.Ev
end
section
namespace Go.Ev
section
variable{P:yg}{o:Oper}{a:Act}{J:Sg}{ts:yL Dv}{hs hs':yL aj}{C:yL Prop}{d:Dv}
theorem MZ{e:yb}{t:yb}{s:Nat}{xs:yL Pl}{A:yO Addr}{c:Nat}{k:IntKind}{i:Int}{y:Pl}(ok:Ok J)(hu:P.underlying t=ab (.slice e))(he:P.cellsOf e=s)
 (hi:(P.info? e).isSome=ae) (hs:aT s xs) (j:xs≠[]->∃b o us,A=ab ⟨b,o,ad⟩/\ak J.w J.aV xs us/\W9 J.w J.aV b o us) (l:0<=i) (h:xs[i.toNat]? =ab y):
 ∃v,(Instr.indexAt t (.slice A xs.length c) (.int k i)).run P J.w=.ok v J.w/\yH J (.elem y) v:=by
 have f:i.toNat < xs.length:=(yp.1 h).1
 have g:xs≠[]:=by
  rintro rfl;simp at f
 obtain⟨b,o,us,rfl,m,x⟩:=j g;obtain⟨z,E,F⟩:=te hs m x h;refine⟨.pointer (ab ⟨b,o+i.toNat*s,ad⟩), ?_, ?_⟩
 .have G:0<=i/\i < (xs.length:Int):=⟨l,by omega⟩;simp[Instr.indexAt,asIntOf,run_underlying hu,G,Z0 hi,he,Addr.bB]
 .rw[Zg (by rfl)];simp only[yG];exact⟨b,_,z,rfl,E,F⟩
theorem pN{y:Pl}{v:yh}(h:yH J (.elem y) v):∃b o us,v=.pointer (ab ⟨b,o,ad⟩)/\aq J.w J.aV y us/\W9 J.w J.aV b o us:=by
 rw[Zg (by rfl)]at h;simpa[yG] using h
theorem kY{id c:Nat}{yM:yL Nat}{v:yh}(h:yH J (.am id c yM) v):
 ∃b,J.m[id]? =ab (ab b)/\(∃d st,J.H[id]? =ab (.var d st))/\v=.pointer (ab ⟨b,c,ad⟩):=by
 rw[Zg (by rfl)]at h;simpa[yG] using h
theorem mw{id e s lo n:Nat}{yM:yL Nat}{v:yh}(h:yH J (.view id e yM s lo n) v):
 ∃b c a,J.m[id]? =ab (ab b)/\(∃d st,J.H[id]? =ab (.var d st))/\v=.slice (ab a) n c/\n<=c/\c<=maxLen/\(0 < n->a=⟨b,e+lo*s,ad⟩):=by
 rw[Zg (by rfl)]at h;simpa[yG] using h
theorem jt{id v s lo n:Nat}{u:yh}(h:yH J (.rv id v s lo n) u):
 ∃A c,u=.slice A n c/\n<=c/\c<=maxLen/\(A=ad->c=0)/\(0 < n->∃b o,A=ab ⟨b,o,ad⟩)/\rowAt J id v s lo A c:=by
 rw[Zg (by rfl)]at h;simpa[yG] using h
theorem tj{id v c:Nat}{yM:yL Nat}{u:yh}(h:yH J (.aW id v c yM) u):∃b o,u=.pointer (ab ⟨b,o,ad⟩)/\rowIs J id v b o c:=by
 rw[Zg (by rfl)]at h;simpa[yG] using h
theorem xG{id v c b o:Nat}{yM:yL Nat}(h:rowIs J id v b o c):yH J (.aW id v c yM) (.pointer (ab ⟨b,o,ad⟩)):=by
 rw[Zg (by rfl)];simp only[yG];exact⟨b,o,rfl,h⟩
theorem xH{id v b o c k:Nat}(h:rowIs J id v b o c):rowIs J id v b (o+k) (c+k):=by
 obtain⟨j,s,st,e,d,l,m,f⟩:=h;exact⟨j,s,st,e,d,l,m,λg=>⟨(f g).1,by rw[(f g).2]⟩⟩
theorem ZGv{id v s lo c b o:Nat}(h:rowAt J id v s lo (ab ⟨b,o,ad⟩) c)(hc:0 < c):rowIs J id v b o (lo*s):=by
 obtain⟨g,j,st,e,d,l,m,t⟩:=h;refine⟨g,j,st,e,d,l,m,λx=> ?_⟩;obtain⟨_,y⟩:=t x;rcases y with⟨_,f,_⟩|⟨E,z,f,F,G,A⟩
 .cases f
 .have:=A hc;cases this;exact⟨f,rfl⟩
theorem NA{id v s lo c l:Nat}{A:yO Addr}(h:rowAt J id v s lo A c)(hl:l<=c):rowAt J id v s (lo+l) (if c=l then A else A.map (·.add (l*s))) (c - l):=by
 obtain⟨m,t,st,e,d,x,y,z⟩:=h;refine⟨m,t,st,e,d,x,y,λE=> ?_⟩;obtain⟨F,G⟩:=z E;refine⟨F, ?_⟩;rcases G with⟨f,rfl,j⟩|⟨b,g,f,j,I,M⟩
 .exact .inl ⟨f,by simp,by omega⟩
 .refine .inr ⟨b,g,f,j,by rw[I];congr 1;omega,λQ=> ?_⟩;rw[yX (by omega),M (by omega)];simp[Addr.bB,ybd]
theorem NB{id v s lo n c l h:Nat}{A:yO Addr}(h2:n<=c)(h3:c<=maxLen)(h4:A=ad->c=0)(h5:0 < c->∃b o,A=ab ⟨b,o,ad⟩)(h6:rowAt J id v s lo A c)(hl:l<=h)(g:h<=c):
 yH J (.rv id v s (lo+l) (h - l)) (.slice (if c=l then A else A.map (·.add (l*s))) (h - l) (c - l)):=by
 rw[Zg (by rfl)];simp only[yG];refine⟨_,_,rfl,by omega,by omega,λf=> ?_,λj=> ?_,NA h6 (by omega)⟩
 .split at f
  .omega
  .have e:A=ad:=by simpa using f
   have:=h4 e;omega
 .obtain⟨b,o,rfl⟩:=h5 (by omega);rw[yX (by omega)];exact⟨b,o+l*s,by simp[Addr.bB]⟩
theorem pO{f:yr}{cap:yL Dv}{v:yh}(h:yH J (.fn f cap) v):∃c cs,v=.func (.func (dQ f)) c cs/\(if f < big then c else cs)= #[]/\aB J cap (c++cs).toList:=by
 rw[Zg (by rfl)]at h;simpa[yG] using h
theorem ZLC{f:yr}{cap:yL Dv}{v:yh}(e:f < big)(h:yH J (.fn f cap) v):∃cs,v=.func (.func f) #[] cs/\aB J cap cs.toList:=by
 obtain⟨l,cs,c,g,j⟩:=pO h;rw[yW e]at g;subst g;unfold dQ at c;rw[yW e]at c;rw[Array.empty_append]at j;exact⟨cs,c,j⟩
theorem Zzl{t:yb}{x ix:yo}(ok:Ok J)(yK:ay J ts a)(ho:o.op=.indexAddr t x ix)(h:aU P o ts hs=ab (C,d,hs'))(hc:aY C):YH P o a J d J.H:=by
 simp only[aU,ho]at h;have l:=Zh (P:=P) yK t x;have f:=Zh (P:=P) yK 0 ix
 have run:∀v,(Instr.indexAt t (a.eval x) (a.eval ix)).run P J.w=.ok v J.w->(execOp a.eval o).run P J.w=.ok (.value v) J.w:=λv G=>by
  simp[execOp,ho,G]
 split at h
 .rename_i e nn s xs k i E g j;rw[g]at l;rw[j]at f;split at h
  .rename_i y Q;split at h
   .rename_i m;simp only[yi,yP]at m;simp only[yj,yl]at h;obtain⟨rfl,rfl,rfl⟩:=h;obtain⟨z,A,c,G,S,U,W,X,T⟩:=Wy l;obtain⟨v,Y,Z⟩:=MZ (k:=k) (c:=c) ok E m.1 m.2 z T hc.1 hc.2.1;exact Zi ok (run v (by rw[G,ZG f];exact Y)) Z
   .cases h
  .cases h
 .rename_i e id nn s xs k i E g j;rw[g]at l;rw[j]at f;split at h
  .rename_i y Q;split at h
   .rename_i m;simp only[yi,yP]at m;simp only[yj,yl]at h;obtain⟨rfl,rfl,rfl⟩:=h;obtain⟨z,A,c,G,S,U,W,X,T,_⟩:=kW l;obtain⟨v,Y,Z⟩:=MZ (k:=k) (c:=c) ok E m.1 m.2 z T hc.1 hc.2.1;exact Zi ok (run v (by rw[G,ZG f];exact Y)) Z
   .cases h
  .cases h
 .rename_i e id F yM s lo n k i E g j;rw[g]at l;rw[j]at f;split at h
  .rename_i m;simp only[yi,yP]at m;simp only[yj,yl]at h;obtain⟨rfl,rfl,rfl⟩:=h;obtain⟨I,z,_⟩:=hc;obtain⟨b,c,aa,hm,G,l,S,U,W⟩:=mw l;have e1:=W (by omega);subst e1;refine Zi (v:=.pointer (ab ⟨b,F+(lo+i.toNat)*s,ad⟩)) ok (run _ ?_) ?_
   .rw[l,ZG f];have M:0<=i/\i < (n:Int):=⟨I,z⟩;simp[Instr.indexAt,asIntOf,run_underlying E,M,Z0 m.2,m.1,Addr.bB,ybd,yci]
   .rw[Zg (by rfl)];simp only[yG];exact⟨b,hm,G,rfl⟩
  .cases h
 .rename_i e id v s lo n k i E g j;rw[g]at l;rw[j]at f;split at h
  .rename_i m;simp only[yi,yP]at m;simp only[yj,yl]at h;obtain⟨rfl,rfl,rfl⟩:=h;obtain⟨I,z,_⟩:=hc;obtain⟨A,c,l,S,U,W,X,T⟩:=jt l;obtain⟨b,o',rfl⟩:=X (by omega);refine Zi (v:=.pointer (ab ⟨b,o'+i.toNat*s,ad⟩)) ok (run _ ?_) ?_
   .rw[l,ZG f];have M:0<=i/\i < (n:Int):=⟨I,z⟩;simp[Instr.indexAt,asIntOf,run_underlying E,M,Z0 m.2,m.1,Addr.bB]
   .rw[ybd];exact xG (xH (ZGv T (by omega)))
  .cases h
 .rename_i n e id v F yM k i E g j;rw[g]at l;rw[j]at f;split at h
  .rename_i m;simp only[yj,yl]at h;obtain⟨rfl,rfl,rfl⟩:=h;obtain⟨I,z,_⟩:=hc;obtain⟨b,o',l,S⟩:=tj l;refine Zi (v:=.pointer (ab ⟨b,o'+i.toNat*P.cellsOf e,ad⟩)) ok (run _ ?_) ?_
   .rw[l,ZG f];have M:0<=i/\i < (n:Int):=⟨I,z⟩;simp[Instr.indexAt,asIntOf,run_underlying E,M,Z0 m,Instr.sureAddr,Addr.bB]
   .exact xG (xH S)
  .cases h
 .rename_i n e id F yM k i E g j;rw[g]at l;rw[j]at f;split at h
  .rename_i m;simp only[yj,yl]at h;obtain⟨rfl,rfl,rfl⟩:=h;obtain⟨I,z,_⟩:=hc;obtain⟨b,hm,G,l⟩:=kY l;refine Zi (v:=.pointer (ab ⟨b,F+i.toNat*P.cellsOf e,ad⟩)) ok (run _ ?_) ?_
   .rw[l,ZG f];have M:0<=i/\i < (n:Int):=⟨I,z⟩;simp[Instr.indexAt,asIntOf,run_underlying E,M,Z0 m,Instr.sureAddr,Addr.bB]
   .rw[Zg (by rfl)];simp only[yG];exact⟨b,hm,G,rfl⟩
  .cases h
 .rename_i n e n' s xs k i E g j;rw[g]at l;rw[j]at f;split at h
  .rename_i y Q;split at h
   .rename_i m;simp only[yi,yP]at m;obtain⟨⟨rfl,m⟩,hk2⟩:=m;simp only[yj,yl]at h;obtain⟨rfl,rfl,rfl⟩:=h;obtain⟨I,z,_⟩:=hc;obtain⟨b,F,us,l,S,U⟩:=pN l;simp only[aq]at S;obtain⟨W,X,T⟩:=S;obtain⟨uy,Y,Z⟩:=te X T U z;have hlt:i.toNat < xs.length:=(yp.1 z).1;refine Zi (v:=.pointer (ab ⟨b,F+i.toNat*s,ad⟩)) ok (run _ ?_) ?_
    .rw[l,ZG f];have M:0<=i/\i < (n:Int):=⟨I,by omega⟩;simp[Instr.indexAt,asIntOf,run_underlying E,M,Z0 hk2,m,Instr.sureAddr,Addr.bB]
    .rw[Zg (by rfl)];simp only[yG];exact⟨b,_,uy,rfl,Y,Z⟩
   .cases h
  .cases h
 .cases h
theorem ZJH{t:yb}{x:yo}{lo hi:yO yo}(ok:Ok J)(y:ay J ts a)(ho:o.op=.slice t x lo hi ad)(h:aU P o ts hs=ab (C,d,hs'))(hc:aY C):YH P o a J d J.H:=by
 simp only[aU,ho]at h;have j:=Zh (P:=P) y t x
 have run:∀v,(Instr.sliceAt t (a.eval x) (lo.map a.eval) (hi.map a.eval) ad).run P J.w=.ok v J.w->(execOp a.eval o).run P J.w=.ok (.value v) J.w:=λv I=>by
  simp[execOp,ho,I]
 split at h
 .rename_i e nn s Q l r E g F G;rw[g]at j;split at h
  .rename_i f;simp only[yi,yP]at f;simp only[yj,yl]at h;obtain⟨rfl,rfl,rfl⟩:=h;obtain⟨h1,A,c,I,z,W,M,Z,X⟩:=Wy j;obtain⟨p,q,m,S,Y,rfl,rfl⟩:=mv (P:=P) (w:=J.w) ae Q.length c _ _ _ _ (YT y F) (YT y G) hc z;obtain⟨k1,T,k3,k4,k5,k6,k7⟩:=th h1 z W Z X S Y;refine Zi ok (run _ (by rw[I];simp[Instr.sliceAt,Instr.slice,run_underlying E,m,Z0 f.2,f.1];rfl)) ?_;rw[ti Q l r hc, <-T];exact Yp k1 (by rw[T];exact k3) k4 (λb m=>by rw[k5];exact M b m) k6 k7
  .cases h
 .rename_i e id nn s Q l r E g F G;rw[g]at j;split at h
  .rename_i f;simp only[yi,yP]at f;simp only[yj,yl]at h;obtain⟨rfl,rfl,rfl⟩:=h;obtain⟨h1,A,c,I,z,W,M,Z,X,_⟩:=kW j;obtain⟨p,q,m,S,Y,rfl,rfl⟩:=mv (P:=P) (w:=J.w) ae Q.length c _ _ _ _ (YT y F) (YT y G) hc z;obtain⟨k1,T,k3,k4,k5,k6,k7⟩:=th h1 z W Z X S Y;refine Zi ok (run _ (by rw[I];simp[Instr.sliceAt,Instr.slice,run_underlying E,m,Z0 f.2,f.1];rfl)) ?_;rw[ti Q l r hc, <-T];exact Yp k1 (by rw[T];exact k3) k4 (λb m=>by rw[k5];exact M b m) k6 k7
  .cases h
 .rename_i e id U yM s lo n l r E g F G;rw[g]at j;split at h
  .rename_i f;simp only[yi,yP]at f;simp only[yj,yl]at h;obtain⟨rfl,rfl,rfl⟩:=h;obtain⟨b,c,aa,hm,I,j,z,W,M⟩:=mw j;obtain⟨p,q,m,S,Y,rfl,rfl⟩:=mv (P:=P) (w:=J.w) ae n c _ _ _ _ (YT y F) (YT y G) hc z;refine Zi ok (run _ (by rw[j];simp[Instr.sliceAt,Instr.slice,run_underlying E,m,Z0 f.2,f.1];rfl)) ?_;rw[Zg (by rfl)];simp only[yG];by_cases hcl:c=(l.getD 0).toNat
   .exact⟨b,c - (l.getD 0).toNat,aa,hm,I,by rw[yW hcl],by omega,by omega,λh0=>absurd h0 (by omega)⟩
   .refine⟨b,c - (l.getD 0).toNat,aa.add ((l.getD 0).toNat*s),hm,I,by rw[yX hcl],by omega,by omega,λh0=> ?_⟩;rw[M (by omega),Addr.bB,ybd,yci]
  .cases h
 .rename_i e id v s lo n l r E g F G;rw[g]at j;split at h
  .rename_i hs'';split at h
   .rename_i f;simp only[yi,yP]at f;simp only[yj,yl]at h;obtain⟨rfl,rfl,rfl⟩:=h;obtain⟨A,c,j,z,W,M,Z,X⟩:=jt j;obtain⟨p,q,m,S,Y,rfl,rfl⟩:=mv (P:=P) (w:=J.w) ae n c _ _ _ _ (YT y F) (YT y G) hc z;refine Zi ok (run _ (by rw[j];simp[Instr.sliceAt,Instr.slice,run_underlying E,m,Z0 f.2,f.1];rfl)) ?_;by_cases hz:0 < (r.getD (n:Int)).toNat - (l.getD 0).toNat
    .obtain⟨b,o',rfl⟩:=Z (by omega);exact NB z W M (λ_=>⟨b,o',rfl⟩) X S (by omega)
    .rw[Zg (by rfl)];simp only[yG];refine⟨_,_,rfl,by omega,by omega,λhA=> ?_,λhp=>absurd hp hz,NA X (by omega)⟩;split at hA
     .omega
     .have hA':A=ad:=by simpa using hA
      have:=M hA';omega
   .cases h
  .cases h
 .rename_i n e n' s Q l r E g F G;rw[g]at j;split at h
  .rename_i f;simp only[yi,yP]at f;obtain⟨⟨⟨rfl,f⟩,hk2⟩,hm⟩:=f;simp only[yj,yl]at h;obtain⟨rfl,rfl,rfl⟩:=h;obtain⟨b,U,us,hx',z,W⟩:=pN j;simp only[aq]at z;obtain⟨M,Z,X⟩:=z;subst M;obtain⟨p,q,m,S,Y,rfl,rfl⟩:=mv (P:=P) (w:=J.w) af Q.length Q.length _ _ _ _ (YT y F) (YT y G) hc (ym _);obtain⟨k1,T,k3,k4,k5,k6,k7⟩:=th (A:=ab ⟨b,U,ad⟩) Z (ym _) hm (λhA=>by cases hA) (λ_=>⟨b,U,us,rfl,X,W⟩) S Y;refine Zi ok (run _ (by rw[hx'];simp[Instr.sliceAt,Instr.sureAddr,run_underlying E,m,Z0 hk2,f];rfl)) ?_;rw[ti Q l r hc, <-T];have:=Yp (J:=J) k1 (by rw[T];exact k3) k4 (jV k5) k6 k7;rw[T]at this ⊢;simpa[apply_ite] using this
  .cases h
 .rename_i n e id U yM l r E g F G;rw[g]at j;split at h
  .rename_i hs'';split at h
   .rename_i f;simp only[yi,yP]at f;obtain⟨f,hm'⟩:=f;simp only[yj,yl]at h;obtain⟨rfl,rfl,rfl⟩:=h;obtain⟨b,hm,I,j⟩:=kY j;obtain⟨p,q,m,S,Y,rfl,rfl⟩:=mv (P:=P) (w:=J.w) af n n _ _ _ _ (YT y F) (YT y G) hc (ym _);refine Zi ok (run _ (by rw[j];simp[Instr.sliceAt,Instr.sureAddr,run_underlying E,m,Z0 f];rfl)) ?_;rw[Zg (by rfl)];simp only[yG];refine⟨b,_,_,hm,I,rfl,by omega,by omega,λh0=> ?_⟩;rw[yX (by omega),Addr.bB]
   .cases h
  .cases h
 .cases h
theorem Zzm{P:yg}{w:yad}(isSlice:Bool)(len cap:Nat){k1 k2 k3:IntKind}{l h m:Int}(c:0<=l)(h1:l<=h)(h2:h<=m)(h3:m<=(cap:Int)):
 (Instr.sliceBounds isSlice len cap (ab (.int k1 l)) (ab (.int k2 h)) (ab (.int k3 m))).run P w=.ok (l.toNat,h.toNat,m.toNat) w:=by
 have e:0<=m/\m<=(cap:Int):=⟨by omega,h3⟩;have f:0<=h/\h<=(m.toNat:Int):=⟨by omega,by omega⟩;have g:0<=l/\l<=(h.toNat:Int):=⟨c,by omega⟩;simp[Instr.sliceBounds,Instr.sliceBound,asIntOf,e,f,g];rw[yW (by omega),yW (by omega)]
theorem ZGx{t:yb}{x:yo}{lo hi:yO yo}{j:yo}(ok:Ok J)(f:ay J ts a)(ho:o.op=.slice t x lo hi (ab j))(h:aU P o ts hs=ab (C,d,hs'))(hc:aY C):YH P o a J d J.H:=by
 simp only[aU,ho]at h;have g:=Zh (P:=P) f t x;split at h
 .rename_i e id v s l0 n l r m I y M Q S;rw[y]at g;split at h
  .rename_i z;simp only[yj,yl]at h;obtain⟨rfl,rfl,rfl⟩:=h;obtain⟨T,U,W,c4,_⟩:=hc;obtain⟨A,c,g,h2,h3,_⟩:=jt g;rcases YT f M with⟨_,q⟩|⟨X,i1,Y,Z⟩
   .cases q
   rcases YT f Q with⟨_,q⟩|⟨k2,i2,e2,q2⟩
   .cases q
   rcases YT f S with⟨_,q⟩|⟨G,i3,e3,q3⟩
   .cases q
   cases Z;cases q2;cases q3;have hb:=Zzm (P:=P) (w:=J.w) ae n c (k1:=X) (k2:=k2) (k3:=G) T U W (by omega:m<=(c:Int))
   have E:∃u,(Instr.sliceAt t (a.eval x) (lo.map a.eval) (hi.map a.eval) (ab (a.eval j))).run P J.w=.ok u J.w:=by
    have F:a.eval j=.int G m:=by simpa using e3
    rw[g,Y,e2,F];exact⟨_,by simp[Instr.sliceAt,Instr.slice,run_underlying I,hb,Z0 z];rfl⟩
   obtain⟨u,E⟩:=E;exact Zi (v:=u) ok (by simp[execOp,ho,E]) Wb
  .cases h
 .cases h
end
end Go.Ev
end
section
namespace Go.Ev
theorem NC(c:Nat):∀(vs:yL yh)(k:Nat)(cs:Array yh),c+k+vs.length<=cs.size->
 ((vs.zipIdx k).foldl (λcs q=>cs.setIfInBounds (c+q.2) q.1) cs).toList=cs.toList.take (c+k)++vs++cs.toList.drop (c+k+vs.length)
 |[],k,cs,_=>by simp
 |v::vs,k,cs,h=>by
  simp only[List.zipIdx_cons,List.foldl_cons,yam]at h ⊢;rw[NC c vs (k+1) _ (by simp;omega)];apply ybg;intro j;have x:cs.toList.length=cs.size:=ybh;simp only[Array.toList_setIfInBounds,List.getElem?_append,yn,yy,yax,x,List.getElem?_take,ybm,List.getElem?_drop,yam];by_cases t:j < c+k
  .have l:j < min (c+(k+1)) cs.size:=by omega
   have s:j < min (c+k) cs.size:=by omega
   have e:¬(c+k=j):=by omega
   have f:j < c+(k+1):=by omega
   have m:j < min (c+(k+1)) cs.size+vs.length:=by omega
   have g:j < min (c+k) cs.size+(vs.length+1):=by omega
   simp[l,s,e,f,m,g,t]
  .by_cases y:j=c+k
   .subst y;have l:c+k < min (c+(k+1)) cs.size:=by omega
    have s:¬(c+k < min (c+k) cs.size):=by omega
    have e:min (c+k) cs.size=c+k:=by omega
    have f:c+k < min (c+(k+1)) cs.size+vs.length:=by omega
    have m:c+k < cs.size:=by omega
    have g:c+k < c+(k+1):=by omega
    simp[l,e,f,m,g]
   .by_cases E:j < c+(k+1)+vs.length
    .have l:¬(j < min (c+(k+1)) cs.size):=by omega
     have s:¬(j < min (c+k) cs.size):=by omega
     have e:min (c+k) cs.size=c+k:=by omega
     have f:min (c+(k+1)) cs.size=c+(k+1):=by omega
     have m:j < c+k+(vs.length+1):=by omega
     have g:j < c+(k+1)+vs.length:=by omega
     have z:j - (c+k)=(j - (c+(k+1)))+1:=by omega
     have A:¬(j < c+(k+1)):=by omega
     simp[e,f,m,g,t,z,A]
    .have l:min (c+k) cs.size=c+k:=by omega
     have s:min (c+(k+1)) cs.size=c+(k+1):=by omega
     have e:¬(j < c+(k+1)+vs.length):=by omega
     have f:¬(j < c+k+(vs.length+1)):=by omega
     have m:¬(c+k=c+(k+1)+vs.length+(j - (c+(k+1)+vs.length))):=by omega
     have g:c+(k+1)+vs.length+(j - (c+(k+1)+vs.length))=c+k+(vs.length+1)+(j - (c+k+(vs.length+1))):=by omega
     simp only[l,s,e,f,if_false,g];rw[yX (by omega)]
theorem ZGy(c:Nat)(vs cs:Array yh)(h:c+vs.size<=cs.size):
 (vs.zipIdx.foldl (λcs(q:yh×Nat)=>cs.setIfInBounds (c+q.2) q.1) cs).toList=cs.toList.take c++vs.toList++cs.toList.drop (c+vs.size):=by
 have:=NC c vs.toList 0 cs (by simpa using h);simp only[ycl,ybh]at this;rw[<-this, <-Array.foldl_toList,Array.toList_zipIdx]
theorem nV:∀(c:yL Dv),Dv.sizes c=(c.map Dv.size).sum
 |[]=>rfl
 |d::c=>by simp[Dv.sizes,nV c]
theorem pP:∀(c:yL Pl),Pl.sizes c=(c.map Pl.size).sum
 |[]=>rfl
 |d::c=>by simp[Pl.sizes,pP c]
theorem ND{J:Sg}{d:Dv}{v:yh}(hd:d.isAgg=ae\/v.oneCell'=ae)(h:yH J d v):yG J d v.cells.toList:=by
 cases c:d.isAgg with
 |true=>
  obtain⟨f,rfl,e⟩:=(Ya c).1 h
  exact e
 |false=>
  have e:=(Zg c).1 h
  have:v.cells= #[v]:=by
   rcases hd with hd|hd
   .rw[c]at hd;cases hd
   .cases v <;> first|rfl|(simp[Value.oneCell']at hd)
  rw[this];exact e
mutual
theorem tk{J:Sg}:∀(d:Dv)(vs:yL yh),d.bt=ae->yG J d vs->∀u,u∈vs->u.oneCell'=ae
 |.p x,vs,_,h,u,e=>by simp only[yG]at h;exact xz x vs h u e
 |.elem _,_,_,h,u,e=>by simp only[yG]at h;obtain⟨b,o,l,rfl,_⟩:=h;cases yav.1 e;rfl
 |.am _ _ _,_,_,h,u,e=>by simp only[yG]at h;obtain⟨b,_,_,rfl⟩:=h;cases yav.1 e;rfl
 |.own _ _ _ _,_,_,h,u,e=>by simp only[yG]at h;obtain⟨_,A,c,rfl,_⟩:=h;cases yav.1 e;rfl
 |.view _ _ _ _ _ _,_,_,h,u,e=>by simp only[yG]at h;obtain⟨b,c,a,_,_,rfl,_⟩:=h;cases yav.1 e;rfl
 |.agg f,vs,hs,h,u,e=>by simp only[yG]at h;simp only[Dv.bt]at hs;exact dE f vs hs h u e
 |.arr n s f,vs,hs,h,u,e=>by simp only[yG]at h;simp only[Dv.bt]at hs;exact dE f vs hs h.2.2 u e
 |.fn _ _,_,_,h,u,e=>by simp only[yG]at h;obtain⟨m,g,rfl,_⟩:=h;cases yav.1 e;rfl
 |.iface _ _,_,_,h,u,e=>by simp only[yG]at h;obtain⟨g,rfl,_⟩:=h;cases yav.1 e;rfl
 |.bf _,_,hs,_,_,_=>by simp[Dv.bt]at hs
 |.mp _,_,_,h,u,e=>by simp only[yG]at h;obtain⟨b,_,_,rfl⟩:=h;cases yav.1 e;rfl
 |.cz _,_,_,h,u,e=>by simp only[yG]at h;obtain⟨b,_,_,rfl⟩:=h;cases yav.1 e;rfl
 |.cC _ _ _,_,_,h,u,e=>by simp only[yG]at h;obtain⟨j,rfl,_⟩:=h;cases yav.1 e;rfl
 |.pm _ _,_,_,h,u,e=>by simp only[yG]at h;obtain⟨j,rfl,_⟩:=h;cases yav.1 e;rfl
 |.rv _ _ _ _ _,_,_,h,u,e=>by simp only[yG]at h;obtain⟨A,c,rfl,_⟩:=h;cases yav.1 e;rfl
 |.aW _ _ _ _,_,_,h,u,e=>by simp only[yG]at h;obtain⟨b,o,rfl,_⟩:=h;cases yav.1 e;rfl
 |.an,_,hs,_,_,_=>by simp[Dv.bt]at hs
theorem dE{J:Sg}:∀(f:yL Dv)(vs:yL yh),Dv.dC f=ae->aC J f vs->∀u,u∈vs->u.oneCell'=ae
 |[],_,_,h,u,c=>by simp only[aC]at h;subst h;cases c
 |x::g,vs,hs,h,u,c=>by
  simp only[Dv.dC,yi]at hs;simp only[aC]at h;obtain⟨j,e,rfl,l,m⟩:=h;rcases ycm.1 c with h3|h3
  .exact tk x j hs.1 l u h3
  .exact dE g e hs.2 m u h3
end
theorem VY{J:Sg}{d:Dv}{v:yh}(hs:d.bt=ae)(h:yH J d v):yG J d v.cells.toList:=by
 cases c:d.isAgg with
 |true=>exact ND (.inl c) h
 |false=>
  have e:=(Zg c).1 h;exact ND (.inr (tk d _ hs e v (by simp))) h
theorem pQ{J:Sg}{place:Nat->yO (Nat×Nat)}{sz:yL Nat}(hp:∀i s,sz[i]? =ab s->place i=ab ((sz.take i).sum,s)):
 ∀(parts:yL (Nat×Dv×yh))(y t:yL Dv)(cells:Array yh),y.map Dv.size=sz->aC J y cells.toList->(∀q,q∈parts->q.2.1.bt=ae/\yH J q.2.1 q.2.2)->
  gS y (parts.map λq=>(q.1,q.2.1))=ab t->∃f,Instr.fill place cells (parts.map λq=>(q.1,q.2.2))=ab f/\aC J t f.toList/\t.map Dv.size=sz
 |[],y,t,cells,x,I,_,h=>by
  simp only[List.map_nil,gS,yj]at h;subst h
  exact⟨cells,rfl,I,x⟩
 |(i,d,v)::yJ,y,t,cells,x,I,Z,h=>by
  simp only[yaf,gS,yf]at h;obtain⟨ds1,A,h2⟩:=h;unfold sW at A;split at A
  .rename_i old l;split at A
   .rename_i g;cases A;obtain⟨a,b,c,e,ha,hb,M,h3,h4⟩:=kX I l;obtain⟨Q,S⟩:=Z (i,d,v) (yay ..);have m:=VY Q S;have T:v.cells.toList.length=d.size:=Wr _ _ m;have hi:i < y.length:=(yp.1 l).1;have E:sz[i]? =ab d.size:=by rw[<-x,yah,l];simp[g]
    have U:=hp i _ E;have F:(sz.take i).sum=a.length:=by rw[ha,nV, <-x,List.map_take]
    have hcs:cells.size=a.length+(b.length+c.length):=by
     rw[<-ybh,e];simp
    have G:b.length=d.size:=by rw[M,g]
    have W:v.cells.size=d.size:=by rw[<-T,ybh]
    have z:=pQ hp yJ (y.set i d) t (v.cells.zipIdx.foldl (λcs(q:yh×Nat)=>cs.setIfInBounds (a.length+q.2) q.1) cells) (by
     rw[<-x,List.map_set,g.symm];apply ybg;intro j;rw[ybm];split
     .rename_i X;subst X;rw[yah,l];simp[hi]
     .rfl) (by
     rw[ZGy _ _ _ (by omega),e];have e1:(a++(b++c)).take a.length=a:=by simp
     have e2:(a++(b++c)).drop (a.length+v.cells.size)=c:=by
      rw[W, <-G, <-yac, <-yn];simp
     rw[e1,e2,yac]
     have e3:y.set i d=y.take i++(d::y.drop (i+1)):=by
      rw[List.set_eq_take_append_cons_drop,yW hi]
     rw[e3];refine pJ h3 ?_;simp only[aC];exact⟨_,_,rfl,m,h4⟩) (λq Y=>Z q (yba _ Y)) h2
    obtain⟨f,k1,k2,k3⟩:=z;refine⟨f, ?_,k2,k3⟩;simp only[yaf,Instr.fill,U,F];rw[yX (by simp;omega)];exact k1
   .cases A
  .cases A
theorem xI{J:Sg}:∀{g:yL Dv}{xs:yL Pl}{us:yL yh},iI g=ab xs->aC J g us->ak J.w J.aV xs us
 |[],xs,us,h,f=>by simp only[iI,yj]at h;subst h;simpa[aC,ak] using f
 |d::g,xs,us,h,f=>by
  simp only[iI]at h;split at h
  .rename_i x I e l;cases h;simp only[aC]at f;obtain⟨a,b,rfl,j,m⟩:=f;simp only[ak];refine⟨a,b,rfl, ?_,xI l m⟩;unfold Dv.plain at e;split at e
   .cases e;simpa[yG] using j
   .cases e;simp only[yG]at j;obtain⟨s,A,c,t,y,z,E,F,G,_⟩:=j;simp only[aq];exact⟨s,A,c,t,y,z,E,F,G⟩
   .cases e
  .cases h
theorem NE:∀{e:yL Dv}{xs:yL Pl},iI e=ab xs->xs.map Pl.size=e.map Dv.size
 |[],xs,h=>by simp only[iI,yj]at h;subst h;rfl
 |d::e,xs,h=>by
  simp only[iI]at h;split at h
  .rename_i x g c f;cases h;simp only[yaf,NE f];congr 1;unfold Dv.plain at c;split at c <;> first|(cases c;rfl)|cases c
  .cases h
mutual
theorem tn:∀(d:Dv)(x:Pl),d.flat=ab x->x.size=d.size
 |.p y,x,h=>by rw[Dv.flat]at h;cases h;rfl
 |.own id nn s e,x,h=>by rw[Dv.flat]at h;cases h;rfl
 |.agg f,x,h=>by
  rw[Dv.flat]at h
  cases c:Dv.aL f with
  |none=>rw[c]at h;cases h
  |some e=>
   rw[c]at h;cases h;rw[Pl.size,Dv.size]
   exact dV f e c
 |.elem _,x,h=>by simp[Dv.flat]at h
 |.am _ _ _,x,h=>by simp[Dv.flat]at h
 |.view _ _ _ _ _ _,x,h=>by simp[Dv.flat]at h
 |.arr _ _ _,x,h=>by simp[Dv.flat]at h
 |.fn _ _,x,h=>by simp[Dv.flat]at h
 |.iface _ _,x,h=>by simp[Dv.flat]at h
 |.bf _,x,h=>by simp[Dv.flat]at h
 |.mp _,x,h=>by simp[Dv.flat]at h
 |.cz _,x,h=>by simp[Dv.flat]at h
 |.cC _ _ _,x,h=>by simp[Dv.flat]at h
 |.pm _ _,x,h=>by simp[Dv.flat]at h
 |.rv _ _ _ _ _,x,h=>by simp[Dv.flat]at h
 |.aW _ _ _ _,x,h=>by simp[Dv.flat]at h
 |.an,x,h=>by simp[Dv.flat]at h
theorem dV:∀(c:yL Dv)(xs:yL Pl),Dv.aL c=ab xs->Pl.sizes xs=Dv.sizes c
 |[],xs,h=>by rw[Dv.aL]at h;cases h;rfl
 |d::c,xs,h=>by
  rw[Dv.aL]at h;split at h
  .rename_i x e f g;cases h;rw[Pl.sizes,Dv.sizes,tn d x f,dV c e g]
  .cases h
end
theorem NF:∀{c:yL Dv}{xs:yL Pl},Dv.aL c=ab xs->xs.map Pl.size=c.map Dv.size
 |[],xs,h=>by rw[Dv.aL]at h;cases h;rfl
 |d::c,xs,h=>by
  rw[Dv.aL]at h;split at h
  .rename_i x g e f;cases h;simp only[yaf,NF f,tn d x e]
  .cases h
mutual
theorem NG:∀(d:Dv)(x:Pl),d.flat=ab x->d.bt=ae
 |.p y,x,h=>rfl
 |.own id nn s c,x,h=>rfl
 |.agg e,x,h=>by
  rw[Dv.flat]at h
  cases f:Dv.aL e with
  |none=>rw[f]at h;cases h
  |some c=>rw[Dv.bt];exact dM e c f
 |.elem _,x,h=>by simp[Dv.flat]at h
 |.am _ _ _,x,h=>by simp[Dv.flat]at h
 |.view _ _ _ _ _ _,x,h=>by simp[Dv.flat]at h
 |.arr _ _ _,x,h=>by simp[Dv.flat]at h
 |.fn _ _,x,h=>by simp[Dv.flat]at h
 |.iface _ _,x,h=>by simp[Dv.flat]at h
 |.bf _,x,h=>by simp[Dv.flat]at h
 |.mp _,x,h=>by simp[Dv.flat]at h
 |.cz _,x,h=>by simp[Dv.flat]at h
 |.cC _ _ _,x,h=>by simp[Dv.flat]at h
 |.pm _ _,x,h=>by simp[Dv.flat]at h
 |.rv _ _ _ _ _,x,h=>by simp[Dv.flat]at h
 |.aW _ _ _ _,x,h=>by simp[Dv.flat]at h
 |.an,x,h=>by simp[Dv.flat]at h
theorem dM:∀(c:yL Dv)(xs:yL Pl),Dv.aL c=ab xs->Dv.dC c=ae
 |[],xs,h=>rfl
 |d::c,xs,h=>by
  rw[Dv.aL]at h;split at h
  .rename_i x e f g;rw[Dv.dC,NG d x f,dM c e g];rfl
  .cases h
end
theorem NH:∀{e:yL Dv}{xs:yL Pl},Dv.aL e=ab xs->∀d,d∈e->d.bt=ae
 |[],_,_,d,c=>by cases c
 |x::e,xs,h,d,c=>by
  rw[Dv.aL]at h;split at h
  .rename_i y j f g
   cases c with
   |head=>exact NG _ _ f
   |tail _ c=>exact NH g d c
  .cases h
theorem ZEU{J:Sg}{c:yL Dv}{xs:yL Pl}{us:yL yh}(h:Dv.aL c=ab xs)(e:aC J c us):ak J.w J.aV xs us:=dD c xs us h e
theorem ZEV{J:Sg}{c:yL Dv}{cs:Array yh}(e:aC J c cs.toList):yH J (pB c) (.agg cs):=by
 unfold pB;split
 .rename_i f h;rw[Ya rfl];exact⟨cs,rfl,by simp only[yG,aq];exact xI h e⟩
 .rw[Ya rfl];exact⟨cs,rfl,by simp only[yG];exact e⟩
theorem NI{P:yg}{J:Sg}{t:yb}{d:Dv}(h:YI P t=d)(c:d≠ .an):∃i v,P.info? t=ab i/\i.zero=ab v/\yH J d v:=by
 unfold YI at h;split at h
 .rename_i i e;split at h
  .rename_i v f;exact⟨i,v,e,f,by rw[<-h];exact VB⟩
  .exact absurd h.symm c
 .exact absurd h.symm c
theorem NJ{P:yg}:∀(c:yL Field),(∀f,f∈c->(P.info? f.type).isSome=ae)->
 c.mapM (λf=>(P.info? f.type).map λi=>(f.offset,i.size))=ab (c.map λf=>(f.offset,P.cellsOf f.type))
 |[],_=>by simp
 |f::c,h=>by
  have j:=h f (yay ..)
  cases e:P.info? f.type with
  |none=>simp[e]at j
  |some i=>
   simp[List.mapM_cons,e,NJ c (λg l=>h g (yba _ l)),Program.cellsOf]
section
variable{P:yg}{o:Oper}{a:Act}{J:Sg}{ts:yL Dv}{hs hs':yL aj}{C:yL Prop}{d:Dv}
theorem tp(g:ay J ts a)(f:Nat->yb)(parts:yL (Nat×yo))(c:kT (go P ts f parts)=ae):
 ∃e:yL (Nat×Dv×yh),(e.map λq=>(q.1,q.2.1))=go P ts f parts/\(e.map λq=>(q.1,q.2.2))=parts.map (λq=>(q.1,a.eval q.2))/\(∀q,q∈e->q.2.1.bt=ae/\yH J q.2.1 q.2.2):=by
 refine⟨parts.map λq=>(q.1,Zo P ts (f q.1) q.2,a.eval q.2),by simp[go],by simp,λq h=> ?_⟩;obtain⟨x,j,rfl⟩:=ybj.1 h;refine⟨?_,Zh g _ _⟩;simp only[kT,go,List.all_map,ybn]at c;exact c x j
theorem xJ(n s i:Nat)(h:i<=n):((yab n s).take i).sum=i*s:=by
 rw[List.take_replicate,ybi h,List.sum_replicate_nat]
theorem ZJI{t:yb}{parts:Array (Nat×yo)}(ok:Ok J)(yK:ay J ts a)(ho:o.op=.build t parts)(h:aU P o ts hs=ab (C,d,hs')):YH P o a J d J.H:=by
 simp only[aU,ho]at h
 have run:∀cells,P.built t (parts.map λq=>(q.1,a.eval q.2)).toList=ab cells->(execOp a.eval o).run P J.w=.ok (.value (.agg cells)) J.w:=λcells hv=>by
  have:=run_build (P:=P) J.w t (parts.map λq=>(q.1,a.eval q.2)) cells hv;simp[execOp,ho,this]
 split at h
 .rename_i S zs hu hz;split at h
  .rename_i hk;simp only[yi,yT]at hk;obtain⟨⟨y,zV⟩,zO⟩:=hk;simp only[yq,yl]at h;obtain⟨ds,g,rfl,rfl,rfl⟩:=h;obtain⟨it,z,U,A,E⟩:=NI (J:=J) hz (by simp);obtain⟨cs,rfl,l⟩:=(Ya rfl).1 E;simp only[yG,aq]at l
   have hf:∀i,i < S.size->∃f z,S[i]? =ab f/\zs[i]? =ab z/\f.offset=Pl.sizes (zs.take i)/\P.cellsOf f.type=z.size/\(P.info? f.type).isSome=ae:=by
    intro i F;have T:i < zs.length:=by omega
    have G:=ybn.1 zO i (List.mem_range.2 T);unfold kS at G;have hzi:zs.getD i default=zs[i]:=by simp[List.getD,T]
    rw[hzi]at G;have hfi:S[i]? =ab S[i]:=Array.getElem?_eq_getElem F;rw[hfi]at G;simp only[yi,yT]at G;obtain⟨⟨⟨⟨⟨h2,h3⟩,h4⟩,_⟩,_⟩,_⟩:=G;exact⟨S[i],zs[i],hfi,List.getElem?_eq_getElem T,h2,h3,h4⟩
   have hmap:=NJ (P:=P) S.toList (λf hf'=>by
    obtain⟨i,F,rfl⟩:=List.getElem_of_mem hf';obtain⟨f,z,G,_,_,_,h2⟩:=hf i (by simpa using F)
    have:S.toList[i]=f:=by
     have:=(Array.getElem?_eq_some_iff.1 G).2;simpa using this
    rw[this];exact h2)
   obtain⟨qs,W,X,Y⟩:=tp (P:=P) yK (kU P t) parts.toList y;rw[<-W]at g
   obtain⟨c,m,hr,_⟩:=pQ (J:=J) (place:=((S.toList.map λf=>(f.offset,P.cellsOf f.type)).toArray[·]?)) (sz:=zs.map Pl.size) (by
    intro i s F;rw[yah]at F;obtain⟨z,hz1,hz2⟩:=yq.1 F;have T:i < zs.length:=(yp.1 hz1).1;obtain⟨f,z',G,h2,h3,h4,_⟩:=hf i (by omega);rw[hz1]at h2;cases h2;have:S.toList[i]? =ab f:=by simpa using G
    simp only[List.getElem?_toArray,yah,this,Option.map_some,h3,h4,hz2,pP,List.map_take]) qs (zs.map .p) ds cs (by simp[Dv.size,Function.comp_def]) (jq.2 l) Y g
   have hb:P.built t (parts.map λq=>(q.1,a.eval q.2)).toList=ab c:=by
    unfold Program.built;rw[U,hu];simp only[A,hmap,Value.cells];rw[Array.toList_map, <-X];exact m
   exact Zi ok (run _ hb) (ZEV hr)
  .cases h
 .rename_i n e n' s zs hu hz;split at h
  .rename_i hk;simp only[yi,yP]at hk;obtain⟨⟨y,hse⟩,hie⟩:=hk;simp only[yf]at h;obtain⟨ds,g,h⟩:=h;obtain⟨it,z,U,A,E⟩:=NI (J:=J) hz (by simp);obtain⟨cs,rfl,l⟩:=(Ya rfl).1 E;simp only[yG,aq]at l;obtain⟨hzl,hzs,l⟩:=l;obtain⟨qs,W,X,Y⟩:=tp (P:=P) yK (kU P t) parts.toList y;rw[<-W]at g
   have hszs:(zs.map Dv.p).map Dv.size=yab n' s:=by
    rw[<-hzl];apply ybg;intro j;simp only[yah,List.getElem?_replicate]
    cases hj:zs[j]? with
    |none=>
     have:=List.getElem?_eq_none_iff.1 hj
     simp;omega
    |some x=>
     have G:=(yp.1 hj).1;simp[G,Dv.size,hzs x (List.mem_of_getElem? hj)]
   obtain⟨c,m,hr,I⟩:=pQ (J:=J) (place:=λi=>ab (i*s,s)) (sz:=yab n' s) (by
    intro i s' F;simp only[List.getElem?_replicate]at F;split at F
    .cases F;rw[xJ _ _ _ (by omega)]
    .cases F) qs (zs.map .p) ds cs hszs (jq.2 l) Y g
   have M:ds.length=n':=by
    have:=congrArg ycf I;simpa using this
   have Z:∀x,x∈ds->x.size=s:=by
    intro x hx;have:x.size∈ds.map Dv.size:=ycv hx;rw[I]at this;exact List.eq_of_mem_replicate this
   have hb:P.built t (parts.map λq=>(q.1,a.eval q.2)).toList=ab c:=by
    unfold Program.built;rw[U,hu]
    cases Q:P.info? e with
    |none=>simp[Q]at hie
    |some ie=>
     have:ie.size=s:=by rw[<-hse];simp[Program.cellsOf,Q]
     simp only[A,Q,Value.cells,this];rw[Array.toList_map, <-X];exact m
   split at h
   .rename_i xs hxs;simp only[yj,yl]at h;obtain⟨rfl,rfl,rfl⟩:=h;refine Zi ok (run _ hb) ?_;rw[Ya rfl];have hps:=NE hxs
    refine⟨c,rfl,by
     simp only[yG,aq];refine⟨?_, ?_,xI hxs hr⟩
     .have:=congrArg ycf hps;simp only[yx]at this;rw[this,M]
     .intro x hx;have:x.size∈xs.map Pl.size:=ycv hx;rw[hps,I]at this;exact List.eq_of_mem_replicate this⟩
   .simp only[yj,yl]at h;obtain⟨rfl,rfl,rfl⟩:=h;refine Zi ok (run _ hb) ?_;rw[Ya rfl];exact⟨c,rfl,by simp only[yG];exact⟨M,Z,hr⟩⟩
  .cases h
 .cases h
end
theorem xK(s:Nat):∀(new pre post:yL Dv),post.length=new.length->(∀x,x∈post->x.size=s)->(∀x,x∈new->x.size=s)->
 gS (pre++post) ((List.range' pre.length new.length).zip new)=ab (pre++new)
 |[],pre,post,c,_,_=>by
  have:post=[]:=ybo (by simpa using c);subst this
  simp[gS]
 |d::new,pre,[],c,_,_=>by simp at c
 |d::new,pre,q::post,c,g,h=>by
  simp only[yam,List.range'_succ,List.zip_cons_cons,gS];have e:(pre++q::post)[pre.length]? =ab q:=by simp
  have hs:q.size=d.size:=by rw[g q (yay ..),h d (yay ..)]
  have j:(pre++q::post).set pre.length d=(pre++[d])++post:=by simp
  simp only[sW,e,hs,if_true,Option.bind_some,j];have:=xK s new (pre++[d]) post (by simpa using c) (λx f=>g x (yba _ f)) (λx f=>h x (yba _ f));simp only[yn,yam,yce,yau,yac,List.singleton_append]at this ⊢;exact this
theorem xL{α β γ:Type}(f:α->β)(g:α->γ):∀(l:yL α),l.map (λq=>(f q,g q))=(l.map f).zip (l.map g)
 |[]=>rfl
 |x::l=>by simp[xL f g l]
theorem NK{J:Sg}:∀(us:yL yh),aC J (yab us.length .an) us
 |[]=>by simp[aC]
 |u::us=>by
  simp only[yam,List.replicate_succ,aC];exact⟨[u],us,rfl,by simp[yG],NK us⟩
def ki(s:Nat):Dv:=.agg (yab s .an)
theorem tq(s:Nat):(ki s).size=s:=by
 show Dv.sizes (yab s .an)=s;rw[nV,List.map_replicate,List.sum_replicate_nat];simp[Dv.size]
theorem ZEW{J:Sg}{s:Nat}{us:yL yh}(h:us.length=s):yG J (ki s) us:=by
 subst h;show yG J (.agg (yab us.length .an)) us;simp only[yG];exact NK us
theorem xM{J:Sg}{s:Nat}:∀(n:Nat)(us:yL yh),us.length=n*s->aC J (yab n (ki s)) us
 |0,us,h=>by
  have:us=[]:=ybo (by simpa using h);subst this
  simp[aC]
 |n+1,us,h=>by
  rw[ybd,Nat.one_mul]at h;simp only[List.replicate_succ,aC];exact⟨us.take s,us.drop s,(ybk s us).symm,ZEW (by rw[yy];omega),xM n _ (by rw[List.length_drop];omega)⟩
section
variable{P:yg}{o:Oper}{a:Act}{J:Sg}{ts:yL Dv}{hs hs':yL aj}{C:yL Prop}{d:Dv}
theorem ZEX(T:ay J ts a){e:yb}{s len:Nat}{parts:yL (Nat×yo)}{xs:yL Pl}(h:Wx P ts e s len parts=ab xs)(Z:Array yh)(U:Z.size=len*s):
 ∃cells:Array yh,Instr.fill (λi=>ab (i*s,s)) Z (parts.map λq=>(q.1,a.eval q.2))=ab cells/\ak J.w J.aV xs cells.toList/\xs.length=len/\aT s xs:=by
 unfold Wx at h;split at h
 .rename_i W;have l:parts.map (·.1)=yu len:=by simpa using W
  split at h
  .rename_i X E;split at h
   .rename_i Y;cases h
    have m:∀x,x∈xs->x.size=s:=by
     intro x f;have:=ybn.1 Y x f;simpa using this
    have t:=NF E
    have g:(parts.map λq=>Zo P ts e q.2).length=len:=by
     have:=congrArg ycf l;simpa using this
    have F:∀x,x∈(parts.map λq=>Zo P ts e q.2)->x.size=s:=by
     intro x f;have z:x.size∈(parts.map λq=>Zo P ts e q.2).map Dv.size:=ycv f;rw[<-t]at z;obtain⟨y,hy,he⟩:=ybj.1 z;rw[<-he];exact m y hy
    have G:xs.length=len:=by
     have:=congrArg ycf t;simp only[yx]at this;rw[this];simpa using g
    obtain⟨qs,I,M,Q⟩:=tp (P:=P) T (λ_=>e) parts (by
     simp only[kT,go,List.all_map,ybn];intro q hq;exact NH E _ (ycv hq))
    have c:gS (yab len (ki s)) (go P ts (λ_=>e) parts)=ab (parts.map λq=>Zo P ts e q.2):=by
     have z:=xK s (parts.map λq=>Zo P ts e q.2) [] (yab len (ki s)) (by simpa using g.symm) (λx f=>by rw[List.eq_of_mem_replicate f,tq]) F;simp only[List.nil_append,yce]at z
     have h2:go P ts (λ_=>e) parts=(List.range' 0 (parts.map λq=>Zo P ts e q.2).length).zip (parts.map λq=>Zo P ts e q.2):=by
      rw[g, <-List.range_eq_range', <-l];exact xL _ _ parts
     rw[h2];exact z
    rw[<-I]at c
    obtain⟨cells,j,S,_⟩:=pQ (J:=J) (place:=λi=>ab (i*s,s)) (sz:=yab len s) (by
     intro i s' A;simp only[List.getElem?_replicate]at A;split at A
     .cases A;rw[xJ _ _ _ (by omega)]
     .cases A) qs (yab len (ki s)) _ Z (by simp[tq]) (xM len _ (by simpa using U)) Q c
    refine⟨cells, ?_,ZEU E S,G,λx f=>m x f⟩;rw[<-M];exact j
   .cases h
  .cases h
 .cases h
theorem ZBK(M:ay J ts a){e:yb}{s len:Nat}{parts:yL (Nat×yo)}{y:yL Dv}(h:nO P ts e s len parts=ab y)(Z:Array yh)(Q:Z.size=len*s):
 ∃cells:Array yh,Instr.fill (λi=>ab (i*s,s)) Z (parts.map λq=>(q.1,a.eval q.2))=ab cells/\aC J y cells.toList/\y.length=len/\(∀x,x∈y->x.size=s):=by
 unfold nO at h;split at h
 .rename_i S;have j:parts.map (·.1)=yu len:=by simpa using S
  split at h
  .rename_i T;cases h
   have l:∀x,x∈(parts.map λq=>Zo P ts e q.2)->x.bt=ae/\x.size=s:=by
    intro x m;have:=ybn.1 T x m;simpa using this
   have f:(parts.map λq=>Zo P ts e q.2).length=len:=by
    have:=congrArg ycf j;simpa using this
   have t:∀x,x∈(parts.map λq=>Zo P ts e q.2)->x.size=s:=λx m=>(l x m).2
   obtain⟨U,A,E,F⟩:=tp (P:=P) M (λ_=>e) parts (by
    simp only[kT,go,List.all_map,ybn];intro q W;exact(l _ (ycv W)).1)
   have c:gS (yab len (ki s)) (go P ts (λ_=>e) parts)=ab (parts.map λq=>Zo P ts e q.2):=by
    have I:=xK s (parts.map λq=>Zo P ts e q.2) [] (yab len (ki s)) (by simpa using f.symm) (λx m=>by rw[List.eq_of_mem_replicate m,tq]) t;simp only[List.nil_append,yce]at I
    have X:go P ts (λ_=>e) parts=(List.range' 0 (parts.map λq=>Zo P ts e q.2).length).zip (parts.map λq=>Zo P ts e q.2):=by
     rw[f, <-List.range_eq_range', <-j];exact xL _ _ parts
    rw[X];exact I
   rw[<-A]at c
   obtain⟨cells,g,G,_⟩:=pQ (J:=J) (place:=λi=>ab (i*s,s)) (sz:=yab len s) (by
    intro i Y z;simp only[List.getElem?_replicate]at z;split at z
    .cases z;rw[xJ _ _ _ (by omega)]
    .cases z) U (yab len (ki s)) _ Z (by simp[tq]) (xM len _ (by simpa using Q)) F c
   refine⟨cells, ?_,G,f,t⟩;rw[<-E];exact g
  .cases h
 .cases h
theorem NL{e t:yb}{i:TypeInfo}{len:Nat}{parts:Array (Nat×yh)}{Q:Array yh->Prop}(w:yad)(hu:P.underlying t=ab (.slice e))(hi:P.info? e=ab i)(hz:bP i=ae)
 (hsz:len*i.size<=16777216) (c:∀Z:Array yh,Z.size=len*i.size->∃cells,Instr.fill (λj=>ab (j*i.size,i.size)) Z parts.toList=ab cells/\Q cells):
 ∃cells,(Instr.buildSlice t len parts).run P w=.ok (.slice (ab ⟨w.heap.size,0,ad⟩) len len) (w.alloc (.cells cells e))/\Q cells:=by
 unfold bP at hz;split at hz
 .rename_i z g;have m:¬(16777216 < len*i.size):=by omega
  by_cases h:len*i.size=0
  .obtain⟨cells,f,l⟩:=c ((Array.range (len*i.size)).map (#[][· % (#[]:Array yh).size]!)) (by simp);refine⟨cells, ?_,l⟩;simp only[h]at f;simp[Instr.buildSlice,run_underlying hu,sizeOf,typeInfo,hi,h,newRow];simp at f;simp[f]
  .obtain⟨cells,f,l⟩:=c ((Array.range (len*i.size)).map (z.cells[· % z.cells.size]!)) (by simp);exact⟨cells,by simp[Instr.buildSlice,run_underlying hu,sizeOf,typeInfo,zeroValue,hi,g,m,h,newRow,f],l⟩
 .cases hz
end
theorem al{α:Type}{l:yL α}{i j:Nat}{x:α}(h:i≠j):(l.set i x)[j]? =l[j]? :=by
 rw[ybm,yX h]
theorem ai{α:Type}{l:yL α}{i:Nat}{x y:α}(h:l[i]? =ab y):(l.set i x)[i]? =ab x:=by
 rw[ybm,yW rfl,yW (yp.1 h).1]
theorem XE{J J':Sg}(ok:Ok J){id:Nat}{mi mi':yO Nat}{Y G:ar}(hH:J.H[id]? =ab Y)(hm:J.m[id]? =ab mi)
 (eF:J'.F=J.F) (Z:J'.B=J.B) (eH:J'.H=J.H.set id G) (em:J'.m=J.m.set id mi')
 (hos:J'.w.os=J.w.os) (htape:J'.w.tape=J.w.tape) (hout:J'.w.output=J.w.output) (hsize:J.w.heap.size<=J'.w.heap.size)
 (zB:∀b,b < J.w.heap.size->mi≠ab b->J'.w.heap[b]? =J.w.heap[b]?)
 (hown:∀b o v,mi=ab b->Y.bg o->J.w.cell? ⟨b,o,ad⟩=ab v->J'.w.cell? ⟨b,o,ad⟩=ab v)
 (hunl:∀o,mi'=mi->Y.bg o->G.bg o)
 (hmi:mi'=mi\/∃b',mi'=ab b'/\J.w.heap.size<=b'/\b' < J'.w.heap.size)
 (hvar:(∃d st,Y=.var d st)->mi'=mi/\∃d st,G=.var d st)
 (hmap:(∃t aN,Y=.map t aN)->mi'=mi/\∃t aN,G=.map t aN)
 (hlog:∀s e xs,Y=.log s e xs->∃xs',G=.log s e xs'/\xs.length<=xs'.length/\(xs'.length=xs.length->mi'=mi/\∀b,b < J.w.heap.size->J'.w.heap[b]? =J.w.heap[b]?))
 (hent:bO J J'->cW J' mi' G)
 (hrow:∀v s st e d,Y=.row v s st e d->∃v' S d',G=.row v' s S e d'/\v<=v'/\(v'=v->mi'=mi/\∀b cur,mi=ab b->J.w.heap[b]? =ab (.cells cur e (0,0))->∃cur',J'.w.heap[b]? =ab (.cells cur' e (0,0))/\cur'.size=cur.size):=by
   intro _ _ _ _ _ h;cases h) (eX:J'.X=J.X:=by rfl) (hpm:∀v l,Y=.bA v l->∃v' l',G=.bA v' l'/\v<=v'/\(v'=v->mi'=mi):=by intro _ _ h;cases h) (hmaps:Y.eD=ae->mi'=mi/\G=Y/\∀b,b < J.w.heap.size->J'.w.heap[b]? =J.w.heap[b]? :=by exact λh=>absurd h Bool.false_ne_true):To J J'/\Ok J':=by
 have hlt:∀b,mi=ab b->b < J.w.heap.size:=λb h=>ok.lt id b (by rw[hm,h]);have y:∀j,j≠id->J'.m[j]? =J.m[j]? :=λj I=>by rw[em,al (Ne.symm I)]
 have g:J'.m[id]? =ab mi':=by rw[em];exact ai hm
 have Hset:∀j,j≠id->J'.H[j]? =J.H[j]? :=λj I=>by rw[eH,al (Ne.symm I)]
 have Hself:J'.H[id]? =ab G:=by rw[eH];exact ai hH
 have hob:∀j b,j≠id->J.m[j]? =ab (ab b)->J'.w.heap[b]? =J.w.heap[b]? :=λj b I h=>
  zB b (ok.lt j b h) (λW=>I (ok.inj j id b h (by rw[hm,W])))
 have leaf:bO J J':=by
  refine⟨λb o v x E=>⟨?_, ?_, ?_⟩,λj b x E=> ?_,λj s len A c x=> ?_,λj b x E=> ?_,λj v s st e d x=> ?_,λj v t u l x=> ?_,λj v l x=> ?_⟩
  .by_cases M:mi=ab b
   .exact hown b o v M (E.2 id Y (by rw[hm,M]) hH) x
   .rw[World.cell?_of_block (w:=J.w) (zB b (WP x) M)];exact x
  .rcases E.1 with h3|h3
   .exact .inl (by rw[eF];exact h3)
   .exact .inr (by rw[Z];exact h3)
  .intro j e I W;by_cases f:j=id
   .subst f;rw[g]at I;rw[Hself]at W;cases W;have T:mi'=ab b:=by simpa using I
    rcases hmi with h3|⟨b',h3,U,_⟩
    .have hmb:mi=ab b:=by rw[<-h3,T]
     exact hunl o h3 (E.2 j Y (by rw[hm,hmb]) hH)
    .have:b'=b:=by rw[h3]at T;exact ybp T
     have:=WP x;omega
   .rw[y j f]at I;rw[Hset j f]at W;exact E.2 j e I W
  .by_cases f:j=id
   .subst f;obtain⟨d,st,E⟩:=E;rw[hH]at E;obtain⟨h3,d',S,U⟩:=hvar ⟨d,st,ybp E⟩;rw[hm]at x;exact⟨by rw[g,h3];exact x,d',S,by rw[Hself,U]⟩
   .exact⟨by rw[y j f];exact x,by rw[Hset j f];exact E⟩
  .obtain⟨e,ys,E,h3,U⟩:=x;by_cases f:j=id
   .subst f;rw[hH]at E;obtain⟨xs',k1,k2,k3⟩:=hlog s e ys (ybp E);refine⟨e,xs',by rw[Hself,k1],by omega,λhl=> ?_⟩;obtain⟨k4,k5⟩:=k3 (by omega);rcases U (by omega) with⟨Q,h6⟩|⟨b,cur,Q,h6,h7,h8⟩
    .exact .inl ⟨by rw[g,k4, <-hm];exact Q,h6⟩
    .exact .inr ⟨b,cur,by rw[g,k4, <-hm];exact Q,h6,(k5 b (ok.lt j b Q)).trans h7,h8⟩
   .refine⟨e,ys,by rw[Hset j f];exact E,h3,λhl=> ?_⟩;rcases U hl with⟨Q,h6⟩|⟨b,cur,Q,h6,h7,h8⟩
    .exact .inl ⟨by rw[y j f];exact Q,h6⟩
    .exact .inr ⟨b,cur,by rw[y j f];exact Q,h6,(hob j b f Q).trans h7,h8⟩
  .by_cases f:j=id
   .subst f;obtain⟨d,st,E⟩:=E;rw[hH]at E;obtain⟨h3,d',S,U⟩:=hmap ⟨d,st,ybp E⟩;rw[hm]at x;exact⟨by rw[g,h3];exact x,d',S,by rw[Hself,U]⟩
   .exact⟨by rw[y j f];exact x,by rw[Hset j f];exact E⟩
  .by_cases f:j=id
   .subst f;rw[hH]at x;obtain⟨v',S,d',k1,k2,k3⟩:=hrow v s st e d (ybp x);refine⟨v',S,d',by rw[Hself,k1],k2,λhv=> ?_⟩;obtain⟨k4,k5⟩:=k3 hv;exact⟨by rw[g,k4, <-hm],λb cur M hc=>k5 b cur (by rw[hm]at M;exact ybp M) hc⟩
   .exact⟨v,st,d,by rw[Hset j f];exact x,ym _,λ_=>⟨y j f,λb cur M hc=>⟨cur,(hob j b f M).trans hc,rfl⟩⟩⟩
  .by_cases f:j=id
   .subst f;rw[hH]at x;cases x;obtain⟨k1,k2,k3⟩:=hmaps rfl;exact⟨v,l,by rw[Hself,k2],ym _,by rw[g,k1, <-hm],λ_=>⟨rfl,λb es clock M hc=>(k3 b (ok.lt j b M)).trans hc⟩⟩
   .exact⟨v,l,by rw[Hset j f];exact x,ym _,y j f,λ_=>⟨rfl,λb es clock M hc=>(hob j b f M).trans hc⟩⟩
  .by_cases f:j=id
   .subst f;rw[hH]at x;obtain⟨v',l',k1,k2,k3⟩:=hpm v l (ybp x);exact⟨v',l',by rw[Hself,k1],k2,λhv=>by rw[g,k3 hv, <-hm]⟩
   .exact⟨v,l,by rw[Hset j f];exact x,ym _,λ_=>y j f⟩
 have z:∀j b,J'.m[j]? =ab (ab b)->(J.m[j]? =ab (ab b)/\(j=id->mi'=mi))\/(j=id/\J.w.heap.size<=b/\b < J'.w.heap.size):=by
  intro j b I;by_cases f:j=id
  .subst f;rw[g]at I;have T:mi'=ab b:=by simpa using I
   rcases hmi with h3|⟨b',h3,U,Q⟩
   .exact .inl ⟨by rw[hm, <-h3,T],λ_=>h3⟩
   .have:b'=b:=by rw[h3]at T;exact ybp T
    subst this;exact .inr ⟨rfl,U,Q⟩
  .rw[y j f]at I;exact .inl ⟨I,λh=>absurd h f⟩
 refine⟨⟨leaf,eF,Z,hos,htape,hout,hsize,λb M hn _=>zB b M (λW=>hn id (by rw[hm,W])),λj b I=> ?_,by rw[em,yax];exact ym _,λb c h=>.inl ⟨b,by rw[<-eX];exact h⟩⟩, ?_, ?_, ?_, ?_, ?_, ?_, ?_, ?_⟩
 .rcases z j b I with⟨h,_⟩|⟨_,h,_⟩
  .exact .inl h
  .exact .inr h
 .rw[em,eH,yax,yax];exact ok.len
 .intro i j b hi I;rcases z i b hi with⟨x,_⟩|⟨x,E,_⟩ <;> rcases z j b I with⟨h3,_⟩|⟨h3,U,_⟩
  .exact ok.inj i j b x h3
  .have:=ok.lt i b x;omega
  .have:=ok.lt j b h3;omega
  .rw[x,h3]
 .intro i b hi;rcases z i b hi with⟨x,_⟩|⟨_,_,E⟩
  .exact yda (ok.lt i b x) hsize
  .exact E
 .intro i e a W ha;by_cases f:i=id
  .subst f;rw[g]at ha;rw[Hself]at W;cases W;cases ha;exact hent leaf
  .rw[y i f]at ha;rw[Hset i f]at W;exact V6 leaf (λb M=>hob i b f (by rw[ha,M])) (λb c _ h=>⟨by rw[eX];exact h,zB c (ok.cQ b c h).1 λq=>(ok.cQ b c h).2.2.1 id (by rw[hm,q])⟩) (ok.cA i e a W ha)
 .intro b M;rw[Z];exact ok.new b (ybv hsize M)
 .intro i b hi;rw[Z];rcases z i b hi with⟨x,_⟩|⟨_,x,_⟩
  .exact ok.own i b x
  .exact ok.new b x
 .intro b c h;rw[eX]at h;obtain⟨x,E,h3,i,e,U,Q,h6⟩:=ok.cQ b c h;refine⟨yda x hsize,by rw[Z];exact E,λj I=> ?_, ?_⟩
  .rcases z j c I with⟨Q,_⟩|⟨_,Q,_⟩
   .exact h3 j Q
   .omega
  .by_cases f:i=id
   .subst f;rw[hH]at Q;cases Q;obtain⟨k1,k2,_⟩:=hmaps h6;rw[hm]at U;exact⟨i,G,by rw[g,k1];exact U,Hself,by rw[k2];exact h6⟩
   .exact⟨i,e,by rw[y i f];exact U,by rw[Hset i f];exact Q,h6⟩
 .rw[eX];exact ok.one
theorem ZJJ{J J':Sg}(ok:Ok J){id v s b:Nat}{st U:Bool}{e:yb}{d d':Dv}(hH:J.H[id]? =ab (.row v s st e d))(hm:J.m[id]? =ab (ab b))
 (eF:J'.F=J.F) (Q:J'.B=J.B) (eH:J'.H=J.H.set id (.row (v+1) s U e d')) (em:J'.m=J.m.set id ad)
 (hos:J'.w.os=J.w.os) (htape:J'.w.tape=J.w.tape) (hout:J'.w.output=J.w.output) (hsize:J.w.heap.size<=J'.w.heap.size)
 (zB:∀c,c < J.w.heap.size->c≠b->J'.w.heap[c]? =J.w.heap[c]?)
 (hown:∀o x,J.w.cell? ⟨b,o,ad⟩=ab x->J'.w.cell? ⟨b,o,ad⟩=ab x)
 (hent:cW J' ad (.row (v+1) s U e d')) (eX:J'.X=J.X):To J J'/\Ok J':=by
 have g:∀j,j≠id->J'.m[j]? =J.m[j]? :=λj I=>by rw[em,al (Ne.symm I)]
 have S:J'.m[id]? =ab ad:=by rw[em];exact ai hm
 have Hset:∀j,j≠id->J'.H[j]? =J.H[j]? :=λj I=>by rw[eH,al (Ne.symm I)]
 have Hself:J'.H[id]? =ab (.row (v+1) s U e d'):=by rw[eH];exact ai hH
 have W:∀j c,j≠id->J.m[j]? =ab (ab c)->J'.w.heap[c]? =J.w.heap[c]? :=λj c I h=>
  zB c (ok.lt j c h) (λT=>I (ok.inj j id c h (by rw[hm,T])))
 have y:∀j c,J'.m[j]? =ab (ab c)->j≠id/\J.m[j]? =ab (ab c):=by
  intro j c I;by_cases f:j=id
  .subst f;rw[S]at I;cases I
  .exact⟨f,by rw[<-g j f];exact I⟩
 have Y:bO J J':=by
  refine⟨λc o x E G=>⟨?_, ?_, ?_⟩,λj c E G=> ?_,λj q len A z E=> ?_,λj c E G=> ?_,λj v0 s0 st0 e0 d0 E=> ?_,λj v0 t u l E=> ?_,λj v0 l E=> ?_⟩
  .by_cases M:c=b
   .subst M;exact hown o x E
   .rw[World.cell?_of_block (w:=J.w) (zB c (WP E) M)];exact E
  .rcases G.1 with h3|h3
   .exact .inl (by rw[eF];exact h3)
   .exact .inr (by rw[Q];exact h3)
  .intro j e1 I T;obtain⟨f,hj'⟩:=y j c I;rw[Hset j f]at T;exact G.2 j e1 hj' T
  .by_cases f:j=id
   .subst f;obtain⟨d1,st1,G⟩:=G;rw[hH]at G;cases G
   .exact⟨by rw[g j f];exact E,by rw[Hset j f];exact G⟩
  .obtain⟨e1,ys,G,h3,h4⟩:=E;by_cases f:j=id
   .subst f;rw[hH]at G;cases G
   .refine⟨e1,ys,by rw[Hset j f];exact G,h3,λhl=> ?_⟩;rcases h4 hl with⟨Z,h6⟩|⟨c,cur,Z,h6,h7,h8⟩
    .exact .inl ⟨by rw[g j f];exact Z,h6⟩
    .exact .inr ⟨c,cur,by rw[g j f];exact Z,h6,(W j c f Z).trans h7,h8⟩
  .by_cases f:j=id
   .subst f;obtain⟨d1,st1,G⟩:=G;rw[hH]at G;cases G
   .exact⟨by rw[g j f];exact E,by rw[Hset j f];exact G⟩
  .by_cases f:j=id
   .subst f;rw[hH]at E;cases E;exact⟨v+1,U,d',Hself,Nat.le_succ v,λhv=>absurd hv (by omega)⟩
   .exact⟨v0,st0,d0,by rw[Hset j f];exact E,ym _,λ_=>⟨g j f,λc cur M hc=>⟨cur,(W j c f M).trans hc,rfl⟩⟩⟩
  .by_cases f:j=id
   .subst f;rw[hH]at E;cases E
   .exact⟨v0,l,by rw[Hset j f];exact E,ym _,g j f,λ_=>⟨rfl,λc es clock M hc=>(W j c f M).trans hc⟩⟩
  .by_cases f:j=id
   .subst f;rw[hH]at E;cases E
   .exact⟨v0,l,by rw[Hset j f];exact E,ym _,λ_=>g j f⟩
 refine⟨⟨Y,eF,Q,hos,htape,hout,hsize,λc M hn _=>zB c M (λT=>hn id (by rw[hm,T])),λj c I=>.inl (y j c I).2,by rw[em,yax];exact ym _,λc z h=>.inl ⟨c,by rw[<-eX];exact h⟩⟩, ?_, ?_, ?_, ?_, ?_, ?_, ?_, ?_⟩
 .rw[em,eH,yax,yax];exact ok.len
 .intro i j c hi I;exact ok.inj i j c (y i c hi).2 (y j c I).2
 .intro i c hi;exact yda (ok.lt i c (y i c hi).2) hsize
 .intro i e1 a T ha;by_cases f:i=id
  .subst f;rw[S]at ha;rw[Hself]at T;cases T;cases ha;exact hent
  .rw[g i f]at ha;rw[Hset i f]at T;exact V6 Y (λc M=>W i c f (by rw[ha,M])) (λc z _ h=>⟨by rw[eX];exact h,zB z (ok.cQ c z h).1 λq=>(ok.cQ c z h).2.2.1 id (by rw[hm,q])⟩) (ok.cA i e1 a T ha)
 .intro c M;rw[Q];exact ok.new c (ybv hsize M)
 .intro i c hi;rw[Q];exact ok.own i c (y i c hi).2
 .intro c z h;rw[eX]at h;obtain⟨E,G,h3,i,e1,h4,Z,h6⟩:=ok.cQ c z h;refine⟨yda E hsize,by rw[Q];exact G,λj I=>h3 j (y j z I).2, ?_⟩;by_cases f:i=id
  .subst f;rw[hH]at Z;cases Z;cases h6
  .exact⟨i,e1,by rw[g i f];exact h4,by rw[Hset i f];exact Z,h6⟩
 .rw[eX];exact ok.one
theorem WE{J J':Sg}(ok:Ok J){mi:yO Nat}{en:ar}(eF:J'.F=J.F)(M:J'.B=J.B)(eH:J'.H=J.H++[en])(em:J'.m=J.m++[mi])
 (U:J.w.grownBy J'.w ad) (hmi:mi=ad\/∃b,mi=ab b/\J.w.heap.size<=b/\b < J'.w.heap.size) (hent:bO J J'->cW J' mi en) (eX:J'.X=J.X:=by rfl):To J J'/\Ok J':=by
 have Z:∀b,b < J.w.heap.size->J'.w.heap[b]? =J.w.heap[b]? :=λb Q=>U.block b Q (by simp)
 have S:∀j a,J.m[j]? =ab a->J'.m[j]? =ab a:=λj a h=>by
  rw[em,yaj (yp.1 h).1];exact h
 have y:∀j e,J.H[j]? =ab e->J'.H[j]? =ab e:=λj a h=>by
  rw[eH,yaj (yp.1 h).1];exact h
 have x:∀j a,J'.m[j]? =ab a->J.m[j]? =ab a\/(j=J.m.length/\a=mi):=λj a h=>by
  rw[em]at h;rcases yck j J.m.length with h1|h1
  .rw[yaj h1]at h;exact .inl h
  .rw[yan h1]at h;have z:j - J.m.length < 1:=(yp.1 h).1;have:j=J.m.length:=by omega
   subst this;simp at h;exact .inr ⟨rfl,h.symm⟩
 have hHr:∀j e,J'.H[j]? =ab e->J.H[j]? =ab e\/(j=J.H.length/\e=en):=λj a h=>by
  rw[eH]at h;rcases yck j J.H.length with h1|h1
  .rw[yaj h1]at h;exact .inl h
  .rw[yan h1]at h;have z:j - J.H.length < 1:=(yp.1 h).1;have:j=J.H.length:=by omega
   subst this;simp at h;exact .inr ⟨rfl,h.symm⟩
 have T:bO J J':=by
  refine⟨λb o v h1 g=>⟨?_, ?_, ?_⟩,λj b h1 g=> ?_,λj s len A c h1=> ?_,λj b h1 g=> ?_,λj v s st e d h1=>⟨v,st,d,y _ _ h1,ym _,λ_=>⟨?_,λb cur Q hc=>⟨cur,(Z b (ok.lt j b Q)).trans hc,rfl⟩⟩⟩,λj v t u l h=>⟨v,l,y _ _ h,ym _, ?_,λ_=>⟨rfl,λb es clock Q hc=>(Z b (ok.lt j b Q)).trans hc⟩⟩,λj v l h=>⟨v,l,y _ _ h,ym _,λ_=> ?_⟩⟩
  .rw[World.cell?_of_block (w:=J.w) (Z b (WP h1))];exact h1
  .rcases g.1 with h3|h3
   .exact .inl (by rw[eF];exact h3)
   .exact .inr (by rw[M];exact h3)
  .intro j e z he;rcases x j _ z with h3|⟨h3,W⟩
   .rcases hHr j _ he with f|⟨f,_⟩
    .exact g.2 j e h3 f
    .have:=(yp.1 h3).1;have:=ok.len;omega
   .rcases hmi with f|⟨b',f,E,_⟩
    .rw[f]at W;cases W
    .rw[f]at W;have:=WP h1;cases W;omega
  .obtain⟨d,st,g⟩:=g;exact⟨S _ _ h1,d,st,y _ _ g⟩
  .obtain⟨e,ys,g,h3,W⟩:=h1;refine⟨e,ys,y _ _ g,h3,λhl=> ?_⟩;rcases W hl with⟨f,E⟩|⟨b,cur,f,E,Y,h8⟩
   .exact .inl ⟨S _ _ f,E⟩
   .exact .inr ⟨b,cur,S _ _ f,E,(Z b (ok.lt j b f)).trans Y,h8⟩
  .obtain⟨d,st,g⟩:=g;exact⟨S _ _ h1,d,st,y _ _ g⟩
  .have z:j < J.m.length:=by rw[ok.len];exact(yp.1 h1).1
   rw[em,yaj z]
  .have z:j < J.m.length:=by rw[ok.len];exact(yp.1 h).1
   rw[em,yaj z]
  .have z:j < J.m.length:=by rw[ok.len];exact(yp.1 h).1
   rw[em,yaj z]
 refine⟨⟨T,eF,M,U.os,U.tape,U.output,U.size,λb Q _ _=>Z b Q,λj b z=> ?_,by rw[em,yn];omega,λb c h=>.inl ⟨b,by rw[<-eX];exact h⟩⟩, ?_, ?_, ?_, ?_, ?_, ?_, ?_, ?_⟩
 .rcases x j _ z with h|⟨_,h⟩
  .exact .inl h
  .rcases hmi with f|⟨b',f,E,_⟩
   .rw[f]at h;cases h
   .rw[f]at h;cases h;exact .inr E
 .rw[em,eH,yn,yn,ok.len];rfl
 .intro i j b hi z;rcases x i _ hi with h1|⟨h1,G⟩ <;> rcases x j _ z with g|⟨g,I⟩
  .exact ok.inj i j b h1 g
  .have:=ok.lt i b h1;rcases hmi with f|⟨b',f,E,_⟩
   .rw[f]at I;cases I
   .rw[f]at I;cases I;omega
  .have:=ok.lt j b g;rcases hmi with f|⟨b',f,E,_⟩
   .rw[f]at G;cases G
   .rw[f]at G;cases G;omega
  .rw[h1,g]
 .intro i b hi;rcases x i _ hi with h1|⟨_,h1⟩
  .exact yda (ok.lt i b h1) U.size
  .rcases hmi with f|⟨b',f,_,E⟩
   .rw[f]at h1;cases h1
   .rw[f]at h1;cases h1;exact E
 .intro i e a he ha;rcases hHr i _ he with h1|⟨h1,G⟩ <;> rcases x i _ ha with g|⟨g,I⟩
  .exact V6 T (λb Q=>Z b (ok.lt i b (by rw[g,Q]))) (λb c _ h=>⟨by rw[eX];exact h,Z c (ok.cQ b c h).1⟩) (ok.cA i e a h1 g)
  .have:=(yp.1 h1).1;have:=ok.len;omega
  .have:=(yp.1 g).1;have:=ok.len;omega
  .rw[G,I];exact hent T
 .intro b Q;rw[M];exact ok.new b (ybv U.size Q)
 .intro i b hi;rw[M];rcases x i _ hi with h1|⟨_,h1⟩
  .exact ok.own i b h1
  .rcases hmi with f|⟨b',f,E,_⟩
   .rw[f]at h1;cases h1
   .rw[f]at h1;cases h1;exact ok.new b E
 .intro b c h;rw[eX]at h;obtain⟨h1,g,h3,i,e,W,f,E⟩:=ok.cQ b c h;refine⟨yda h1 U.size,by rw[M];exact g,λj z=> ?_,i,e,S _ _ W,y _ _ f,E⟩;rcases x j _ z with Y|⟨_,Y⟩
  .exact h3 j Y
  .rcases hmi with h8|⟨b',h8,h9,_⟩
   .rw[h8]at Y;cases Y
   .rw[h8]at Y;cases Y;omega
 .rw[eX];exact ok.one
end Go.Ev
end
section
namespace Go.Ev
section
variable{P:yg}{o:Oper}{a:Act}{J:Sg}{ts:yL Dv}{hs hs':yL aj}{C:yL Prop}{d:Dv}
theorem ju{i:TypeInfo}(h:bP i=ae):∃z,i.zero=ab z/\z.cells.size=i.size:=by
 unfold bP at h;split at h
 .rename_i z c;exact⟨z,c,by simpa using h⟩
 .cases h
structure Src(P:yg)(w:yad)(u:yb)(size:Nat)(S:yh)(m:Nat)(zW:List yh):Prop where
 ty:(∃e',P.underlying u=ab (.slice e'))\/P.underlying u=ab .string
 len:∀w',(Builtin.lenOf S).run P w'=.ok m w'
 first:(Builtin.firstCells size m S).run P w=.ok zW.toArray w
 xN:(Builtin.firstCells size m S).run P w.drew=.ok zW.toArray w.drew
 cells:zW.length=m*size
theorem NM{w:yad}{S:Nat->Nat->Prop}{u y:yb}{s e:Nat}{xs:yL Pl}{A:yO Addr}{c:Nat}(hu:P.underlying u=ab (.slice y))(hs:e=s\/xs=[])(hsz:aT e xs)
 (z:xs≠[]->∃b o us,A=ab ⟨b,o,ad⟩/\ak w S xs us/\W9 w S b o us):
 ∃zW,Src P w u s (.slice A xs.length c) xs.length zW/\ak w S xs zW:=by
 rcases xs with _|⟨x,xs⟩
 .refine⟨[],⟨.inl ⟨_,hu⟩,λE=>rfl, ?_, ?_,by simp⟩,by simp[ak]⟩
  .cases A <;> simp[Builtin.firstCells,loadCells,loadCellsFrom]
  .cases A <;> simp[Builtin.firstCells,loadCells,loadCellsFrom]
 .have f:e=s:=by
   rcases hs with h|h
   .exact h
   .cases h
  subst f;obtain⟨b,o,us,rfl,m,t⟩:=z (by simp);have g:us.length=(x::xs).length*e:=by rw[aG _ _ m,aI hsz]
  refine⟨us,⟨.inl ⟨_,hu⟩,λE=>rfl, ?_, ?_,g⟩,m⟩
  .exact run_firstCells_some w e _ ⟨b,o,ad⟩ _ c us g (λj v l=>by rw[Addr.bB];exact(t j v l).1)
  .exact run_firstCells_some w.drew e _ ⟨b,o,ad⟩ _ c us g (λj v l=>by rw[Addr.bB];exact(t j v l).1)
theorem Zsg{w:yad}{t u ty e:yb}{i:TypeInfo}{S:yh}{zW:yL yh}(ht:P.underlying t=ab (.slice e))(hi:P.info? e=ab i)(f:Src P w u i.size S 0 zW):
 (Builtin.append_ #[t,u] ty #[.slice ad 0 0,S]).run P w=.ok (.slice ad 0 0) w:=by
 obtain⟨c,g,h,j,m⟩:=f
 rcases c with⟨l,hu⟩|hu <;>
  (simp[Builtin.append_,run_underlying ht,run_underlying hu,sizeOf,typeInfo,hi,g,h])
theorem xO{w:yad}{t u ty e s:yb}{i:TypeInfo}{S:yh}{m:Nat}{zW:yL yh}(ht:P.underlying t=ab (.slice e))(hi:P.info? e=ab i)(x:Src P w u i.size S m zW)
 (h1:∀v,v∈zW->v.oneCell'=ae) {g n cap:Nat} {cur:Array yh} (y:w.heap[g]? =ab (.cells cur s (0,0))) (c:n+m<=cap) (f:cur.size=cap*i.size):
 (Builtin.append_ #[t,u] ty #[.slice (ab ⟨g,0,ad⟩) n cap,S]).run P w=
   .ok (.slice (ab ⟨g,0,ad⟩) (n+m) cap) (w.setRow g (cur.toList.take (n*i.size)++zW++cur.toList.drop (n*i.size+zW.length)).toArray):=by
 obtain⟨l,z,A,E,F⟩:=x;have h:n*i.size+zW.length<=cur.size:=by rw[F,f, <-ybd];exact Nat.mul_le_mul_right _ c
 have j:=run_storeCells_at P g (n*i.size) s zW 0 cur w y (by simpa using h) h1;simp only[ycl]at j
 rcases l with⟨G,hu⟩|hu <;>
  (simp[Builtin.append_,run_underlying ht,run_underlying hu,sizeOf,typeInfo,hi,z,c,A,Addr.add_lit,j])
theorem xP{w:yad}{t u ty e:yb}{i:TypeInfo}{z:yh}{S:yh}{m:Nat}{zW olds:yL yh}(ht:P.underlying t=ab (.slice e))(hi:P.info? e=ab i)(hz:i.zero=ab z)
 (y:Src P w u i.size S m zW) {A:yO Addr} {n cap:Nat} (f:(Builtin.firstCells i.size n (.slice A n cap)).run P w.drew=.ok olds.toArray w.drew) (c:cap < n+m)
 (j:n+m<=maxLen) (hb:(n+m)*i.bytes<=Zn):
 (Builtin.append_ #[t,u] ty #[.slice A n cap,S]).run P w=
   .ok (.slice (ab ⟨w.heap.size,0,ad⟩) (n+m) (grownCap w (n+m) cap e)) (w.drew.alloc (.cells (olds.toArray++zW.toArray++Builtin.zeroCells z.cells (grownCap w (n+m) cap e - (n+m))) e)):=by
 obtain⟨l,E,I,s,M⟩:=y;have F:¬(n+m<=cap):=by omega
 have g:¬(9223372036854775807 < ((n:Int)+(m:Int))):=by
  simp only[maxLen]at j;omega
 have x:=growslice_fits (old:=cap) c (by simpa[Zn] using hb);have h:¬(281474976710656 < Builtin.nextslicecap (n+m) cap*i.bytes):=by omega
 rcases l with⟨G,hu⟩|hu <;>
  (simp[Builtin.append_,run_underlying ht,run_underlying hu,sizeOf,typeInfo,zeroValue,hi,hz,E,F,g,h,Question.forced,s,f,newRow,grownCap]
   congr 2;apply Array.ext';simp[yac])
theorem Xs(w:yad)(c:Obj)(row:yO Nat):w.grownBy (w.drew.alloc c) row:=
 let h:=World.grownBy_alloc w.drew c row
 ⟨h.os,h.tape,h.output,h.size,h.block⟩
theorem nW(T:ay J ts a){s:Nat}{u Q:yb}{x:yo}{ys:yL Pl}(h:gG P s u (Zo P ts Q x)=ab ys):
 ∃zW,Src P J.w u s (a.eval x) ys.length zW/\ak J.w J.aV ys zW/\(ys≠[]->aT s ys):=by
 have f:=Zh (P:=P) T Q x;unfold gG at h;split at h
 .rename_i e nn S U g j;split at h
  .rename_i hc;cases h;rw[j]at f;obtain⟨m,A,c,y,W,X,Y,Z,E⟩:=Wy f;rw[y]
   have t:S=s\/ys=[]:=by
    rcases hc with hc|hc
    .exact .inl hc
    .exact .inr (by simpa using hc)
   obtain⟨zW,F,G⟩:=NM (P:=P) (w:=J.w) (c:=c) g t m E;refine⟨zW,F,G,λI=> ?_⟩;rcases t with hc|hc
   .exact hc ▸ m
   .exact absurd hc I
  .cases h
 .rename_i e id nn S U g j;split at h
  .rename_i hc;cases h;rw[j]at f;obtain⟨m,A,c,y,W,X,Y,Z,E,_⟩:=kW f;rw[y];obtain⟨zW,F,G⟩:=NM (P:=P) (w:=J.w) (c:=c) g (.inl hc) m E;exact⟨zW,F,G,λ_=>hc ▸ m⟩
  .cases h
 .rename_i z g j;split at h
  .rename_i hc;cases h;subst hc;rw[j]at f;rw[nS f];have M:(z.data.toList.map λb=>Pl.int .u8 (b.toNat:Int)).length=z.size:=by rw[yx,ybh];rfl
   refine⟨z.data.toList.map λb=>Value.int .u8 (b.toNat:Int),⟨.inr g,λw'=>by rw[M];rfl, ?_, ?_,by simp⟩, ?_,λ_=> ?_⟩
   .rw[M];have:=Go.Lib.run_firstCells_string (P:=P) J.w 1 z;exact this
   .rw[M];have:=Go.Lib.run_firstCells_string (P:=P) J.w.drew 1 z;exact this
   .generalize z.data.toList=l
    induction l with
    |nil=>simp[ak]
    |cons b r ih=>simp only[yaf,ak];exact⟨[.int .u8 b.toNat],_,rfl,by simp[aq],ih⟩
   .intro q hq;obtain⟨b,_,rfl⟩:=ybj.1 hq;rfl
  .cases h
 .cases h
def my(P:yg)(J:Sg)(s:Nat)(u:yb)(S:yh)(ys:yL Pl):Prop:=∃c,Src P J.w u s S ys.length c/\ak J.w J.aV ys c/\(ys≠[]->aT s ys)
theorem Qt(ok:Ok J)(I:ay J ts a){t u ty e:yb}{i:TypeInfo}{y:yo}{ys:yL Pl}(ht:P.underlying t=ab (.slice e))(hi:P.info? e=ab i)(hz:bP i=ae)(x:i.size≠0)
 (c:my P J (P.cellsOf e) u (a.eval y) ys) (hb:ys.length*i.bytes<=Zn) (hm:ys.length<=maxLen):
 (ys=[]/\(Builtin.append_ #[t,u] ty #[.slice ad 0 0,a.eval y]).run P J.w=.ok (.slice ad 0 0) J.w)\/
 ∃zW yJ,ys≠[]/\aT i.size ys/\ak J.w J.aV ys zW/\ys.length<=grownCap J.w ys.length 0 e/\grownCap J.w ys.length 0 e<=maxLen/\
  (zW.toArray++yJ:Array yh).size=grownCap J.w ys.length 0 e*i.size/\
  (Builtin.append_ #[t,u] ty #[.slice ad 0 0,a.eval y]).run P J.w=.ok (.slice (ab ⟨J.w.heap.size,0,ad⟩) ys.length (grownCap J.w ys.length 0 e)) (J.w.drew.alloc (.cells (zW.toArray++yJ) e)):=by
 have h:P.cellsOf e=i.size:=by simp[Program.cellsOf,hi]
 rw[h]at c;obtain⟨zW,g,E,F⟩:=c;rcases Nat.eq_zero_or_pos ys.length with h0|h0
 .refine .inl ⟨ybo h0, ?_⟩;rw[h0]at g;exact Zsg ht hi g
 .have f:ys≠[]:=by
   rintro rfl;simp at h0
  obtain⟨z,j,l⟩:=ju hz;have s:=xP (P:=P) (ty:=ty) (A:=ad) (n:=0) (cap:=0) (olds:=[]) ht hi j g (by simp[Builtin.firstCells]) (by omega) (by omega) (by simpa using hb);simp only[yau]at s;have m:=grownCap_ge J.w ys.length 0 e;refine .inr ⟨zW,Builtin.zeroCells z.cells (grownCap J.w ys.length 0 e - ys.length),f,F f,E,m,grownCap_le_maxLen J.w ys.length 0 e hm, ?_,by simpa using s⟩;have G:=g.cells;simp only[Array.size_append,List.size_toArray,size_zeroCells,l,G, <-ybd];congr 1;omega
theorem nX{J':Sg}{b:Nat}{cells:yL yh}{cs:Array yh}{t:yb}(hb:J'.w.heap[b]? =ab (.cells cs t (0,0)))(c:∀o,o < cells.length->J'.aV b o)(hp:cs.toList.take cells.length=cells):W9 J'.w J'.aV b 0 cells:=by
 intro j u e;have f:j < cells.length:=(yp.1 e).1;rw[yau];refine⟨?_,c j f⟩;rw[cell_of_row J'.w b j cs t (0,0) hb, <-ybr];rw[<-hp,List.getElem?_take,yW f]at e;exact e
theorem xQ{J':Sg}{s:Nat}{xs:yL Pl}{b c:Nat}{cells:yL yh}{cs:Array yh}{t:yb}{nn:yO Bool}(f:ij nn (ab ⟨b,0,ad⟩))(ok:Ok J')(h:aT s xs)(j:ak J'.w J'.aV xs cells)(hb:J'.w.heap[b]? =ab (.cells cs t (0,0)))
 (e:J'.B b) (g:∀(id:Nat),J'.m[id]? ≠ab (ab b)) (hp:cs.toList.take cells.length=cells) (hc:xs.length<=c) (hm:c<=maxLen):yH J' (.p (.sl nn s xs)) (.slice (ab ⟨b,0,ad⟩) xs.length c):=
 Yp h hc hm f (by simp) (λ_=>⟨b,0,cells,rfl,j,nX hb (λo _=>xB ok e g) hp⟩)
end
end Go.Ev
end
