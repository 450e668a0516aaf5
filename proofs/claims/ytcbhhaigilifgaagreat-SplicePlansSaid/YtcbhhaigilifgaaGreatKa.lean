/- Parts of the proof, in one file. -/
import Derived.WalkKit
import Derived.Lib.Bytealg
import Derived.Maps.AppendAt
import Derived.Lib.AppendStr
import Derived.Laws.Externs
import Derived.KernelRfl
import Derived.Lib.SlBytesRow
import Derived.Lib.BufferRead
import Derived.Lib.ConvBytes
import Derived.Lib.BytesEntry
import Derived.ChangeKeysEq
import Derived.Laws.StructEq
import Derived.MapKept
import Derived.WideKeyRuns
import Derived.Scope
import Derived.Below
import Derived.ChangeSame
import Derived.ChangeCalls
import Derived.ChangeStays
import Derived.OpenShut
import Derived.ProofKit
import Derived.JoinedCond
import Derived.Test.YtcbhhaigilifgaaGreatProg
import Derived.Lib.Walk
import Derived.Lib.SliceRun
import Derived.Lib.AppendZerosOnto
import Derived.RangeFuncOwn
import Derived.RangeFuncLeaves
import Derived.RangeFuncRecord
import Derived.TacticsIn
import Derived.OwnWalkIn
import Derived.OrdersIn
import Derived.Shelf.Abstract
import Derived.Laws.NewBlocks
import Derived.Test.YtcbhhaigilifgaaGreatRows
open Option renaming some → ab, none → ad
open Bool renaming true → ae, false → af
open Decidable renaming decide → ag
abbrev yL.{u}(α:Type u):=List α
abbrev yO.{u}(α:Type u):=Option α
abbrev yU:=UInt64
abbrev yB:=UInt8
abbrev yV:=UInt32
theorem zP:True:=trivial
theorem yW.{u}{c:Prop}{h:Decidable c}(hc:c){α:Sort u}{t e:α}:(ite c t e)=t:=if_pos hc
theorem yX.{u}{c:Prop}{h:Decidable c}(hc:¬c){α:Sort u}{t e:α}:(ite c t e)=e:=if_neg hc
theorem yY{p:Prop}[f:Decidable p](h:p):decide p=ae:=decide_eq_true h
theorem yZ{p:Prop}[f:Decidable p](h:¬p):decide p=af:=decide_eq_false h
theorem yP{p:Prop}[Decidable p]:(decide p=ae)=p:=decide_eq_true_eq
theorem yN{p:Prop}[Decidable p]:decide p=ae↔p:=decide_eq_true_iff
theorem yT.{u}{α:Type u}[BEq α][LawfulBEq α]{a b:α}:(a==b)=ae↔a=b:=beq_iff_eq
theorem yE.{u}{α:Type u}[BEq α][LawfulBEq α]{a b:α}:(a != b)=ae↔a≠b:=bne_iff_ne
theorem yF{p:Prop}[f:Decidable p](h:decide p=ae):p:=of_decide_eq_true h
open Array renaming length_toList → ybu, toArray_toList → ycf, getElem?_toList → ycl
open BitVec renaming ofInt → ybz
open Bool renaming and_eq_true → yi
open Go renaming TypeId → yc, Program → yg, Value → yh, Oper → yj, Operand → yp, FuncId → yr, World → yy
open List renaming length_append → yl, range → yn, getElem?_eq_some_iff → yu, replicate → yx, length_map → yaa, append_assoc → yab, length_take → yac, getElem?_eq_getElem → yad, cons_append → yaf, map_cons → yag, length_cons → yah, getElem?_map → yak, all_eq_true → yan, getElem?_cons_succ → yaq, getElem?_append_right → yas, getElem?_cons_zero → yav, mem_cons_self → yay, mem_cons_of_mem → yaz, getElem?_append_left → ybd, mem_singleton → ybf, take_append_drop → ybg, eq_nil_of_length_eq_zero → ybh, ext_getElem? → ybl, length_set → ybp, mem_of_mem_take → ybw, mem_map → ybx, getElem?_set → yby, take_of_length_le → ycj, mem_append → ycr, getElem?_take → yct
open Nat renaming le_refl → ym, zero_add → yax, min_eq_left → ybb, add_mul → ybc, le_trans → ybr, mul_le_mul_right → ycb, add_zero → ych
open Option renaming bind_eq_some_iff → yf, map_eq_some_iff → yv
open Option.some renaming injEq → yo, inj → ybq
open Prod.mk renaming injEq → yq
set_option linter.unusedVariables false
set_option linter.unusedSimpArgs false
namespace Go.Ev
abbrev dn:yL yB:=[0,0,0,0,0,0,0,0,0,0,0,0,0,0,0,0,0,0,0,0,0,0,0,0,0,0,0,0,0,0,0,0]
theorem cZ {c:Prop} [Decidable c] (h:¬c):¬decide c=ae:=by simpa using h
theorem ao:True:=trivial
end Go.Ev
section
namespace Go.Ev
inductive Pl where
 |int (k:IntKind) (n:Int)
 |bool (b:Bool)
 |str (s:ByteArray)
 |cb|fn0|ew|cD
 |gG (f:yr)
 |agg (xs:List Pl)
 |arr (n s:Nat) (xs:List Pl)
 |sl (nn:Option Bool) (s:Nat) (xs:List Pl)
 |iface (t:yc) (x:Pl)
 deriving Inhabited
mutual
def Pl.size:Pl->Nat
 |.agg f=>Pl.sizes f
 |.arr n s _=>n*s
 |_=>1
def Pl.sizes:yL Pl->Nat
 |[]=>0
 |x::r=>x.size+Pl.sizes r
end
def Pl.isAgg:Pl->Bool
 |.agg _=>ae
 |.arr _ _ _=>ae
 |_=>af
def bc(s:Nat)(xs:yL Pl):Prop:=∀x,x∈xs->x.size=s
def iY(nn:yO Bool)(A:yO Addr):Prop:=∀b,nn=ab b->A.isSome=b
theorem Yk(A:yO Addr):iY ad A:=λb h=>by cases h
theorem kR{A:yO Addr}(h:A.isSome=ae):iY (ab ae) A:=λb e=>by cases e;exact h
theorem RU{A:yO Addr}(h:A=ad):iY (ab af) A:=λb e=>by cases e;rw[h];rfl
def W9(w:yy)(S:Nat->Nat->Prop)(b o:Nat)(us:yL yh):Prop:=
 ∀j u,us[j]? =ab u->w.cell? ⟨b,o+j,ad⟩=ab u/\S b (o+j)
mutual
def aA(w:yy)(S:Nat->Nat->Prop):Pl->yL yh->Prop
 |.int k n,vs=>vs=[.int k n]
 |.bool b,vs=>vs=[.bool b]
 |.str s,vs=>vs=[.string s]
 |.cb,vs=>vs=[.pointer ad]
 |.fn0,vs=>vs=[.nilFunc]
 |.ew,vs=>vs=[.nilIface]
 |.cD,vs=>vs=[.map ad]
 |.gG f,vs=>vs=[.func (.func f) #[] #[]]
 |.agg g,vs=>au w S g vs
 |.arr n s g,vs=>g.length=n/\bc s g/\au w S g vs
 |.sl l s g,vs=>bc s g/\∃A c,vs=[.slice A g.length c]/\g.length<=c/\c<=maxLen/\iY l A/\(A=ad->c=0)/\
   (g≠[]->∃b o h,A=ab ⟨b,o,ad⟩/\au w S g h/\W9 w S b o h)
 |.iface t x,vs=>∃v,vs=[.iface t v]/\(x.isAgg=ae->∃j:Array yh,v=.agg j/\aA w S x j.toList)/\(x.isAgg=af->aA w S x [v])
def au(w:yy)(S:Nat->Nat->Prop):yL Pl->yL yh->Prop
 |[],vs=>vs=[]
 |x::h,vs=>∃g f,vs=g++f/\aA w S x g/\au w S h f
end
mutual
def Pl.soft:Pl->Pl
 |.agg f=>.agg (Pl.cN f)
 |.arr n s f=>.arr n s (Pl.cN f)
 |.sl _ s f=>.sl ad s f
 |.iface t x=>.iface t (Pl.soft x)
 |x=>x
def Pl.cN:yL Pl->yL Pl
 |[]=>[]
 |x::r=>x.soft::Pl.cN r
end
inductive Dv where
 |p (x:Pl)
 |elem (x:Pl)
 |aj (id off:Nat) (yQ:List Nat)
 |own (id:Nat) (nn:Option Bool) (s:Nat) (xs:List Pl)
 |view (id off:Nat) (yQ:List Nat) (s lo n:Nat)
 |agg (xs:List Dv)
 |arr (n s:Nat) (xs:List Dv)
 |fn (f:yr) (cap:List Dv)
 |iface (t:yc) (x:Dv)
 |bm (xs:List Dv)
 |mp (id:Nat)
 |rv (id v s lo n:Nat)
 |ba (id v off:Nat) (yQ:List Nat)
 |ak
 deriving Inhabited
mutual
def Dv.size:Dv->Nat
 |.p x=>x.size
 |.agg f=>Dv.sizes f
 |.arr n s _=>n*s
 |_=>1
def Dv.sizes:yL Dv->Nat
 |[]=>0
 |x::r=>x.size+Dv.sizes r
end
def Dv.isAgg:Dv->Bool
 |.p x=>x.isAgg
 |.agg _=>ae
 |.arr _ _ _=>ae
 |_=>af
inductive aq where
 |var (d:Dv) (st:Bool)
 |log (s:Nat) (e:yc) (xs:List Pl)
 |map (t:yc) (bU:List (Pl×Pl))
 |row (v s:Nat) (st:Bool) (e:yc) (d:Dv)
 |gone
 deriving Inhabited
structure Sg where
 F:Nat->Nat->Prop
 B:Nat->Prop
 m:List (Option Nat)
 H:List aq
 w:yy
def aS:Dv->Nat->yO Nat
 |.p (.arr n f _),s=>if f=s then ab n else ad
 |.arr n f _,s=>if f=s then ab n else ad
 |_,_=>ad
def aq.bw:aq->Nat->Prop
 |.var _ st,_=>st=af
 |.log s _ f,o=>o < f.length*s
 |.map _ _,_=>False
 |.row _ s st _ d,o=>st=af/\∃N,aS d s=ab N/\o < N*s
 |.gone,_=>True
def Sg.bh(J:Sg)(b o:Nat):Prop:=
 (J.F b o\/J.B b)/\∀(id:Nat)(e:aq),J.m[id]? =ab (ab b)->J.H[id]? =ab e->e.bw o
def dc(J:Sg)(id s:Nat)(len:Nat)(A:yO Addr)(c:Nat):Prop:=
 ∃e g,J.H[id]? =ab (.log s e g)/\len<=g.length/\(g.length=len->
  (J.m[id]? =ab ad/\A=ad/\c=0)\/
  ∃b f,J.m[id]? =ab (ab b)/\A=ab ⟨b,0,ad⟩/\J.w.heap[b]? =ab (.cells f e (0,0))/\f.size=c*s)
def rowAt(J:Sg)(id v s lo:Nat)(A:yO Addr)(c:Nat):Prop:=
 ∃g h st e d,J.H[id]? =ab (.row g h st e d)/\v<=g/\(g=v->h=s/\
  ((J.m[id]? =ab ad/\A=ad/\lo+c=0)\/∃b f,J.m[id]? =ab (ab b)/\J.w.heap[b]? =ab (.cells f e (0,0))/\f.size=(lo+c)*s/\(0 < c->A=ab ⟨b,lo*s,ad⟩)))
def rowIs(J:Sg)(id v b o off:Nat):Prop:=∃f s st e d,J.H[id]? =ab (.row f s st e d)/\v<=f/\(f=v->J.m[id]? =ab (ab b)/\o=off)
def big:Nat:=4294967296
def fI(f:yr):yr:=if f < big then f else f - big
mutual
def yH(J:Sg):Dv->yL yh->Prop
 |.p x,vs=>aA J.w J.bh x vs
 |.elem x,vs=>∃b o j,vs=[.pointer (ab ⟨b,o,ad⟩)]/\aA J.w J.bh x j/\W9 J.w J.bh b o j
 |.aj id off _,vs=>∃b,J.m[id]? =ab (ab b)/\(∃d st,J.H[id]? =ab (.var d st))/\vs=[.pointer (ab ⟨b,off,ad⟩)]
 |.own id z s g,vs=>bc s g/\∃A c,vs=[.slice A g.length c]/\g.length<=c/\c<=maxLen/\iY z A/\(A=ad->c=0)/\
   (g≠[]->∃b o j,A=ab ⟨b,o,ad⟩/\au J.w J.bh g j/\W9 J.w J.bh b o j)/\dc J id s g.length A c
 |.view id off _ s lo n,vs=>∃b c a,J.m[id]? =ab (ab b)/\(∃d st,J.H[id]? =ab (.var d st))/\vs=[.slice (ab a) n c]/\n<=c/\c<=maxLen/\
   (0 < n->a=⟨b,off+lo*s,ad⟩)
 |.agg g,vs=>aM J g vs
 |.arr n s g,vs=>g.length=n/\(∀x,x∈g->x.size=s)/\aM J g vs
 |.fn f l,vs=>∃y h,vs=[.func (.func (fI f)) y h]/\(if f < big then y else h)= #[]/\aH J l (y++h).toList
 |.iface t x,vs=>∃v,vs=[.iface t v]/\(x.isAgg=ae->∃h:Array yh,v=.agg h/\yH J x h.toList)/\(x.isAgg=af->yH J x [v])
 |.bm g,vs=>∃h,vs=[.tuple h]/\aH J g h.toList
 |.mp id,vs=>∃b,J.m[id]? =ab (ab b)/\(∃t bU,J.H[id]? =ab (.map t bU))/\vs=[.map (ab b)]
 |.rv id v s lo n,vs=>∃A c,vs=[.slice A n c]/\n<=c/\c<=maxLen/\(A=ad->c=0)/\(0 < n->∃b o,A=ab ⟨b,o,ad⟩)/\rowAt J id v s lo A c
 |.ba id v off _,vs=>∃b o,vs=[.pointer (ab ⟨b,o,ad⟩)]/\rowIs J id v b o off
 |.ak,vs=>vs.length=1
def aM(J:Sg):yL Dv->yL yh->Prop
 |[],vs=>vs=[]
 |x::h,vs=>∃g f,vs=g++f/\yH J x g/\aM J h f
def aH(J:Sg):yL Dv->yL yh->Prop
 |[],vs=>vs=[]
 |x::h,vs=>∃v f,vs=v::f/\((x.isAgg=ae->∃g:Array yh,v=.agg g/\yH J x g.toList)/\(x.isAgg=af->yH J x [v]))/\aH J h f
end
def yJ(J:Sg)(d:Dv)(v:yh):Prop:=
 (d.isAgg=ae->∃f:Array yh,v=.agg f/\yH J d f.toList)/\(d.isAgg=af->yH J d [v])
theorem W9.mono{w w':yy}{S S':Nat->Nat->Prop}(h:∀(b o:Nat)(v:yh),w.cell? ⟨b,o,ad⟩=ab v->S b o->w'.cell? ⟨b,o,ad⟩=ab v/\S' b o)
 {b o:Nat} {us:yL yh} (hc:W9 w S b o us):W9 w' S' b o us:=
 λj u f=>let ⟨g,l⟩:=hc j u f;h _ _ _ g l
mutual
theorem lW{w w':yy}{S S':Nat->Nat->Prop}(h:∀(b o:Nat)(v:yh),w.cell? ⟨b,o,ad⟩=ab v->S b o->w'.cell? ⟨b,o,ad⟩=ab v/\S' b o):∀(x:Pl)(vs:yL yh),aA w S x vs->aA w' S' x vs
 |.int _ _,_,f=>by simpa[aA] using f
 |.bool _,_,f=>by simpa[aA] using f
 |.str _,_,f=>by simpa[aA] using f
 |.cb,_,f=>by simpa[aA] using f
 |.fn0,_,f=>by simpa[aA] using f
 |.ew,_,f=>by simpa[aA] using f
 |.cD,_,f=>by simpa[aA] using f
 |.gG _,_,f=>by simpa[aA] using f
 |.agg g,vs,f=>by
  simp only[aA]at f ⊢
  exact aD h g vs f
 |.arr n s g,vs,f=>by
  simp only[aA]at f ⊢
  exact⟨f.1,f.2.1,aD h g vs f.2.2⟩
 |.sl U s g,vs,f=>by
  simp only[aA]at f ⊢;obtain⟨j,A,c,l,m,G,I,M,Q⟩:=f;refine⟨j,A,c,l,m,G,I,M,λy=> ?_⟩;obtain⟨b,o,F,z,B,R⟩:=Q y
  exact⟨b,o,F,z,aD h g F B,R.mono h⟩
 |.iface t x,vs,f=>by
  simp only[aA]at f ⊢;obtain⟨v,j,l,m⟩:=f;refine⟨v,j,λE=> ?_,λE=>lW h x _ (m E)⟩;obtain⟨T,z,B⟩:=l E;exact⟨T,z,lW h x _ B⟩
theorem aD{w w':yy}{S S':Nat->Nat->Prop}(h:∀(b o:Nat)(v:yh),w.cell? ⟨b,o,ad⟩=ab v->S b o->w'.cell? ⟨b,o,ad⟩=ab v/\S' b o):∀(xs:yL Pl)(vs:yL yh),au w S xs vs->au w' S' xs vs
 |[],_,g=>by simpa[au] using g
 |x::xs,vs,g=>by
  simp only[au]at g ⊢;obtain⟨j,f,l,m,y⟩:=g;exact⟨j,f,l,lW h x j m,aD h xs f y⟩
end
structure cl(J J':Sg):Prop where
 cells:∀(b o:Nat)(v:yh),J.w.cell? ⟨b,o,ad⟩=ab v->J.bh b o->J'.w.cell? ⟨b,o,ad⟩=ab v/\J'.bh b o
 var:∀(id b:Nat),J.m[id]? =ab (ab b)->(∃d st,J.H[id]? =ab (.var d st))->J'.m[id]? =ab (ab b)/\∃d st,J'.H[id]? =ab (.var d st)
 front:∀(id s len:Nat)(A:Option Addr)(c:Nat),dc J id s len A c->dc J' id s len A c
 map:∀(id b:Nat),J.m[id]? =ab (ab b)->(∃t bU,J.H[id]? =ab (.map t bU))->J'.m[id]? =ab (ab b)/\∃t bU,J'.H[id]? =ab (.map t bU)
 row:∀(id v s:Nat)(st:Bool)(e:yc)(d:Dv),J.H[id]? =ab (.row v s st e d)->∃v' st' d',J'.H[id]? =ab (.row v' s st' e d')/\v<=v'/\(v'=v->J'.m[id]? =J.m[id]? /\
  ∀b cur,J.m[id]? =ab (ab b)->J.w.heap[b]? =ab (.cells cur e (0,0))->∃cur',J'.w.heap[b]? =ab (.cells cur' e (0,0))/\cur'.size=cur.size)
theorem cl.refl(J:Sg):cl J J:=⟨λ_ _ _ a b=>⟨a,b⟩,λ_ _ a b=>⟨a,b⟩,λ_ _ _ _ _ a=>a,λ_ _ a b=>⟨a,b⟩,λ_ v _ st _ d h=>⟨v,st,d,h,ym _,λ_=>⟨rfl,λb f _ g=>⟨f,g,rfl⟩⟩⟩⟩
theorem cl.trans{a b c:Sg}(h:cl a b)(k:cl b c):cl a c:=
 ⟨λx o v f g=>let ⟨j,m⟩:=h.cells x o v f g;k.cells x o v j m,λi x f g=>let ⟨j,m⟩:=h.var i x f g;k.var i x j m,
  λi s l A I f=>k.front i s l A I (h.front i s l A I f),λi x f g=>let ⟨j,m⟩:=h.map i x f g;k.map i x j m,
  λi v s st e d f=>by
   obtain⟨B,E,d2,S,T,U⟩:=h.row i v s st e d f;obtain⟨M,F,d3,W,X,Y⟩:=k.row i B s E e d2 S;refine⟨M,F,d3,W,ybr T X,λhv=> ?_⟩;have Z:B=v:=by omega
   have e2:M=B:=by omega
   obtain⟨Q,p2⟩:=U Z;obtain⟨q1,q2⟩:=Y e2;refine⟨q1.trans Q,λb G R hc=> ?_⟩;obtain⟨y,r1,r2⟩:=p2 b G R hc;obtain⟨z,r3,r4⟩:=q2 b y (by rw[Q];exact R) r1;exact⟨z,r3,by rw[r4,r2]⟩⟩
theorem ZC5{J J':Sg}(h:cl J J'){id v s lo:Nat}{A:yO Addr}{c:Nat}:rowAt J id v s lo A c->rowAt J' id v s lo A c:=by
 rintro⟨y,E,st,e,d,F,G,I⟩;obtain⟨z,j,d2,M,Q,R⟩:=h.row _ _ _ _ _ _ F;refine⟨z,E,j,e,d2,M,ybr G Q,λhv=> ?_⟩;have S:y=v:=by omega
 have T:z=y:=by omega
 obtain⟨B,U⟩:=R T;obtain⟨W,X⟩:=I S;refine⟨W, ?_⟩;rcases X with⟨g,l⟩|⟨b,m,g,l,Y,Z⟩
 .exact .inl ⟨by rw[B,g],l⟩
 .obtain⟨f,b1,b2⟩:=U b m g l;exact .inr ⟨b,f,by rw[B,g],b1,by rw[b2,Y],Z⟩
theorem ZC6{J J':Sg}(h:cl J J'){id v b o off:Nat}:rowIs J id v b o off->rowIs J' id v b o off:=by
 rintro⟨g,l,st,e,d,m,y,z⟩;obtain⟨j,f,d2,A,B,E⟩:=h.row _ _ _ _ _ _ m;refine⟨j,l,f,e,d2,A,ybr y B,λI=> ?_⟩;have F:g=v:=by omega
 have G:j=g:=by omega
 rw[(E G).1];exact z F
mutual
theorem Yb{J J':Sg}(h:cl J J'):∀(d:Dv)(vs:yL yh),yH J d vs->yH J' d vs
 |.p x,vs,g=>by
  simp only[yH]at g ⊢
  exact lW h.cells x vs g
 |.elem x,vs,g=>by
  simp only[yH]at g ⊢;obtain⟨b,o,z,j,l,m⟩:=g
  exact⟨b,o,z,j,lW h.cells x z l,m.mono h.cells⟩
 |.aj id off T,vs,g=>by
  simp only[yH]at g ⊢;obtain⟨b,j,l,m⟩:=g
  exact⟨b,(h.var id b j l).1,(h.var id b j l).2,m⟩
 |.own id nn s y,vs,g=>by
  simp only[yH]at g ⊢;obtain⟨j,A,c,l,m,E,F,G,U,W⟩:=g;refine⟨j,A,c,l,m,E,F,G,λI=> ?_,h.front _ _ _ _ _ W⟩;obtain⟨b,o,z,M,Q,X⟩:=U I
  exact⟨b,o,z,M,aD h.cells y z Q,X.mono h.cells⟩
 |.view id off T s lo n,vs,g=>by
  simp only[yH]at g ⊢;obtain⟨b,c,a,j,l,m⟩:=g
  exact⟨b,c,a,(h.var id b j l).1,(h.var id b j l).2,m⟩
 |.agg y,vs,g=>by
  simp only[yH]at g ⊢
  exact dN h y vs g
 |.arr n s y,vs,g=>by
  simp only[yH]at g ⊢
  exact⟨g.1,g.2.1,dN h y vs g.2.2⟩
 |.fn f R,vs,g=>by
  simp only[yH]at g ⊢;obtain⟨Y,B,j,Z,l⟩:=g
  exact⟨Y,B,j,Z,cS h R _ l⟩
 |.iface t x,vs,g=>by
  simp only[yH]at g ⊢;obtain⟨v,j,l,m⟩:=g;refine⟨v,j,λS=> ?_,λS=>Yb h x _ (m S)⟩;obtain⟨B,M,Q⟩:=l S
  exact⟨B,M,Yb h x _ Q⟩
 |.bm y,vs,g=>by
  simp only[yH]at g ⊢;obtain⟨B,j,l⟩:=g
  exact⟨B,j,cS h y _ l⟩
 |.mp id,vs,g=>by
  simp only[yH]at g ⊢;obtain⟨b,j,l,m⟩:=g
  exact⟨b,(h.map id b j l).1,(h.map id b j l).2,m⟩
 |.rv id v s lo n,vs,g=>by
  simp only[yH]at g ⊢;obtain⟨A,c,j,l,m,E,F,G⟩:=g
  exact⟨A,c,j,l,m,E,F,ZC5 h G⟩
 |.ba id v off T,vs,g=>by
  simp only[yH]at g ⊢;obtain⟨b,o,j,l⟩:=g
  exact⟨b,o,j,ZC6 h l⟩
 |.ak,_,g=>by simpa[yH] using g
theorem dN{J J':Sg}(h:cl J J'):∀(j:yL Dv)(vs:yL yh),aM J j vs->aM J' j vs
 |[],_,g=>by simpa[aM] using g
 |x::m,vs,g=>by
  simp only[aM]at g ⊢;obtain⟨l,f,y,z,A⟩:=g;exact⟨l,f,y,Yb h x l z,dN h m f A⟩
theorem cS{J J':Sg}(h:cl J J'):∀(l:yL Dv)(vs:yL yh),aH J l vs->aH J' l vs
 |[],_,g=>by simpa[aH] using g
 |x::m,vs,g=>by
  simp only[aH]at g ⊢;obtain⟨v,f,y,⟨z,A⟩,B⟩:=g;refine⟨v,f,y,⟨λj=> ?_,λj=>Yb h x _ (A j)⟩,cS h m f B⟩;obtain⟨E,F,G⟩:=z j;exact⟨E,F,Yb h x _ G⟩
end
theorem Qa{J J':Sg}(h:cl J J'){d:Dv}{v:yh}(g:yJ J d v):yJ J' d v:=by
 obtain⟨j,l⟩:=g;refine⟨λf=> ?_,λf=>Yb h d _ (l f)⟩;obtain⟨m,y,z⟩:=j f;exact⟨m,y,Yb h d _ z⟩
def io(J:Sg):yL (Pl×Pl)->yL MapEntry->Prop
 |[],[]=>True
 |q::r,e::f=>yJ J (.p q.1) e.key/\yJ J (.p q.2) e.val/\io J r f
 |_,_=>False
def kf(J:Sg)(bU:yL (Pl×Pl))(es:yL MapEntry):Prop:=∃l,l.Perm bU/\(bU.map (·.1)).Nodup/\io J l es
def nh(es:Array MapEntry)(f:Nat):Prop:=
 (∀(q:Nat)g,es[q]? =ab g->g.born < f)/\∀(q j:Nat)g h,es[q]? =ab g->es[j]? =ab h->g.born=h.born->q=j
def dw(J:Sg)(a:yO Nat):aq->Prop
 |.var d _=>∃b l t,a=ab b/\J.w.heap[b]? =ab (.cells l t (0,0))/\yH J d (l.toList.take d.size)/\d.size<=l.size
 |.log s e j=>(a=ad/\j=[])\/
   ∃b f g,a=ab b/\J.w.heap[b]? =ab (.cells f e (0,0))/\f.size=g*s/\j.length<=g/\g<=maxLen/\bc s j/\
    au J.w J.bh j (f.toList.take (j.length*s))
 |.map _ bU=>∃b m h,a=ab b/\J.w.heap[b]? =ab (.map m h)/\kf J bU m.toList/\nh m h
 |.row _ s _ e d=>∃N,aS d s=ab N/\((a=ad/\N=0)\/
   ∃b f g,a=ab b/\J.w.heap[b]? =ab (.cells f e (0,0))/\f.size=g*s/\N<=g/\g<=maxLen/\yH J d (f.toList.take (N*s)))
 |.gone=>True
structure Ok(J:Sg):Prop where
 len:J.m.length=J.H.length
 inj:∀(i j b:Nat),J.m[i]? =ab (ab b)->J.m[j]? =ab (ab b)->i=j
 lt:∀(i b:Nat),J.m[i]? =ab (ab b)->b < J.w.heap.size
 dx:∀(i:Nat)(e:aq)(a:Option Nat),J.H[i]? =ab e->J.m[i]? =ab a->dw J a e
 new:∀(b:Nat),J.w.heap.size<=b->J.B b
 own:∀(i b:Nat),J.m[i]? =ab (ab b)->J.B b
structure To(J J':Sg):Prop where
 leaf:cl J J'
 F:J'.F=J.F
 B:J'.B=J.B
 os:J'.w.os=J.w.os
 tape:J'.w.tape=J.w.tape
 output:J'.w.output=J.w.output
 size:J.w.heap.size<=J'.w.heap.size
 block:∀(b:Nat),b < J.w.heap.size->(∀(id:Nat),J.m[id]? ≠ab (ab b))->J'.w.heap[b]? =J.w.heap[b]?
 same:∀(id b:Nat),J'.m[id]? =ab (ab b)->J.m[id]? =ab (ab b)\/J.w.heap.size<=b
 len:J.m.length<=J'.m.length
theorem To.refl(J:Sg):To J J:=⟨cl.refl J,rfl,rfl,rfl,rfl,rfl,ym _,λ_ _ _=>rfl,λ_ _ h=>.inl h,ym _⟩
theorem To.trans{a b c:Sg}(h:To a b)(k:To b c):To a c where
 leaf:=h.leaf.trans k.leaf
 F:=k.F.trans h.F
 B:=k.B.trans h.B
 os:=k.os.trans h.os
 tape:=k.tape.trans h.tape
 output:=k.output.trans h.output
 size:=ybr h.size k.size
 block x hx hn:=(k.block x (Nat.lt_of_lt_of_le hx h.size) (λid he=>by
  rcases h.same id x he with h1|h1
  .exact hn id h1
  .omega)).trans (h.block x hx hn)
 same id x hx:=by
  rcases k.same id x hx with h1|h1
  .exact h.same id x h1
  .exact .inr (ybr h.size h1)
 len:=ybr h.len k.len
def bZ(P:yg)(f:yr)(args:yL Dv)(H:yL aq)(r:Dv)(H':yL aq):Prop:=
 ∀(J:Sg)(vs:yL yh),Ok J->J.H=H->aH J args vs->
  Calls P f vs.toArray J.w λe g=>∃v J',e=.returned v/\J'.w=g/\J'.H=H'/\To J J'/\Ok J'/\yJ J' r v
structure aB(J:Sg)(ts:List Dv)(a:Act):Prop where
 size:a.tmps.size=ts.length
 at_:∀(i:Nat)(d:Dv),ts[i]? =ab d->yJ J d (a.tmps.getD i undef)
 defers:a.defers=[]
theorem aB.to{J J':Sg}{ts:yL Dv}{a:Act}(h:aB J ts a)(k:cl J J'):aB J' ts a:=
 ⟨h.size,λi d f=>Qa k (h.at_ i d f),h.defers⟩
inductive Ex where
 |normal
 |exit (id:Nat)
 |ret
 deriving DecidableEq,Inhabited
def Ex.to:Ex->Exit
 |.normal=>.normal
 |.exit id=>.exit id
 |.ret=>.ret
def XZ(P:yg)(c:Code)(ts:yL Dv)(H:yL aq)(f:Ex)(ts':yL Dv)(H':yL aq):Prop:=
 ∀(J:Sg)(a:Act),Ok J->J.H=H->aB J ts a->
  c.wp P (λe g h=>e=f.to/\∃J',J'.w=h/\J'.H=H'/\To J J'/\Ok J'/\aB J' ts' g) a J.w
inductive ar where
 |b (t:Bool)
 |el (x:Pl)
 |bare
 |raw
 |call (r:Dv) (H':List aq) (ids:List Nat)
 |sub (t:Nat) (d:Dv)
 |own
 |iq
 |bU (l:List (Pl×Pl))
 |arr
 |dX
 |fresh (dst:Nat)
 |jt (dst:Nat)
 |still (dst:Nat)
 |cm (yQ:List Nat) (s:Nat) (e:yc)
 |loop (mask:List Nat) (ex:Ex) (ts':List Dv) (H':List aq)
 |ir (g:yr)
 deriving Inhabited
def oV(P:yg)(t:yc)(h:String)(g:yr):Prop:=
 ∀(v:yh)(f:Array yh)(w:yy),(callMethod (.iface t v) h f).run P w=(callFunc g (#[v]++f)).run P w
def WW(k:IntKind)(x:Int):Prop:=k.min<=x/\x<=k.max
def ZNl(P:yg)(t:yc):Nat:=
 match P.underlying t with
 |some (.slice e)=>P.cellsOf e
 |_=>0
def X0(P:yg)(t:yc):Bool:=
 match P.underlying t with
 |some (.struct _)=>ae
 |some (.array _ _)=>ae
 |_=>af
def uF(P:yg)(t:yc):yh->yO Pl
 |.int k n=>ab (.int k n)
 |.bool b=>ab (.bool b)
 |.string s=>ab (.str s)
 |.pointer ad=>ab .cb
 |.nilFunc=>ab .fn0
 |.nilIface=>ab .ew
 |.map ad=>ab .cD
 |.slice ad 0 0=>ab (.sl (ab af) (ZNl P t) [])
 |_=>ad
mutual
def oW(P:yg):Nat->yc->yL yh->yO (Pl×yL yh)
 |0,_,_=>ad
 |yD+1,t,vs=>
  match P.underlying t with
  |some (.struct f)=>(de P yD (f.toList.map (·.type)) vs).map λr=>(.agg r.1,r.2)
  |some (.array n e)=>(fJ P yD e n vs).map λr=>(.arr n (P.cellsOf e) r.1,r.2)
  |some _=>match vs with
   |v::r=>(uF P t v).map λx=>(x,r)
   |[]=>ad
  |none=>ad
def de(P:yg):Nat->yL yc->yL yh->yO (yL Pl×yL yh)
 |0,_,_=>ad
 |_+1,[],vs=>ab ([],vs)
 |yD+1,t::ts,vs=>
  match oW P yD t vs with
  |some (x,r)=>(de P yD ts r).map λq=>(x::q.1,q.2)
  |none=>ad
def fJ(P:yg):Nat->yc->Nat->yL yh->yO (yL Pl×yL yh)
 |0,_,_,_=>ad
 |_+1,_,0,vs=>ab ([],vs)
 |yD+1,e,n+1,vs=>
  match oW P yD e vs with
  |some (x,r)=>if x.size=P.cellsOf e then(fJ P yD e n r).map λq=>(x::q.1,q.2) else ad
  |none=>ad
end
def oX(P:yg)(t:yc):yh->Dv
 |.agg j=>match oW P 1000 t j.toList with
  |some (x,[])=>if x.isAgg then .p x else .ak
  |_=>.ak
 |.func (.func f) g h=>if g.size=0/\h.size=0/\f < big then .fn f [] else .ak
 |v=>match uF P t v with
  |some x=>.p x
  |none=>.ak
def aC(P:yg)(ts:yL Dv)(t:yc):yp->Dv
 |.tmp i=>ts.getD i .ak
 |.const v=>oX P t v
 |.global _=>.ak
 |.func f=>if f < big then .fn f [] else .ak
mutual
def Dv.bG:Dv->Bool
 |.bm _=>af
 |.ak=>af
 |.agg f=>Dv.dO f
 |.arr _ _ f=>Dv.dO f
 |_=>ae
def Dv.dO:yL Dv->Bool
 |[]=>ae
 |x::r=>x.bG&&Dv.dO r
end
mutual
def Dv.rn(f:Nat->yO Nat):Dv->yO Dv
 |.p x=>ab (.p x)
 |.elem x=>ab (.elem x)
 |.aj id off j=>(f id).map λi=>.aj i off j
 |.own id m s h=>(f id).map λi=>.own i m s h
 |.view id off j s lo n=>(f id).map λi=>.view i off j s lo n
 |.agg h=>(Dv.bB f h).map .agg
 |.arr n s h=>(Dv.bB f h).map (.arr n s)
 |.fn g l=>(Dv.bB f l).map (.fn g)
 |.iface t x=>(Dv.rn f x).map (.iface t)
 |.bm h=>(Dv.bB f h).map .bm
 |.mp id=>(f id).map .mp
 |.rv id v s lo n=>(f id).map λi=>.rv i v s lo n
 |.ba id v off j=>(f id).map λi=>.ba i v off j
 |.ak=>ab .ak
def Dv.bB(f:Nat->yO Nat):yL Dv->yO (yL Dv)
 |[]=>ab []
 |x::r=>match Dv.rn f x,Dv.bB f r with
  |some y,ab g=>ab (y::g)
  |_,_=>ad
end
def aq.rn(f:Nat->yO Nat):aq->yO aq
 |.var d st=>(d.rn f).map λg=>.var g st
 |.log s e h=>ab (.log s e h)
 |.map t bU=>ab (.map t bU)
 |.row v s st e d=>(d.rn f).map λg=>.row v s st e g
 |.gone=>ab .gone
def aq.bB(f:Nat->yO Nat):yL aq->yO (yL aq)
 |[]=>ab []
 |x::r=>match aq.rn f x,aq.bB f r with
  |some y,ab g=>ab (y::g)
  |_,_=>ad
def Dv.plain:Dv->yO Pl
 |.p x=>ab x
 |.own _ f s g=>ab (.sl f s g)
 |_=>ad
mutual
def Dv.flat:Dv->yO Pl
 |.p x=>ab x
 |.own _ f s g=>ab (.sl f s g)
 |.agg h=>(Dv.aW h).map .agg
 |_=>ad
def Dv.aW:yL Dv->yO (yL Pl)
 |[]=>ab []
 |d::r=>match d.flat,Dv.aW r with
  |some x,ab f=>ab (x::f)
  |_,_=>ad
end
mutual
def Dv.owns(ids:yL Nat):Dv->Bool
 |.own id _ _ _=>ids.contains id
 |.agg f=>Dv.dy ids f
 |_=>af
def Dv.dy(ids:yL Nat):yL Dv->Bool
 |[]=>af
 |d::r=>d.owns ids || Dv.dy ids r
end
def Dv.dz(f:yL Dv):Dv:=
 match Dv.aW f with
 |some g=>.p (.agg g)
 |none=>.agg f
def ju:yL Dv->yO (yL Pl)
 |[]=>ab []
 |d::r=>match d.plain,ju r with
  |some x,ab f=>ab (x::f)
  |_,_=>ad
def qG(f:yL Dv):Dv:=
 match ju f with
 |some g=>.p (.agg g)
 |none=>.agg f
abbrev ni:=yO (yL Prop×Dv×yL ar)
abbrev uG:=yO (yL Prop×Dv×yL aq×yL ar)
def gm(k:IntKind)(x:Int):yL ar->ni
 |.bare::hs=>ab ([WW k x],.p (.int k x),hs)
 |.raw::hs=>ab ([],.p (.int k (k.wrap x)),hs)
 |_=>ad
def uH(op:BinOp)(a b:Nat):yO Nat:=
 match op with
 |.and=>ab (a&&&b)
 |.or=>ab (a|||b)
 |.xor=>ab (a^^^b)
 |_=>ad
def Xj(op:BinOp)(k:IntKind)(x y:Int)(hs:yL ar):ni:=
 match op with
 |.add=>gm k (x+y) hs
 |.sub=>gm k (x - y) hs
 |.mul=>gm k (x*y) hs
 |.quo=>match hs with
  |.bare::hs'=>ab ([0<=x,0 < y,WW k (x / y)],.p (.int k (x / y)),hs')
  |.raw::hs'=>ab ([y≠0],.p (.int k (k.wrap (x.tdiv y))),hs')
  |_=>ad
 |.rem=>match hs with
  |.bare::hs'=>ab ([0<=x,0 < y],.p (.int k (x % y)),hs')
  |.raw::hs'=>ab ([y≠0],.p (.int k (x.tmod y)),hs')
  |_=>ad
 |.and|.or|.xor=>match hs with
  |.bare::hs'=>(uH op x.toNat y.toNat).map λ(r:Nat)=>([0<=x,WW k x,0<=y,WW k y,WW k (r:Int)],.p (.int k (r:Int)),hs')
  |.raw::hs'=>ab ([],.p (.int k (bits op k x y)),hs')
  |_=>ad
 |.andNot=>match hs with
  |.raw::hs'=>ab ([],.p (.int k (bits op k x y)),hs')
  |_=>ad
 |.eql=>ab ([],.p (.bool (x==y)),hs)
 |.neq=>ab ([],.p (.bool (x !=y)),hs)
 |.lss=>ab ([],.p (.bool (ag (x < y))),hs)
 |.leq=>ab ([],.p (.bool (ag (x<=y))),hs)
 |.gtr=>ab ([],.p (.bool (ag (x > y))),hs)
 |.geq=>ab ([],.p (.bool (ag (x >= y))),hs)
 |_=>ad
def Ve(op:BinOp)(k:IntKind)(x y:Int)(hs:yL ar):ni:=
 match op,hs with
 |.shl,.bare::hs'=>ab ([0<=y,y.toNat < k.bits,WW k (x*2 ^ y.toNat)],.p (.int k (x*2 ^ y.toNat)),hs')
 |.shl,.raw::hs'=>ab ([0<=y],.p (.int k (k.wrap (x*2 ^ (min y.toNat k.bits)))),hs')
 |.shr,.bare::hs'=>ab ([0<=y,y.toNat<=k.bits],.p (.int k (x / 2 ^ y.toNat)),hs')
 |.shr,.raw::hs'=>ab ([0<=y],.p (.int k (x.fdiv (2 ^ (min y.toNat k.bits)))),hs')
 |_,_=>ad
mutual
def Pl.flat:Pl->Bool
 |.int _ _=>ae
 |.bool _=>ae
 |.agg f=>Pl.aW f
 |.arr _ _ f=>Pl.aW f
 |_=>af
def Pl.aW:yL Pl->Bool
 |[]=>ae
 |x::r=>x.flat&&Pl.aW r
end
def iu(P:yg)(R:yc->Pl->Prop):yL Field->Nat->yL Pl->Prop
 |[],_,[]=>True
 |f::g,o,y::h=>f.name≠ "_" /\f.offset=o/\P.cellsOf f.type=y.size/\(P.info? f.type).isSome=ae/\(P.underlying f.type).isSome=ae/\X0 P f.type=y.isAgg/\y.size≠0/\R f.type y/\iu P R g (o+y.size) h
 |_,_,_=>False
def bu(P:yg):Nat->yc->Pl->Prop
 |0,_,_=>False
 |n+1,t,x=>match P.underlying t,x with
  |some .bool,.bool _=>True
  |some (.int k),.int g _=>g=k
  |some (.array m e),.arr h s f=>h=m/\P.cellsOf e=s/\s≠0/\(P.info? e).isSome=ae/\(P.underlying e).isSome=ae/\∀y,y∈f->bu P n e y/\y.size=s/\X0 P e=y.isAgg
  |some (.struct j),.agg f=>P.stoodInHeld t=af/\iu P (bu P n) j.toList 0 f
  |_,_=>False
def V6:yL (Pl×Pl)->Pl->yO Pl->Prop
 |[],_,r=>r=ad
 |q::l,k,r=>(k=q.1/\r=ab q.2)\/(k≠q.1/\V6 l k r)
def gn:yL (Pl×Pl)->Pl->Pl->yL (Pl×Pl)->Prop
 |[],k,v,l=>l=[(k,v)]
 |q::r,k,v,l=>(k=q.1/\l=(k,v)::r)\/(k≠q.1/\∃f,l=q::f/\gn r k v f)
def iZ(P:yg)(f:yc)(bU:yL (Pl×Pl)):Prop:=∀q,q∈bU->bu P 20 f q.1
def AS(P:yg)(t:yc):Bool:=match P.info? t with|some i=>i.zero.isSome|none=>af
def lX(P:yg)(f:yc):Bool:=
 match P.underlying f with
 |some (.int _)=>ae
 |some .bool=>ae
 |some (.array _ _)=>ae
 |some (.struct _)=>ae
 |_=>af
def ja(P:yg)(t:yc)(x y:Dv)(hs:yL ar):yO (yL Prop×Bool×yL ar):=
 match P.underlying t,x,y with
 |some .bool,.p (.bool a),.p (.bool b)=>ab ([],a==b,hs)
 |some (.pointer _),.aj _ _ _,.p .cb=>ab ([],af,hs)
 |some (.pointer _),.elem _,.p .cb=>ab ([],af,hs)
 |some (.pointer _),.ba _ _ _ _,.p .cb=>ab ([],af,hs)
 |some (.pointer _),.p .cb,.p .cb=>ab ([],ae,hs)
 |some (.slice _),.p (.sl (ab b) _ _),.p (.sl (ab af) _ [])=>ab ([], !b,hs)
 |some (.slice _),.own _ (ab b) _ _,.p (.sl (ab af) _ [])=>ab ([], !b,hs)
 |some (.slice _),.view _ _ _ _ _ _,.p (.sl (ab af) _ [])=>ab ([],af,hs)
 |some (.slice _),.p (.sl ad _ f),.p (.sl (ab af) _ [])=>match hs with
  |.bare::hs'=>ab ([f≠[]],af,hs')
  |_=>ad
 |some (.slice _),.own _ ad _ f,.p (.sl (ab af) _ [])=>match hs with
  |.bare::hs'=>ab ([f≠[]],af,hs')
  |_=>ad
 |some (.func _ _ _),.fn _ _,.p .fn0=>ab ([],af,hs)
 |some (.func _ _ _),.p .fn0,.p .fn0=>ab ([],ae,hs)
 |some (.array _ _),.p (.arr n s f),.p (.arr m r g)=>match hs with
  |.b β::hs'=>if P.eqGuardType P.depth t=af then ab ([bu P 20 t (.arr n s f),bu P 20 t (.arr m r g),(β=ae↔Pl.arr n s f=Pl.arr m r g)],β,hs') else ad
  |_=>ad
 |some (.struct _),.p (.agg f),.p (.agg g)=>match hs with
  |.b β::hs'=>if P.eqGuardType P.depth t=af then ab ([bu P 20 t (.agg f),bu P 20 t (.agg g),(β=ae↔Pl.agg f=Pl.agg g)],β,hs') else ad
  |_=>ad
 |_,_,_=>ad
def AT:BinOp->Bool
 |.shl=>ae
 |.shr=>ae
 |_=>af
def gH(P:yg)(op:BinOp)(t:yc)(x y:Dv)(hs:yL ar):ni:=
 match x,y with
 |.p (.int k a),.p (.int f b)=>if AT op then Ve op k a b hs else if k=f then Xj op k a b hs else ad
 |.p (.str a),.p (.str b)=>match op with
  |.eql=>ab ([],.p (.bool (a.data.toList==b.data.toList)),hs)
  |.neq=>ab ([],.p (.bool (!(a.data.toList==b.data.toList))),hs)
  |_=>ad
 |x,y=>match op with
  |.eql=>(ja P t x y hs).map λr=>(r.1,.p (.bool r.2.1),r.2.2)
  |.neq=>(ja P t x y hs).map λr=>(r.1,.p (.bool (!r.2.1)),r.2.2)
  |_=>ad
def kg(P:yg)(h:Array Field)(i:Nat)(g:Nat)(size:Nat)(isAgg:Bool):Bool:=
 match h[i]? with
 |some f=>f.offset==g&&P.cellsOf f.type==size&&(P.info? f.type).isSome&&X0 P f.type==isAgg&&(P.underlying f.type).isSome&&size !=0
 |none=>af
def jb(P:yg)(t:yc)(x:Dv)(i:Nat):yO Dv:=
 match P.underlying t,x with
 |some (.struct g),.p (.agg f)=>match f[i]? with
  |some y=>if kg P g i (Pl.sizes (f.take i)) y.size y.isAgg then ab (.p y) else ad
  |none=>ad
 |some (.struct g),.agg f=>match f[i]? with
  |some y=>if kg P g i (Dv.sizes (f.take i)) y.size y.isAgg then ab y else ad
  |none=>ad
 |_,_=>ad
def go(P:yg)(ts:yL Dv):yO yp->yO (yO Int)
 |none=>ab ad
 |some x=>match aC P ts 0 x with
  |.p (.int _ i)=>ab (ab i)
  |_=>ad
def Qb{α:Type}(xs:yL α):yO Int->yO Int->yL α
 |none,ad=>xs
 |none,ab h=>xs.take h.toNat
 |some l,ad=>xs.drop l.toNat
 |some l,ab h=>(xs.take h.toNat).drop l.toNat
def Xd(len:Nat):yO Int->yO Int->yL Prop
 |none,ad=>[]
 |none,ab h=>[0<=h,h<=(len:Int)]
 |some l,ad=>[0<=l,l<=(len:Int)]
 |some l,ab h=>[0<=l,l<=h,h<=(len:Int)]
def uI(g:yL Dv)(i:Nat)(d:Dv):yO (yL Dv):=
 match g[i]? with
 |some f=>if f.size=d.size then ab (g.set i d) else ad
 |none=>ad
def iv:yL Dv->yL (Nat×Dv)->yO (yL Dv)
 |f,[]=>ab f
 |f,(i,d)::r=>(uI f i d).bind λg=>iv g r
def lY(l:yL (Nat×Dv)):Bool:=l.all λq=>q.2.bG
def gL(P:yg)(ts:yL Dv)(f:Nat->yc)(parts:yL (Nat×yp)):yL (Nat×Dv):=
 parts.map λq=>(q.1,aC P ts (f q.1) q.2)
def jv(P:yg)(t:yc)(i:Nat):yc:=
 match P.underlying t with
 |some (.struct f)=>((f[i]?).map (·.type)).getD 0
 |some (.array _ e)=>e
 |some (.slice e)=>e
 |_=>0
def bf(P:yg)(t:yc):Dv:=
 match P.info? t with
 |some i=>match i.zero with
  |some v=>oX P t v
  |none=>.ak
 |none=>.ak
def Dv.arg:Dv->Dv
 |.own _ f s g=>.p (.sl f s g)
 |.agg h=>Dv.dz h
 |d=>d
def Dv.cn(ids:yL Nat):Dv->Dv
 |.own id g s h=>if ids.contains id then .own id g s h else .p (.sl g s h)
 |.agg f=>if Dv.dy ids f then .agg f else Dv.dz f
 |d=>d
def Xe(P:yg)(ids:yL Nat)(ts:yL Dv)(c:Call)(g:yr)(cap:yL Dv):yL Dv:=
 if g < big then((c.args.toList.zip c.argTypes.toList).map λq=>(aC P ts q.2 q.1).cn ids)++cap.map (Dv.cn ids)
 else cap.map (Dv.cn ids)++((c.args.toList.zip c.argTypes.toList).map λq=>(aC P ts q.2 q.1).cn ids)
def nj(P:yg)(g:yr):Bool:=
 ag (g < big)&&match P.funcs[g]? with
 |some fn=>fn.name== "internal/bytealg.Compare" &&fn.body.isNone&&(Extern.findNext fn).isNone
 |none=>af
def gM(b:ByteArray):yL Pl:=b.data.toList.map λx=>.int .u8 (x.toNat:Int)
def iw(P:yg)(s:Nat)(t:yc)(d:Dv):yO (yL Pl):=
 match P.underlying t,d with
 |some (.slice e),.p (.sl _ g f)=>if g=s\/f.isEmpty then ab f else ad
 |some (.slice e),.own _ _ g f=>if g=s then ab f else ad
 |some .string,.p (.str z)=>if s=1 then ab (z.data.toList.map λb=>.int .u8 (b.toNat:Int)) else ad
 |_,_=>ad
def Wc(P:yg)(ts:yL Dv)(e:yc)(s:Nat)(len:Nat)(parts:yL (Nat×yp)):yO (yL Pl):=
 if parts.map (·.1)==yn len then
  match Dv.aW (parts.map λq=>aC P ts e q.2) with
  |some f=>if f.all (λx=>x.size==s) then ab f else ad
  |none=>ad
 else ad
def Zr:Nat:=140737488355328
def cq(i:TypeInfo):Bool:=
 match i.zero with
 |some z=>z.cells.size==i.size
 |none=>af
def iy(P:yg)(g:yr):Bool:=
 match P.funcs[g]? with
 |some fn=>fn.body.isSome&& !(fn.name== "runtime.NumGoroutine")
 |none=>af
def bj(P:yg)(o:yj)(ts:yL Dv)(hs:yL ar):ni:=
 match o.op with
 |.move x=>match hs with
  |.raw::hs'=>ab ([],aC P ts o.type x,hs')
  |_=>ad
 |.assign x=>match hs with
  |.raw::hs'=>ab ([],aC P ts o.type x,hs')
  |_=>ad
 |.pick c a b=>match aC P ts 0 c,hs with
  |.p (.bool t),.b β::hs'=>ab ([t=β],if β then aC P ts o.type a else aC P ts o.type b,hs')
  |_,_=>ad
 |.nilCheck x=>match aC P ts 0 x with
  |.aj i f p=>ab ([],.aj i f p,hs)
  |.ba i v f p=>ab ([],.ba i v f p,hs)
  |.elem y=>ab ([],.elem y,hs)
  |.fn f c=>ab ([],.fn f c,hs)
  |_=>ad
 |.binOp S t x y T=>gH P S t (aC P ts t x) (aC P ts T y) hs
 |.unOp .not _ x=>match aC P ts 0 x with
  |.p (.bool t)=>ab ([],.p (.bool (!t)),hs)
  |_=>ad
 |.unOp .neg _ x=>match aC P ts 0 x with
  |.p (.int k n)=>gm k (0 - n) hs
  |_=>ad
 |.unOp .xor _ x=>match aC P ts 0 x with
  |.p (.int k n)=>if k.signed then ad else ab ([],.p (.int k (bits .xor k k.max n)),hs)
  |_=>ad
 |.convert src dst x=>match P.underlying src,P.underlying dst,aC P ts src x with
  |some _,ab (.int k),.p (.int _ n)=>gm k n hs
  |some (.slice e),ab .string,.p (.sl _ s j)=>match hs,P.underlying e with
   |.el (.str b)::hs',ab (.int .u8)=>if s=1 then ab ([j=b.data.toList.map λx=>.int .u8 (x.toNat:Int)],.p (.str b),hs') else ad
   |_,_=>ad
  |some (.slice e),ab .string,.own _ _ s j=>match hs,P.underlying e with
   |.el (.str b)::hs',ab (.int .u8)=>if s=1 then ab ([j=b.data.toList.map λx=>.int .u8 (x.toNat:Int)],.p (.str b),hs') else ad
   |_,_=>ad
  |some .string,ab (.slice e),.p (.str b)=>match P.underlying e with
   |some (.int .u8)=>ab ([b.size<=maxLen],.p (.sl (ab ae) 1 (b.data.toList.map λx=>.int .u8 (x.toNat:Int))),hs)
   |_=>ad
  |_,_,_=>ad
 |.sliceToArrayPointer t x=>match P.underlying t,aC P ts 0 x with
  |some (.array n e),.p (.sl _ s j)=>if n !=0 then ab ([n<=j.length],.elem (.arr n s (j.take n)),hs) else ad
  |some (.array n e),.own _ _ s j=>if n !=0 then ab ([n<=j.length],.elem (.arr n s (j.take n)),hs) else ad
  |_,_=>ad
 |.makeFunc (.func f) first captured=>if first.isEmpty&&ag (f < big) then ab ([],.fn f (captured.toList.map (aC P ts 0)),hs) else if captured.isEmpty then ab ([],.fn (f+big) (first.toList.map (aC P ts 0)),hs) else ad
 |.makeInterface t x=>match P.underlying t with
  |some (.interface _)=>ad
  |some _=>ab ([],.iface t (aC P ts t x),hs)
  |none=>ad
 |.field t x i=>(jb P t (aC P ts t x) i).map λd=>([],d,hs)
 |.fieldAddr t x i=>match P.underlying t,aC P ts 0 x with
  |some (.struct F),.aj id off A=>match F[i]? with
   |some f=>if P.cellsOf f.type !=0&&(P.info? f.type).isSome then ab ([],.aj id (off+f.offset) (A++[i]),hs) else ad
   |none=>ad
  |some (.struct F),.ba id v off A=>match F[i]? with
   |some f=>if P.cellsOf f.type !=0&&(P.info? f.type).isSome then ab ([],.ba id v (off+f.offset) (A++[i]),hs) else ad
   |none=>ad
  |some (.struct _),.elem y=>match jb P t (.p y) i with
   |some (.p z)=>ab ([],.elem z,hs)
   |_=>ad
  |_,_=>ad
 |.indexAddr t x ix=>match P.underlying t,aC P ts t x,aC P ts 0 ix with
  |some (.slice e),.p (.sl _ s j),.p (.int _ i)=>match hs with
   |.el y::hs'=>if P.cellsOf e=s&&(P.info? e).isSome then ab ([0<=i,j[i.toNat]? =ab y],.elem y,hs') else ad
   |_=>ad
  |some (.slice e),.own _ _ s j,.p (.int _ i)=>match hs with
   |.el y::hs'=>if P.cellsOf e=s&&(P.info? e).isSome then ab ([0<=i,j[i.toNat]? =ab y],.elem y,hs') else ad
   |_=>ad
  |some (.slice e),.view id off A s lo n,.p (.int _ i)=>
   if P.cellsOf e=s&&(P.info? e).isSome then ab ([0<=i,i < (n:Int)],.aj id (off+(lo+i.toNat)*s) (A++[lo+i.toNat]),hs) else ad
  |some (.slice e),.rv id v s lo n,.p (.int _ i)=>
   if P.cellsOf e=s&&(P.info? e).isSome then ab ([0<=i,i < (n:Int)],.ba id v ((lo+i.toNat)*s) [lo+i.toNat],hs) else ad
  |some (.array n e),.ba id v off A,.p (.int _ i)=>
   if(P.info? e).isSome then ab ([0<=i,i < (n:Int)],.ba id v (off+i.toNat*P.cellsOf e) (A++[i.toNat]),hs) else ad
  |some (.array n e),.aj id off A,.p (.int _ i)=>
   if(P.info? e).isSome then ab ([0<=i,i < (n:Int)],.aj id (off+i.toNat*P.cellsOf e) (A++[i.toNat]),hs) else ad
  |some (.array n e),.elem (.arr B s j),.p (.int _ i)=>match hs with
   |.el y::hs'=>if n=B&&P.cellsOf e=s&&(P.info? e).isSome then ab ([0<=i,j[i.toNat]? =ab y],.elem y,hs') else ad
   |_=>ad
  |_,_,_=>ad
 |.index t x ix=>match P.underlying t,aC P ts t x,aC P ts 0 ix with
  |some (.array n e),.p (.arr B s j),.p (.int _ i)=>match hs with
   |.el y::hs'=>if n=B&&P.cellsOf e=s&&X0 P e==y.isAgg&&(P.underlying e).isSome&&(P.info? e).isSome&&s !=0 then ab ([0<=i,j[i.toNat]? =ab y],.p y,hs') else ad
   |_=>ad
  |some .string,.p (.str s),.p (.int _ i)=>match hs with
   |.el (.int .u8 b)::hs'=>ab ([0<=i,(s.data.toList[i.toNat]?).map (λx:yB=>(x.toNat:Int))=ab b],.p (.int .u8 b),hs')
   |_=>ad
  |some (.array n e),.arr B s j,.p (.int _ i)=>match j[i.toNat]? with
   |some d=>if n=B&&P.cellsOf e=s&&X0 P e==d.isAgg&&(P.underlying e).isSome&&(P.info? e).isSome&&s !=0 then ab ([0<=i],d,hs) else ad
   |none=>ad
  |_,_,_=>ad
 |.slice t x lo M ad=>match P.underlying t,aC P ts t x,go P ts lo,go P ts M with
  |some (.slice e),.p (.sl Q s j),ab l,ab h=>
   if P.cellsOf e=s&&(P.info? e).isSome then ab (Xd j.length l h,.p (.sl Q s (Qb j l h)),hs) else ad
  |some (.slice e),.own _ Q s j,ab l,ab h=>
   if P.cellsOf e=s&&(P.info? e).isSome then ab (Xd j.length l h,.p (.sl Q s (Qb j l h)),hs) else ad
  |some (.slice e),.view id off A s lo n,ab l,ab h=>
   if P.cellsOf e=s&&(P.info? e).isSome then ab (Xd n l h,.view id off A s (lo+(l.getD 0).toNat) ((h.getD n).toNat - (l.getD 0).toNat),hs) else ad
  |some (.slice e),.rv id v s lo n,ab l,ab h=>match hs with
   |.bare::hs'=>if P.cellsOf e=s&&(P.info? e).isSome then ab (Xd n l h,.rv id v s (lo+(l.getD 0).toNat) ((h.getD n).toNat - (l.getD 0).toNat),hs') else ad
   |_=>ad
  |some (.array n e),.elem (.arr B s j),ab l,ab h=>
   if n=B&&P.cellsOf e=s&&(P.info? e).isSome&&n<=maxLen then ab (Xd n l h,.p (.sl (ab ae) s (Qb j l h)),hs) else ad
  |some (.array n e),.aj id off A,ab l,ab h=>match hs with
   |.raw::hs'=>if(P.info? e).isSome&&n<=maxLen then ab (Xd n l h,.view id off A (P.cellsOf e) (l.getD 0).toNat ((h.getD n).toNat - (l.getD 0).toNat),hs') else ad
   |_=>ad
  |_,_,_,_=>ad
 |.slice t x lo M (ab U)=>match P.underlying t,aC P ts t x,go P ts lo,go P ts M,go P ts (ab U) with
  |some (.slice e),.rv _ _ _ _ n,ab (ab l),ab (ab h),ab (ab m)=>if(P.info? e).isSome then ab ([0<=l,l<=h,h<=m,m<=(n:Int)],.ak,hs) else ad
  |_,_,_,_,_=>ad
 |.extract x i=>match aC P ts 0 x with
  |.bm G=>(G[i]?).map λd=>([],d,hs)
  |_=>ad
 |.load t a=>match aC P ts 0 a with
  |.elem y=>if P.cellsOf t=y.size&&X0 P t==y.isAgg&&(P.underlying t).isSome&&(P.info? t).isSome then ab ([],.p y,hs) else ad
  |_=>ad
 |.build t parts=>match P.underlying t,bf P t with
  |some (.struct F),.p (.agg zs)=>
   if lY (gL P ts (jv P t) parts.toList)&&F.size==zs.length&&(yn zs.length).all λi=>kg P F i (Pl.sizes (zs.take i)) ((zs.getD i default).size) ((zs.getD i default).isAgg) then
    (iv (zs.map .p) (gL P ts (jv P t) parts.toList)).map λG=>([],qG G,hs)
   else ad
  |some (.array _ e),.p (.arr n s zs)=>
   if lY (gL P ts (jv P t) parts.toList)&&P.cellsOf e=s&&(P.info? e).isSome then
    (iv (zs.map .p) (gL P ts (jv P t) parts.toList)).bind λG=>match ju G with
      |some j=>ab ([],.p (.arr n s j),hs)
      |none=>ab ([],.arr n s G,hs)
   else ad
  |_,_=>ad
 |.call c=>match c.callee with
  |.builtin .len=>match c.args.toList,c.argTypes.toList with
   |[x],[t]=>match P.underlying t,aC P ts t x with
    |some (.slice _),.p (.sl _ _ j)=>ab ([],.p (.int .i64 (j.length:Int)),hs)
    |some (.slice _),.own _ _ _ j=>ab ([],.p (.int .i64 (j.length:Int)),hs)
    |some (.slice _),.view _ _ _ _ _ n=>ab ([],.p (.int .i64 (n:Int)),hs)
    |some (.slice _),.rv _ _ _ _ n=>ab ([],.p (.int .i64 (n:Int)),hs)
    |some (.array n _),_=>ab ([],.p (.int .i64 (n:Int)),hs)
    |some .string,.p (.str s)=>ab ([],.p (.int .i64 (s.size:Int)),hs)
    |_,_=>ad
   |_,_=>ad
  |.builtin .max=>match c.args.toList,c.argTypes.toList with
   |[x,y],[t,u]=>match aC P ts t x,aC P ts u y with
    |.p (.int .i64 m),.p (.int .i64 n)=>ab ([],.p (.int .i64 (if n > m then n else m)),hs)
    |_,_=>ad
   |_,_=>ad
  |.builtin .min=>match c.args.toList,c.argTypes.toList with
   |[x,y],[t,u]=>match aC P ts t x,aC P ts u y with
    |.p (.int .i64 m),.p (.int .i64 n)=>ab ([],.p (.int .i64 (if n < m then n else m)),hs)
    |_,_=>ad
   |_,_=>ad
  |.builtin .append=>match c.args.toList,c.argTypes.toList,hs with
   |[x,y],[t,u],.iq::hs'=>match P.underlying t,aC P ts t x with
    |some (.slice e),.p (.sl (ab af) _ [])=>match P.info? e,iw P (P.cellsOf e) u (aC P ts u y) with
     |some i,ab I=>if cq i&&i.size !=0 then ab ([I.length*i.bytes<=Zr,I.length<=maxLen],.p (.sl ad (P.cellsOf e) I),hs') else ad
     |_,_=>ad
    |_,_=>ad
   |_,_,_=>ad
  |.value f=>match aC P ts 0 f,hs with
   |.fn g R,.call r [] []::hs'=>
    if iy P (fI g)&&c.args.size==c.argTypes.size then match Dv.bB (λ_=>ad) (Xe P [] ts c g R),r.rn (λ_=>ad) with
     |some E,ab _=>ab ([bZ P (fI g) E [] r []],r,hs')
     |_,_=>ad
    else ad
   |.fn g [],.el (.str x)::.el (.str y)::hs'=>
    if nj P g&&c.args.size==c.argTypes.size then match Xe P [] ts c g [] with
     |[.p (.sl _ s j),.p (.sl _ W I)]=>if s=1/\W=1 then ab ([j=gM x,I=gM y],.p (.int .i64 (Go.Lib.compareBytes x.data.toList y.data.toList)),hs') else ad
     |_=>ad
    else ad
   |_,_=>ad
  |_=>ad
 |.buildSlice t len parts=>match hs with
  |.iq::hs'=>match P.underlying t with
   |some (.slice e)=>match P.info? e,Wc P ts e (P.cellsOf e) len parts.toList with
    |some i,ab j=>if cq i&&i.size !=0&&len*i.size<=16777216 then ab ([],.p (.sl (ab ae) i.size (j.map Pl.soft)),hs') else ad
    |_,_=>ad
   |_=>ad
  |.bare::hs'=>match P.underlying t with
   |some (.slice e)=>match P.info? e,Wc P ts e (P.cellsOf e) len parts.toList with
    |some i,ab j=>if cq i&&i.size !=0&&len*i.size<=16777216 then ab ([],.p (.sl (ab ae) i.size j),hs') else ad
    |_,_=>ad
   |_=>ad
  |_=>ad
 |_=>ad
def Z9:Dv->yL Nat->yL ar->yO (yL Prop×Nat×Dv×yL ar)
 |d,[],hs=>ab ([],0,d,hs)
 |.p (.agg f),i::r,hs=>match f[i]? with
  |some x=>(Z9 (.p x) r hs).map λq=>(q.1,Pl.sizes (f.take i)+q.2.1,q.2.2)
  |none=>ad
 |.p (.arr _ s f),i::r,hs=>match hs with
  |.el y::hs'=>(Z9 (.p y) r hs').map λq=>((f[i]? =ab y)::q.1,i*s+q.2.1,q.2.2)
  |_=>ad
 |.agg f,i::r,hs=>match f[i]? with
  |some x=>(Z9 x r hs).map λq=>(q.1,Dv.sizes (f.take i)+q.2.1,q.2.2)
  |none=>ad
 |.arr _ s f,i::r,hs=>match f[i]? with
  |some x=>(Z9 x r hs).map λq=>(q.1,i*s+q.2.1,q.2.2)
  |none=>ad
 |_,_,_=>ad
def WS(new:Dv):Dv->yL Nat->yL ar->yO Dv
 |_,[],_=>ab new
 |.p (.agg f),i::r,hs=>match f[i]? with
  |some x=>match WS new (.p x) r hs with
   |some (.p y)=>ab (.p (.agg (f.set i y)))
   |some y=>ab (.agg ((f.map .p).set i y))
   |none=>ad
  |none=>ad
 |.p (.arr n s f),i::r,hs=>match hs with
  |.el y::hs'=>match WS new (.p y) r hs' with
   |some (.p z)=>ab (.p (.arr n s (f.set i z.soft)))
   |some z=>ab (.arr n s ((f.map .p).set i z))
   |none=>ad
  |_=>ad
 |.agg f,i::r,hs=>match f[i]? with
  |some x=>(WS new x r hs).map λy=>.agg (f.set i y)
  |none=>ad
 |.arr n s f,i::r,hs=>match f[i]? with
  |some x=>(WS new x r hs).map λy=>.arr n s (f.set i y)
  |none=>ad
 |_,_,_=>ad
def fS(P:yg)(t:yc)(d:Dv):Bool:=
 P.cellsOf t==d.size&&X0 P t==d.isAgg&&(P.underlying t).isSome&&(P.info? t).isSome
def du:yO aq->yO aq
 |some (.var d _)=>ab (.var d ae)
 |some (.row v s _ e d)=>ab (.row v s ae e d)
 |x=>x
def bH(P:yg)(o:yj)(ts:yL Dv)(H:yL aq)(hs:yL ar):ni:=
 match o.op with
 |.load t a=>match aC P ts 0 a with
  |.aj id off j=>match H[id]? with
   |some (.var d _)=>match Z9 d j hs with
    |some (C,f,sub,hs')=>if fS P t sub then ab (C++[f=off],sub,hs') else ad
    |none=>ad
   |_=>ad
  |.ba id v off j=>match H[id]? with
   |some (.row z _ _ _ d)=>match Z9 d j hs with
    |some (C,f,sub,hs')=>if fS P t sub&&z==v then ab (C++[f=off],sub,hs') else ad
    |none=>ad
   |_=>ad
  |_=>ad
 |.slice t x lo F ad=>match P.underlying t,aC P ts t x,go P ts lo,go P ts F,hs with
  |some (.slice e),.rv id v s m n,ab l,ab (ab h),.raw::hs'=>match H[id]? with
   |some (.row z A _ _ d)=>match aS d A with
    |some N=>if P.cellsOf e=s&&(P.info? e).isSome&&z==v&&A==s&&A !=0 then ab ([0<=l.getD 0,l.getD 0<=h,m+h.toNat<=N],.rv id v s (m+(l.getD 0).toNat) (h.toNat - (l.getD 0).toNat),hs') else ad
    |none=>ad
   |_=>ad
  |some (.array n e),.aj id off j,ab l,ab h,.dX::hs'=>match H[id]? with
   |some (.var d af)=>match Z9 d j hs' with
    |some (C,f,.p (.arr G s I),y)=>
     if n=G&&P.cellsOf e=s&&(P.info? e).isSome&&n<=maxLen then ab (C++[f=off]++Xd n l h,.p (.sl (ab ae) s (Qb I l h)),y) else ad
    |_=>ad
   |_=>ad
  |_,_,_,_,_=>ad
 |.lookup t x ix E=>match P.underlying t,aC P ts t x with
  |some (.map g B),.mp id=>match aC P ts g ix,H[id]?,hs with
   |.p k,ab (.map _ bU),.el v::hs'=>if lX P g then ab ([bu P 20 g k,iZ P g bU,V6 bU k (ab v)],if E then .bm [.p v,.p (.bool ae)] else .p v,hs') else ad
   |.p k,ab (.map _ bU),.raw::hs'=>if lX P g&&AS P B then
     ab ([bu P 20 g k,iZ P g bU,V6 bU k ad],if E then .bm [bf P B,.p (.bool af)] else bf P B,hs') else ad
   |_,_,_=>ad
  |_,_=>ad
 |.call c=>match c.callee with
  |.builtin .len=>match c.args.toList,c.argTypes.toList with
   |[x],[t]=>match P.underlying t,aC P ts t x with
    |some (.map _ _),.mp id=>match H[id]? with
     |some (.map _ bU)=>ab ([],.p (.int .i64 (bU.length:Int)),hs)
     |_=>ad
    |_,_=>ad
   |_,_=>ad
  |_=>ad
 |_=>ad
def bg(ids:yL Nat)(id:Nat):yO Nat:=ids.idxOf? id
def aU(ids:yL Nat)(n:Nat)(j:Nat):yO Nat:=if j < ids.length then ids[j]? else ab (n+(j - ids.length))
def aN(H:yL aq)(all:yL Nat):yL Nat->yO (yL aq)
 |[]=>ab []
 |id::r=>match (H[id]?).bind (aq.rn (bg all)),aN H all r with
  |some e,ab f=>ab (e::f)
  |_,_=>ad
def aw{α:Type}:yL α->yL Nat->yL α->yL α
 |H,[],Hb=>H++Hb
 |H,id::r,e::Hb=>aw (H.set id e) r Hb
 |H,_::_,[]=>H
def once:yL Nat->Bool
 |[]=>ae
 |x::r=> !r.contains x&&once r
def Dv.cO(d:Dv):Dv:=
 match d.flat with
 |some x=>.p x
 |none=>d
def jc(yQ:yL Nat)(d:Dv)(new:Dv):yO Dv:=
 match d with
 |.p _=>ab new.cO
 |_=>match yQ with
  |[]=>ab new.cO
  |_=>ab new
def oY(xs ys:yL Pl)(lo:Nat):yL Pl:=xs.take lo++(ys++xs.drop (lo+ys.length))
def iz(P:yg)(s:Nat)(t:yc)(H:yL aq)(hs:yL ar)(d:Dv):yO (yL Prop×yL Pl×yL ar):=
 match d with
 |.view id off j h lo n=>match P.underlying t,H[id]? with
  |some (.slice _),ab (.var l _)=>match Z9 l j hs with
   |some (C,g,.p (.arr N f zs),hs')=>if h=s&&f=s then ab (C++[g=off,lo+n<=N],(zs.drop lo).take n,hs') else ad
   |_=>ad
  |_,_=>ad
 |.rv id v h lo n=>match P.underlying t,H[id]? with
  |some (.slice _),ab (.row m f _ _ (.p (.arr N y zs)))=>if h=s&&f=s&&y=s&&m==v then ab ([lo+n<=N],(zs.drop lo).take n,hs) else ad
  |_,_=>ad
 |d=>(iw P s t d).map λz=>([],z,hs)
def jw(d:Dv)(H:yL aq)(hs:yL ar):uG:=
 match d with
 |.view id off m s lo n=>match H[id]? with
  |some (.var l _)=>match Z9 l m hs with
   |some (C,f,.p (.arr y h g),hs')=>if h=s then ab (C++[f=off,lo+n<=y],.p (.sl (ab ae) s ((g.drop lo).take n)),H.set id (.var l af),hs') else ad
   |_=>ad
  |_=>ad
 |.rv id v s lo n=>match H[id]? with
  |some (.row z h _ e (.p (.arr N j g)))=>if h=s&&j=s&&z==v then ab ([lo+n<=N],.p (.sl ad s ((g.drop lo).take n)),H.set id (.row v s af e (.p (.arr N s g))),hs) else ad
  |_=>ad
 |_=>ad
def XO:Dv->yL Nat->Nat->Dv->yO Dv
 |.p (.sl (ab af) h []),[],s,f=>if h=s then ab f else ad
 |.p (.agg g),i::r,s,f=>match g[i]? with
  |some x=>(XO (.p x) r s f).map λy=>.agg ((g.map Dv.p).set i y)
  |none=>ad
 |.agg g,i::r,s,f=>match g[i]? with
  |some x=>(XO x r s f).map λy=>.agg (g.set i y)
  |none=>ad
 |_,_,_,_=>ad
def YF(d:Dv)(n:Nat):yL ar->Dv×yL aq×yL ar
 |.cm g s e::hs=>match XO d g s (.own n ad s []) with
  |some f=>((YF f (n+1) hs).1,.log s e []::(YF f (n+1) hs).2.1,(YF f (n+1) hs).2.2)
  |none=>(d,[],.cm g s e::hs)
 |hs=>(d,[],hs)
def nq(d:Dv):Dv:=
 match d.plain with
 |some y=>.p y
 |none=>d
def cP(P:yg)(o:yj)(ts:yL Dv)(H:yL aq)(hs:yL ar):uG:=
 match o.op with
 |.assign x=>match hs with
  |.fresh T::hs'=>if o.dst=ab T then match P.underlying o.type,aC P ts o.type x with
    |some (.slice e),.p (.sl (ab af) _ [])=>match P.info? e with
     |some i=>if cq i&&i.size !=0 then ab ([],.own H.length ad i.size [],H++[.log i.size e []],hs') else ad
     |none=>ad
    |_,_=>ad
   else ad
  |.jt T::hs'=>if o.dst=ab T then match P.underlying o.type,aC P ts o.type x with
    |some (.slice e),.p (.sl (ab af) _ [])=>match P.info? e with
     |some i=>if cq i&&i.size !=0 then ab ([],.rv H.length 0 i.size 0 0,H++[.row 0 i.size ae e (.p (.arr 0 i.size []))],hs') else ad
     |none=>ad
    |_,_=>ad
   else ad
  |.still T::hs'=>if o.dst=ab T then jw (aC P ts o.type x) H hs' else ad
  |_=>ad
 |.move x=>match hs with
  |.still T::hs'=>if o.dst=ab T then jw (aC P ts o.type x) H hs' else ad
  |_=>ad
 |.makeSlice t l c=>match P.underlying t,aC P ts 0 l,aC P ts 0 c with
  |some (.slice e),.p (.int .i64 n),.p (.int .i64 U)=>match P.info? e,hs with
   |some i,.own::hs'=>if cq i&&i.size !=0 then ab ([n=0,0<=U,U.toNat*i.bytes<=Zr,U.toNat<=maxLen],.own H.length (ab ae) i.size [],H++[.log i.size e []],hs') else ad
   |some i,.arr::hs'=>if cq i&&i.size !=0 then ab ([n=0,0<=U,U.toNat*i.bytes<=Zr,U.toNat<=maxLen],.rv H.length 0 i.size 0 0,H++[.row 0 i.size ae e (.p (.arr 0 i.size []))],hs') else ad
   |some i,.raw::hs'=>match bf P e with
    |.p z=>if cq i&&i.size=1&&z.size=1&& !z.isAgg then ab ([U=n,0<=n,n.toNat*i.bytes<=Zr,n.toNat<=maxLen],.view H.length 0 [] 1 0 n.toNat,H++[.var (.p (.arr n.toNat 1 (yx n.toNat z))) ae],hs') else ad
    |_=>ad
   |_,_=>ad
  |_,_,_=>ad
 |.makeMap t ad=>ab ([],.mp H.length,H++[.map t []],hs)
 |.mapUpdate t m k x=>match P.underlying t,aC P ts t m with
  |some (.map kt et),.mp id=>match aC P ts kt k,(aC P ts et x).flat,H[id]?,hs with
   |.p k,ab v,ab (.map T bU),.bU l::hs'=>if lX P kt then ab ([bu P 20 kt k,iZ P kt bU,gn bU k v.soft l],.ak,H.set id (.map T l),hs') else ad
   |_,_,_,_=>ad
  |_,_=>ad
 |.alloc t=>match P.info? t with
  |some i=>match (YF (bf P t) (H.length+1) hs).2.2 with
   |.raw::hs'=>if cq i&&fS P t (bf P t)&&(bf P t).bG then ab ([],.aj H.length 0 [],H++.var (YF (bf P t) (H.length+1) hs).1 ae::(YF (bf P t) (H.length+1) hs).2.1,hs') else ad
   |_=>ad
  |none=>ad
 |.box t x=>
  match (YF (nq (aC P ts t x)) (H.length+1) hs).2.2 with
  |.raw::hs'=>if(nq (aC P ts t x)).bG then ab ([],.aj H.length 0 [],H++.var (YF (nq (aC P ts t x)) (H.length+1) hs).1 ae::(YF (nq (aC P ts t x)) (H.length+1) hs).2.1,hs') else ad
  |_=>ad
 |.store t a x=>match aC P ts 0 a,aC P ts t x with
  |.aj id off I,v=>match H[id]? with
   |some (.var d ae)=>match Z9 d I hs with
    |some (C,B,sub,hs')=>match jc I d v with
     |some E=>match WS E d I hs with
      |some X=>if E.bG&&E.size==sub.size&&P.cellsOf t==E.size&&(P.info? t).isSome&&E.isAgg==sub.isAgg then(match (YF X H.length hs').2.2 with
       |.raw::M=>ab (C++[B=off],.ak,H.set id (.var (YF X H.length hs').1 ae)++(YF X H.length hs').2.1,M)
       |_=>ad) else ad
      |none=>ad
     |none=>ad
    |none=>ad
   |_=>ad
  |.ba id v off I,w=>match H[id]? with
   |some (.row W s ae e d)=>match Z9 d I hs with
    |some (C,B,sub,hs')=>match jc I d w with
     |some E=>match WS E d I hs with
      |some X=>if E.bG&&E.size==sub.size&&P.cellsOf t==E.size&&(P.info? t).isSome&&E.isAgg==sub.isAgg&&W==v&&aS X s==aS d s then
        ab (C++[B=off],.ak,H.set id (.row v s ae e X),hs') else ad
      |none=>ad
     |none=>ad
    |none=>ad
   |_=>ad
  |_,_=>ad
 |.buildSlice t len parts=>match hs with
  |.fresh id::hs'=>match P.underlying t,H[id]? with
   |some (.slice e),ab (.row v s st Q dd)=>match P.info? e,Wc P ts e (P.cellsOf e) len parts.toList with
    |some i,ab A=>if cq i&&i.size !=0&&len*i.size<=16777216&&Q==e&&s==i.size then ab ([],.rv id (v+1) i.size 0 len,H.set id (.row (v+1) i.size ae e (.p (.arr len i.size (A.map Pl.soft)))),hs') else ad
    |_,_=>ad
   |_,_=>ad
  |.arr::hs'=>match P.underlying t with
   |some (.slice e)=>match P.info? e,Wc P ts e (P.cellsOf e) len parts.toList with
    |some i,ab A=>if cq i&&i.size !=0&&len*i.size<=16777216 then ab ([],.rv H.length 0 i.size 0 len,H++[.row 0 i.size ae e (.p (.arr len i.size (A.map Pl.soft)))],hs') else ad
    |_,_=>ad
   |_=>ad
  |.own::hs'=>match P.underlying t with
   |some (.slice e)=>match P.info? e,Wc P ts e (P.cellsOf e) len parts.toList with
    |some i,ab A=>if cq i&&i.size !=0&&len*i.size<=16777216 then ab ([],.own H.length (ab ae) i.size (A.map Pl.soft),H++[.log i.size e (A.map Pl.soft)],hs') else ad
    |_,_=>ad
   |_=>ad
  |_=>ad
 |.slice t x lo hi ad=>match P.underlying t,aC P ts t x,go P ts lo,go P ts hi with
  |some (.array n e),.aj id off I,ab l,ab h=>match hs with
   |.dX::hs'=>match H[id]? with
    |some (.var d _)=>match Z9 d I hs' with
     |some (C,B,.p (.arr U s A),M)=>
      if n=U&&P.cellsOf e=s&&(P.info? e).isSome&&n<=maxLen then ab (C++[B=off]++Xd n l h,.p (.sl (ab ae) s (Qb A l h)),H.set id (.var d af),M) else ad
     |_=>ad
    |_=>ad
   |_=>ad
  |some (.slice e),.rv id v s lo' n,ab l,ab (ab h)=>match hs with
   |.arr::hs'=>match H[id]? with
    |some (.row W G ae Q (.p (.arr N s2 A)))=>if P.cellsOf e=s&&(P.info? e).isSome&&W==v&&G==s&&s2==s&&G !=0&&lo'==0&&l.getD 0==0 then
      ab ([0<=h,h.toNat<=N],.rv id v s 0 h.toNat,H.set id (.row v s ae Q (.p (.arr h.toNat s (A.take h.toNat)))),hs') else ad
    |_=>ad
   |_=>ad
  |_,_,_,_=>ad
 |.call c=>match c.callee with
  |.builtin .append=>match c.args.toList,c.argTypes.toList with
   |[x,y],[t,u]=>match P.underlying t,aC P ts t x with
    |some (.slice e),.own id nn s A=>match P.info? e,iz P s u H hs (aC P ts u y),H[id]? with
     |some i,ab (C,j,hs'),ab (.log G Q zs)=>if cq i&&i.size=s&&G=s&&Q=e&&s !=0 then
       ab (C++[zs=A,(A.length+j.length)*i.bytes<=Zr,A.length+j.length<=maxLen],.own id ad s (A++j),H.set id (.log s e (A++j)),hs') else ad
     |_,_,_=>ad
    |some (.slice e),.p (.sl (ab af) _ [])=>match hs,P.info? e,iw P (P.cellsOf e) u (aC P ts u y) with
     |.own::hs',ab i,ab j=>if cq i&&i.size !=0 then
       ab ([j.length*i.bytes<=Zr,j.length<=maxLen],.own H.length ad i.size j,H++[.log i.size e j],hs') else ad
     |.arr::hs',ab i,ab j=>if cq i&&i.size !=0 then
       ab ([j.length*i.bytes<=Zr,j.length<=maxLen],.rv H.length 0 i.size 0 j.length,H++[.row 0 i.size ae e (.p (.arr j.length i.size j))],hs') else ad
     |_,_,_=>ad
    |some (.slice e),.rv id v s lo n=>match hs with
     |.bare::R=>match P.info? e,iz P (P.cellsOf e) u H R (aC P ts u y) with
      |some i,ab (C,j,hs')=>if cq i then ab (C++[j=[]],.rv id v s lo n,H,hs') else ad
      |_,_=>ad
     |.raw::R=>match P.info? e,iz P s u H R (aC P ts u y),H[id]? with
      |some i,ab (C,j,hs'),ab (.row W G st Q (.p (.arr N S A)))=>if cq i&&i.size=s&&G=s&&S=s&&Q=e&&s !=0&&W==v&&lo=0 then
        ab (C++[n<=N,(n+j.length)*i.bytes<=Zr,n+j.length<=maxLen,st=ae\/n=N],.rv id (v+1) s 0 (n+j.length),H.set id (.row (v+1) s st e (.p (.arr (n+j.length) s (A.take n++j)))),hs') else ad
      |_,_,_=>ad
     |.iq::R=>match P.info? e,iz P s u H R (aC P ts u y),H[id]? with
      |some i,ab (C,j,hs'),ab (.row W G ae Q (.p (.arr N S A)))=>if cq i&&i.size=s&&G=s&&S=s&&Q=e&&s !=0&&W==v&&lo=0 then
        ab (C++[0 < N,n+j.length<=N],.rv id v s 0 (n+j.length),H.set id (.row v s ae e (.p (.arr N s (A.take n++(j++A.drop (n+j.length)))))),hs') else ad
      |_,_,_=>ad
     |_=>ad
    |_,_=>ad
   |_,_=>ad
  |.builtin .clear=>match c.args.toList,c.argTypes.toList with
   |[x],[t]=>match P.underlying t,aC P ts t x with
    |some (.slice e),.rv id v s lo n=>match P.info? e,bf P e,H[id]? with
     |some i,.p z,ab (.row W G ae Q (.p (.arr N S A)))=>if cq i&&i.size=s&&G=s&&S=s&&W==v&&s !=0&&z.size==s then
       ab ([n=1,lo+1<=N],.bm [],H.set id (.row v s ae Q (.p (.arr N s (A.set lo z.soft)))),hs) else ad
     |_,_,_=>ad
    |_,_=>ad
   |_,_=>ad
  |.builtin .copy=>match c.args.toList,c.argTypes.toList with
   |[x,y],[t,u]=>match P.underlying t,aC P ts t x with
    |some (.slice e),.view id off I s lo n=>match iw P s u (aC P ts u y),H[id]? with
     |some j,ab (.var dd ae)=>match Z9 dd I hs with
      |some (C,B,.p (.arr N G A),hs')=>match WS (.p (.arr N G (oY A j lo))) dd I hs with
       |some dd'=>if G=s&&P.cellsOf e=s&&(P.info? e).isSome then ab (C++[B=off,j.length<=n,lo+n<=N],.p (.int .i64 (j.length:Int)),H.set id (.var dd' ae),hs') else ad
       |none=>ad
      |_=>ad
     |_,_=>ad
    |_,_=>ad
   |_,_=>ad
  |.value f=>match aC P ts 0 f,hs with
   |.fn g cap,.call r H' ids::hs'=>
    if iy P (fI g)&&c.args.size==c.argTypes.size&&once ids&&ids.length<=H'.length then
     match Dv.bB (bg ids) (Xe P ids ts c g cap),aN H ids ids,r.rn (aU ids H.length),aq.bB (aU ids H.length) H' with
     |some F,ab Hin,ab r',ab Hb=>ab ([bZ P (fI g) F Hin r H'],r',aw H ids Hb,hs')
     |_,_,_,_=>ad
    else ad
   |_,_=>ad
  |.invoke Y Z=>match aC P ts 0 Y,hs with
   |.iface t x,.ir g::.call r H' ids::hs'=>
    if iy P g&&c.args.size==c.argTypes.size&&once ids&&ids.length<=H'.length then
     match Dv.bB (bg ids) (x.cn ids::Xe P ids ts c 0 []),aN H ids ids,r.rn (aU ids H.length),aq.bB (aU ids H.length) H' with
     |some F,ab Hin,ab r',ab Hb=>ab ([oV P t Z g,bZ P g F Hin r H'],r',aw H ids Hb,hs')
     |_,_,_,_=>ad
    else ad
   |_,_=>ad
  |_=>ad
 |_=>ad
def cw(P:yg)(o:yj)(ts:yL Dv)(H:yL aq)(hs:yL ar):uG:=
 match bj P o ts hs with
 |some (C,d,hs')=>ab (C,d,H,hs')
 |none=>match bH P o ts H hs with
  |some (C,d,hs')=>ab (C,d,H,hs')
  |none=>cP P o ts H hs
def fB(ts:yL Dv)(dst:yO Tmp)(d:Dv):yL Dv:=
 match dst with
 |some i=>ts.set i d
 |none=>ts
def jd(dst:yO Tmp)(d:Dv)(hs:yL ar):yL Prop×Dv×yL ar:=([],d,hs)
def cY(P:yg)(ops:Array yj)(o:yj)(ts:yL Dv)(H:yL aq)(hs:yL ar):uG:=
 match o.guard with
 |none=>(cw P o ts H hs).map λ(C,d,H',hs')=>(C++(jd o.dst d hs').1,(jd o.dst d hs').2.1,H',(jd o.dst d hs').2.2)
 |some (j,g)=>match ((ops[j]?).bind (·.dst)).map λt=>ts.getD t .ak,hs with
  |some (.p (.bool t)),.b β::hs'=>
   if β=g then(cw P o ts H hs').map λ(C,d,H',f)=>((t=β)::C++(jd o.dst d f).1,(jd o.dst d f).2.1,H',(jd o.dst d f).2.2)
   else ab ([t=β],.bm [],H,hs')
  |some (.bm []),.raw::hs'=>ab ([],.bm [],H,hs')
  |_,_=>ad
def cu(P:yg)(ops:Array yj):yL yj->yL Dv->yL aq->yL ar->yO (yL Prop×yL Dv×yL aq×yL ar)
 |[],ts,H,hs=>ab ([],ts,H,hs)
 |o::h,ts,H,hs=>match cY P ops o ts H hs with
  |some (C,d,H',hs')=>match cu P ops h (fB ts o.dst d) H' hs' with
   |some (C',g,H'',f)=>ab (C++C',g,H'',f)
   |none=>ad
  |none=>ad
def looks(ops:Array yj)(o:yj):yL Nat:=
 (o.op.operands.toList.filterMap λx=>match x with|.tmp t=>ab t|_=>ad)++
 (match o.guard with|some (g,_)=>((ops[g]?).bind (·.dst)).toList|none=>[])
def aI(keep:yL Nat):Nat->yL Dv->yL Dv
 |_,[]=>[]
 |i,d::r=>(if keep.contains i then d else .ak)::aI keep (i+1) r
def bL(P:yg)(o:yj)(ts:yL Dv)(H:yL aq)(hs:yL ar):Nat:=
 match o.guard,hs with
 |some (_,f),.b β::hs'=>if β=f then(if(bj P o ts hs').isSome then 0 else if(bH P o ts H hs').isSome then 1 else 2) else 0
 |some _,.raw::_=>0
 |_,hs=>if(bj P o ts hs).isSome then 0 else if(bH P o ts H hs).isSome then 1 else 2
def oZ(P:yg)(o:yj)(ts:yL Dv):yO Nat:=
 match o.op with
 |.load t a=>match aC P ts 0 a with
  |.aj id _ _=>ab id
  |.ba id _ _ _=>ab id
  |_=>ad
 |.slice t x _ _ ad=>match aC P ts t x with
  |.aj id _ _=>ab id
  |_=>ad
 |.lookup t x _ _=>match aC P ts t x with
  |.mp id=>ab id
  |_=>ad
 |_=>ad
def kh(P:yg)(o:yj)(ts:yL Dv)(hs:yL ar):yO (yL Nat):=
 match o.op with
 |.assign _=>ab []
 |.move _=>ab []
 |.makeSlice _ _ _=>ab []
 |.makeMap _ ad=>ab []
 |.alloc _=>ab []
 |.box _ _=>ab []
 |.buildSlice _ _ _=>match hs with
  |.fresh id::_=>ab [id]
  |_::_=>ab []
  |[]=>ad
 |.slice t x _ _ ad=>match aC P ts t x with
  |.rv id _ _ _ _=>ab [id]
  |_=>ab []
 |.store t x y=>match aC P ts 0 x with
  |.aj id _ _=>ab [id]
  |.ba id _ _ _=>ab [id]
  |_=>ad
 |.call c=>match c.callee with
  |.builtin .append=>match c.args.toList,c.argTypes.toList with
   |[x,y],[t,u]=>match aC P ts t x with
    |.own id _ _ _=>ab [id]
    |.rv id _ _ _ _=>ab [id]
    |.p _=>ab []
    |_=>ad
   |_,_=>ad
  |.value _=>match hs with
   |.call _ _ ids::_=>ab ids
   |_=>ad
  |.invoke _ _=>match hs with
   |.ir _::.call _ _ ids::_=>ab ids
   |_=>ad
  |_=>ad
 |_=>ad
structure Rec where
 hs:List ar
 C:List Prop
 d:Dv
 H:List aq
 H':List aq
 hs':List ar
 bQ:Nat
 rd:Option Nat
 tc:Option (List Nat)
 push:Bool
 loc:Bool
 ex:Bool
def ki(o:yj):Bool:=match o.op with
 |.slice _ _ _ _ _=>ae
 |_=>af
def nr(r:Dv)(Hn:yL aq)(ids:yL Nat):Bool:=Hn.length==ids.length&&(r.rn (λj=>ids[j]?)).isSome&&(aq.bB (λj=>ids[j]?) Hn).isSome
def kS(o:yj)(hs:yL ar):Bool:=o.guard.isNone&&match o.op with
 |.call c=>match c.callee with
  |.value _=>match hs with
   |.call r Hn ids::_=>nr r Hn ids
   |_=>af
  |.invoke _ _=>match hs with
   |.ir _::.call r Hn ids::_=>nr r Hn ids
   |_=>af
  |_=>af
 |_=>af
def je(o:yj)(hs:yL ar)(n:Nat):Bool:=o.guard.isNone&&match o.op with
 |.alloc _=>ae
 |.call c=>match c.callee with
  |.value _=>match hs with
   |.call r Hn ids::_=>ids.isEmpty&&nr r Hn [n]
   |_=>af
  |_=>af
 |_=>af
def qH(P:yg)(o:yj)(ts:yL Dv):yO Nat:=oZ P o ts
def kT(P:yg)(o:yj)(ts:yL Dv)(hs:yL ar):yO (yL Nat):=if o.guard.isNone then kh P o ts hs else ad
def nu(P:yg)(ops:Array yj):yL yj->yL Dv->yL aq->yL ar->yO (yL Prop×yL Rec×yL Dv×yL aq×yL ar)
 |[],ts,H,hs=>ab ([],[],ts,H,hs)
 |o::h,ts,H,hs=>match cY P ops o (aI (looks ops o) 0 ts) H hs with
  |some (C,d,H',hs')=>match nu P ops h (fB ts o.dst d) H' hs' with
   |some (C',rs,g,H'',f)=>ab (C++C',⟨hs,C,d,H,H',hs',bL P o (aI (looks ops o) 0 ts) H hs,qH P o (aI (looks ops o) 0 ts),kT P o (aI (looks ops o) 0 ts) hs,je o hs H.length,kS o hs,ki o⟩::rs,g,H'',f)
   |none=>ad
  |none=>ad
def nv(A:yL Nat)(i:Nat)(o:yj):Nat:=
 o.after.toList.foldl (λm e=>if Region.binds .any e&&ag (e.on < i) then m|||(1 <<< e.on)|||A.getD e.on 0 else m) 0
def RV:yL yj->Nat->yL Nat->yL Nat
 |[],_,A=>A
 |o::r,i,A=>RV r (i+1) (A++[nv A i o])
def AU(ops:yL yj):yL Nat:=RV ops 0 []
def kU(l:yL yj):Nat->Bool
 |i=>match l with
  |[]=>ae
  |o::r=>(o.after.toList.all λe=> !Region.binds .any e || decide (e.on < i))&&kU r (i+1)
def aX(l:yL yj)(i:Nat):yO Tmp:=(l[i]?).bind (·.dst)
noncomputable def ZNm(id:Nat)(q:Rec):Bool:=@decide (du (q.H'[id]?)=du (q.H[id]?)) (Classical.propDecidable _)
noncomputable def lZ(rs:yL Rec)(i j:Nat):Bool:=
 match rs[i]?,rs[j]? with
 |some r,ab q=>(match r.rd with
  |some id=>ag (id < q.H.length)&&ag (id < r.H.length)&&(if r.ex=ae then q.push else((match q.tc with|some l=> !l.contains id|none=>af) || ZNm id q))
  |none=>af)
 |_,_=>af
def uJ(rs:yL Rec)(c:Nat)(r:Rec):Bool:=r.loc || (r.push&&r.H'.length==r.H.length+1&&(rs.take c).all λq=>ag (q.H.length<=r.H.length))
def kj(rs:yL Rec)(c i j:Nat):Bool:=((rs[c]?).map (uJ rs c)).getD af&&((i==c&&ag (c < j)&&((rs[j]?).map (·.push)).getD af) || (j==c&&ag (c < i)&&((rs[i]?).map (·.push)).getD af))
noncomputable def uK(ops:Array yj)(rs:yL Rec):Bool:=
 let f:=rs.map (·.bQ);let l:=ops.toList;let A:=AU l;let n:=l.length
 (f.length==n)&&kU l 0&&
 ((yn n).all λi=>match l[i]? with|some o=>A.getD i 0==nv A i o|none=>ae)&&
 ((yn n).all λi=>(yn n).all λj=>i==j || aX l i==ad || !(aX l i==aX l j))&&
 ((yn n).all λi=>match l[i]? with
   |some o=>let k:=looks ops o
    (yn n).all λj=>match aX l j with
      |some t=>i==j || !(k.contains t) || (if j < i then(A.getD i 0).testBit j else(A.getD j 0).testBit i)
      |none=>ae
   |none=>ae)&&
 ((yn (n+1)).any λc=>(yn n).all λi=>f.getD i 0==0 || (yn n).all λj=>i==j || !(f.getD j 0==2) || (if j < i then(A.getD i 0).testBit j else(A.getD j 0).testBit i) || (f.getD i 0==1&&lZ rs i j) || kj rs c i j)
noncomputable def uL(P:yg)(ops:Array yj)(ts:yL Dv)(H:yL aq)(hs:yL ar):yO (yL Prop×yL Dv×yL aq×yL ar):=
 if P.follows .mixedOrders then
  match nu P ops ops.toList ts H hs with
  |some (C,rs,f,H',hs')=>if uK ops rs then ab (C,f,H',hs') else ad
  |none=>ad
 else ad
def qI(ts:yL Dv):yL Nat->yL Dv
 |[]=>ts
 |i::r=>qI (ts.set i .ak) r
abbrev ZQF:=yO (yL Prop×Ex×yL Dv×yL aq×yL ar)
noncomputable def ev(P:yg):Code->yL Dv->yL aq->yL ar->ZQF
 |.skip,ts,H,hs=>ab ([],.normal,ts,H,hs)
 |.label _,ts,H,hs=>ab ([],.normal,ts,H,hs)
 |.region _ ops h,ts,H,hs=>if h then(uL P ops ts H hs).map λ(C,f,H',hs')=>(C,.normal,f,H',hs') else(cu P ops ops.toList ts H hs).map λ(C,f,H',hs')=>(C,.normal,f,H',hs')
 |.seq x y,ts,H,hs=>match ev P x ts H hs with
  |some (C,.normal,f,H',hs')=>match ev P y f H' hs' with
   |some (C',j,l,H'',m)=>ab (C++C',j,l,H'',m)
   |none=>ad
  |r=>r
 |.cond c x y,ts,H,hs=>match aC P ts 0 c,hs with
  |.p (.bool t),.b ae::hs'=>(ev P x ts H hs').map λ(C,r)=>((t=ae)::C,r)
  |.p (.bool t),.b af::hs'=>(ev P y ts H hs').map λ(C,r)=>((t=af)::C,r)
  |_,_=>ad
 |.block id g,ts,H,hs=>match ev P g ts H hs with
  |some (C,.exit z,f,H',hs')=>ab (C,if z=id then .normal else .exit z,f,H',hs')
  |r=>r
 |.loop g,ts,H,hs=>match hs with
  |.loop A j f H'::hs'=>if j=.normal then ad else ab ([XZ P (.loop g) (qI ts A) H j f H'],j,f,H',hs')
  |_=>ad
 |.scope g,ts,H,hs=>ev P g ts H hs
 |.exit id,ts,H,hs=>ab ([],.exit id,ts,H,hs)
 |.ret,ts,H,hs=>ab ([],.ret,ts,H,hs)
 |_,_,_,_=>ad
def gp(P:yg)(ts:yL Dv)(H:yL aq):yL ResultVar->yL ar->yO (yL Prop×yL Dv)
 |[],_=>ab ([],[])
 |.tmp t::r,hs=>(gp P ts H r hs).map λq=>(q.1,ts.getD t .ak::q.2)
 |.cell a g::r,hs=>match ts.getD a .ak with
  |.aj id off h=>match H[id]? with
   |some (.var d _)=>match Z9 d h hs with
    |some (C,f,sub,hs')=>if fS P g sub then(gp P ts H r hs').map λq=>(C++[f=off]++q.1,sub::q.2) else ad
    |none=>ad
   |_=>ad
  |_=>ad
def kV:yL Dv->Dv
 |[d]=>d
 |f=>.bm f
def fin(P:yg)(fn:Func)(ts:yL Dv)(H:yL aq)(k:Nat)(keep:yL Nat)(hs:yL ar):yO (yL Prop×Dv×yL aq):=
 match gp P ts H fn.results.toList hs with
 |some (C,f)=>
  let L:=yn k++keep
  match once L,(kV (f.map Dv.arg)).rn (bg L),(kV f).rn (bg L),aN H L L with
  |true,_,ab r,ab H'=>ab (C,r,H')
  |true,ab r,ad,ab H'=>ab (C,r,H')
  |_,_,_,_=>ad
 |none=>ad
def aZ:yL Prop->Prop
 |[]=>True
 |p::r=>p/\aZ r
end Go.Ev
end
section
namespace Go.Ev
section
variable{J:Sg}{v:yh}
theorem ZH{k:IntKind}{n:Int}(h:yJ J (.p (.int k n)) v):v=.int k n:=by simpa[yJ,Dv.isAgg,Pl.isAgg,yH,aA] using h
theorem Yl{b:Bool}(h:yJ J (.p (.bool b)) v):v=.bool b:=by simpa[yJ,Dv.isAgg,Pl.isAgg,yH,aA] using h
theorem pc{b:ByteArray}(h:yJ J (.p (.str b)) v):v=.string b:=by simpa[yJ,Dv.isAgg,Pl.isAgg,yH,aA] using h
theorem qJ(h:yJ J (.p .cb) v):v=.pointer ad:=by simpa[yJ,Dv.isAgg,Pl.isAgg,yH,aA] using h
theorem AV(h:yJ J (.p .fn0) v):v=.nilFunc:=by simpa[yJ,Dv.isAgg,Pl.isAgg,yH,aA] using h
theorem Zx(k:IntKind)(n:Int):yJ J (.p (.int k n)) (.int k n):=by simp[yJ,Dv.isAgg,Pl.isAgg,yH,aA]
theorem Yh(b:Bool):yJ J (.p (.bool b)) (.bool b):=by simp[yJ,Dv.isAgg,Pl.isAgg,yH,aA]
theorem YG:yJ J .ak v:=by simp[yJ,Dv.isAgg,yH]
theorem ZZ{d:Dv}(ha:d.isAgg=ae):yJ J d v↔∃cs:Array yh,v=.agg cs/\yH J d cs.toList:=by
 simp[yJ,ha]
theorem Zj{d:Dv}(ha:d.isAgg=af):yJ J d v↔yH J d [v]:=by
 simp[yJ,ha]
theorem WD{nn:yO Bool}{s:Nat}{xs:yL Pl}(h:yJ J (.p (.sl nn s xs)) v):
 bc s xs/\∃A c,v=.slice A xs.length c/\xs.length<=c/\c<=maxLen/\iY nn A/\(A=ad->c=0)/\
  (xs≠[]->∃b o us,A=ab ⟨b,o,ad⟩/\au J.w J.bh xs us/\W9 J.w J.bh b o us):=by
 rw[Zj (by rfl)]at h;simpa[yH,aA] using h
theorem YH{nn:yO Bool}{s:Nat}{xs:yL Pl}{A:yO Addr}{c:Nat}(h1:bc s xs)(h2:xs.length<=c)(h3:c<=maxLen)(h4:iY nn A)(h5:A=ad->c=0)
 (h6:xs≠[]->∃b o us,A=ab ⟨b,o,ad⟩/\au J.w J.bh xs us/\W9 J.w J.bh b o us):yJ J (.p (.sl nn s xs)) (.slice A xs.length c):=by
 rw[Zj (by rfl)];simp only[yH,aA];exact⟨h1,A,c,rfl,h2,h3,h4,h5,h6⟩
theorem mb{id s:Nat}{nn:yO Bool}{xs:yL Pl}(h:yJ J (.own id nn s xs) v):
 bc s xs/\∃A c,v=.slice A xs.length c/\xs.length<=c/\c<=maxLen/\iY nn A/\(A=ad->c=0)/\
  (xs≠[]->∃b o us,A=ab ⟨b,o,ad⟩/\au J.w J.bh xs us/\W9 J.w J.bh b o us)/\dc J id s xs.length A c:=by
 rw[Zj (by rfl)]at h;simpa[yH] using h
theorem pd{id s:Nat}{nn:yO Bool}{xs:yL Pl}(h:yJ J (.own id nn s xs) v):yJ J (.p (.sl nn s xs)) v:=by
 obtain⟨f,A,c,rfl,g,j,l,m,y,_⟩:=mb h;exact YH f g j l m y
end
mutual
theorem WV{w:yy}{S:Nat->Nat->Prop}:∀(x:Pl)(vs:yL yh),aA w S x vs->vs.length=x.size
 |.int _ _,_,h=>by simp only[aA]at h;subst h;rfl
 |.bool _,_,h=>by simp only[aA]at h;subst h;rfl
 |.str _,_,h=>by simp only[aA]at h;subst h;rfl
 |.cb,_,h=>by simp only[aA]at h;subst h;rfl
 |.fn0,_,h=>by simp only[aA]at h;subst h;rfl
 |.ew,_,h=>by simp only[aA]at h;subst h;rfl
 |.cD,_,h=>by simp only[aA]at h;subst h;rfl
 |.gG _,_,h=>by simp only[aA]at h;subst h;rfl
 |.agg f,vs,h=>by
  simp only[aA]at h
  simpa[Pl.size] using aO f vs h
 |.arr n s f,vs,h=>by
  simp only[aA]at h;obtain⟨g,j,l⟩:=h;have:=aO f vs l;rw[this,Pl.size, <-g]
  exact aR j
 |.sl _ _ _,_,h=>by
  simp only[aA]at h;obtain⟨_,A,c,h,_⟩:=h
  subst h;rfl
 |.iface _ _,_,h=>by
  simp only[aA]at h;obtain⟨v,h,_⟩:=h;subst h;rfl
theorem aO{w:yy}{S:Nat->Nat->Prop}:∀(xs:yL Pl)(vs:yL yh),au w S xs vs->vs.length=Pl.sizes xs
 |[],_,h=>by simp only[au]at h;subst h;rfl
 |x::xs,vs,h=>by
  simp only[au]at h;obtain⟨g,f,rfl,j,l⟩:=h;rw[yl,WV x g j,aO xs f l,Pl.sizes]
theorem aR{s:Nat}:∀{xs:yL Pl},bc s xs->Pl.sizes xs=xs.length*s
 |[],_=>by simp[Pl.sizes]
 |x::xs,h=>by
  rw[Pl.sizes,h x (yay ..),aR (λy f=>h y (yaz _ f)),yah,ybc];omega
end
theorem Ym{w:yy}{S:Nat->Nat->Prop}{xs ys:yL Pl}{us vs:yL yh}(h:au w S xs us)(k:au w S ys vs):au w S (xs++ys) (us++vs):=by
 induction xs generalizing us with
 |nil=>simp only[au]at h;subst h;simpa using k
 |cons x xs f=>
  simp only[au]at h;obtain⟨a,b,rfl,g,j⟩:=h;simp only[yaf,au,yab];exact⟨a,b++vs,rfl,g,f j⟩
theorem Yd{w:yy}{S:Nat->Nat->Prop}{xs ys:yL Pl}{us:yL yh}(h:au w S (xs++ys) us):∃a b,us=a++b/\au w S xs a/\au w S ys b:=by
 induction xs generalizing us with
 |nil=>exact⟨[],us,rfl,by simp[au],h⟩
 |cons x xs f=>
  simp only[yaf,au]at h;obtain⟨a,b,rfl,g,j⟩:=h;obtain⟨c,d,rfl,l,m⟩:=f j;exact⟨a++c,d,by simp,by simp only[au];exact⟨a,c,rfl,g,l⟩,m⟩
theorem Vf{s:Nat}{xs ys:yL Pl}(h:bc s xs)(k:bc s ys):bc s (xs++ys):=by
 intro x f;rcases ycr.1 f with h1|h1
 .exact h x h1
 .exact k x h1
theorem Qc{s:Nat}{xs:yL Pl}(h:bc s xs)(n:Nat):bc s (xs.take n):=λx f=>h x (ybw f)
theorem uM{s:Nat}{xs:yL Pl}(h:bc s xs)(n:Nat):bc s (xs.drop n):=λx f=>h x (List.mem_of_mem_drop f)
theorem W9.append{w:yy}{S:Nat->Nat->Prop}{b o:Nat}{us vs:yL yh}(h:W9 w S b o (us++vs)):W9 w S b o us/\W9 w S b (o+us.length) vs:=by
 constructor
 .intro j u f;exact h j u (by rw[ybd (yu.1 f).1];exact f)
 .intro j u f;have:=h (us.length+j) u (by rw[yas (by omega)];simpa using f)
  rwa [<-Nat.add_assoc]at this
theorem RW{P:yg}{t:yc}{v:yh}{x:Pl}(h:uF P t v=ab x)(w:yy)(S:Nat->Nat->Prop):aA w S x [v]/\x.isAgg=af:=by
 unfold uF at h
 split at h <;> first
  |(cases h;done)
  |(simp only[yo]at h;subst h;refine⟨?_,rfl⟩;simp only[aA];done)
  |(simp only[yo]at h;subst h;exact⟨by simp only[aA];exact⟨λ_ f=>(by cases f),ad,0,rfl,ym _,Nat.zero_le _,RU rfl,λ_=>rfl,λg=>absurd rfl g⟩,rfl⟩)
mutual
theorem AW{P:yg}:∀(yD:Nat)(t:yc)(vs:yL yh)(x:Pl)(r:yL yh),oW P yD t vs=ab (x,r)->∀w S,∃us,vs=us++r/\aA w S x us
 |0,_,_,_,_,h,_,_=>by simp[oW]at h
 |yD+1,t,vs,x,r,h,w,S=>by
  simp only[oW]at h;split at h
  .rename_i A _;simp only[yv,yq]at h;obtain⟨⟨l,j⟩,f,rfl,rfl⟩:=h;obtain⟨us,e,g⟩:=dY yD _ _ _ _ f w S;exact⟨us,e,by simpa[aA] using g⟩
  .rename_i n e _;simp only[yv,yq]at h;obtain⟨⟨l,j⟩,f,rfl,rfl⟩:=h;obtain⟨us,m,y,z,g⟩:=fK yD _ _ _ _ _ f w S;exact⟨us,m,by simp only[aA];exact⟨y,z,g⟩⟩
  .split at h
   .rename_i v j;simp only[yv,yq]at h;obtain⟨B,f,rfl,rfl⟩:=h;exact⟨[v],rfl,(RW f w S).1⟩
   .cases h
  .cases h
theorem dY{P:yg}:∀(yD:Nat)(ts:yL yc)(vs:yL yh)(xs:yL Pl)(r:yL yh),de P yD ts vs=ab (xs,r)->∀w S,∃us,vs=us++r/\au w S xs us
 |0,_,_,_,_,h,_,_=>by simp[de]at h
 |yD+1,[],vs,xs,r,h,w,S=>by
  simp only[de,yo,yq]at h;obtain⟨rfl,rfl⟩:=h
  exact⟨[],rfl,by simp[au]⟩
 |yD+1,t::ts,vs,xs,r,h,w,S=>by
  simp only[de]at h;split at h
  .rename_i x E g;simp only[yv,yq]at h;obtain⟨⟨j,l⟩,m,rfl,rfl⟩:=h;obtain⟨us,y,z⟩:=AW yD _ _ _ _ g w S;obtain⟨f,A,B⟩:=dY yD _ _ _ _ m w S;subst A;exact⟨us++f,by rw[y,yab],by simp only[au];exact⟨us,f,rfl,z,B⟩⟩
  .cases h
theorem fK{P:yg}:∀(yD:Nat)(e:yc)(n:Nat)(vs:yL yh)(xs:yL Pl)(r:yL yh),fJ P yD e n vs=ab (xs,r)->
 ∀w S,∃us,vs=us++r/\xs.length=n/\bc (P.cellsOf e) xs/\au w S xs us
 |0,_,_,_,_,_,h,_,_=>by simp[fJ]at h
 |yD+1,e,0,vs,xs,r,h,w,S=>by
  simp only[fJ,yo,yq]at h;obtain⟨rfl,rfl⟩:=h
  exact⟨[],rfl,rfl,(λ_ j=>(by cases j)),by simp[au]⟩
 |yD+1,e,n+1,vs,xs,r,h,w,S=>by
  simp only[fJ]at h;split at h
  .rename_i x Q l;split at h
   .rename_i hs;simp only[yv,yq]at h;obtain⟨⟨m,z⟩,A,rfl,rfl⟩:=h;obtain⟨us,B,E⟩:=AW yD _ _ _ _ l w S;obtain⟨f,F,G,I,M⟩:=fK yD _ _ _ _ _ A w S;subst F;refine⟨us++f,by rw[B,yab],by simp[G], ?_,by simp only[au];exact⟨us,f,rfl,E,M⟩⟩;intro y g
    cases g with
    |head=>exact hs
    |tail _ g=>exact I y g
   .cases h
  .cases h
end
theorem RX{J:Sg}{f:yr}(g:f < big):yJ J (.fn f []) (.func (.func f) #[] #[]):=by
 have e:fI f=f:=by
  unfold fI;rw[yW g]
 rw[Zj rfl];simp only[yH];exact⟨#[], #[],by rw[e],yW g,by simp[aH]⟩
theorem nw{P:yg}{t:yc}{v:yh}{J:Sg}:yJ J (oX P t v) v:=by
 unfold oX;split
 .rename_i m;split
  .rename_i x h;split
   .rename_i y;obtain⟨E,e,z⟩:=AW _ _ _ _ _ h J.w J.bh;rw[ZZ (by simpa[Dv.isAgg] using y)];exact⟨m,rfl,by simp only[yH];rw[e];simpa using z⟩
   .exact YG
  .exact YG
 .rename_i f g j;split
  .rename_i l;have A:g= #[]:=by simpa using l.1
   have B:j= #[]:=by simpa using l.2.1
   subst A;subst B;exact RX l.2.2
  .exact YG
 .split
  .rename_i x h;have:=RW h J.w J.bh;rw[Zj (by simpa[Dv.isAgg] using this.2)];simpa[yH] using this.1
  .exact YG
theorem Zo{P:yg}{J:Sg}{ts:yL Dv}{a:Act}(h:aB J ts a)(t:yc)(x:yp):yJ J (aC P ts t x) (a.eval x):=by
 cases x with
 |tmp i=>
  simp only[aC,Act.eval]
  cases j:ts[i]? with
  |none=>simp only[List.getD,j,Option.getD_none];exact YG
  |some d=>simp only[List.getD,j,Option.getD_some];exact h.at_ i d j
 |const v=>exact nw
 |global g=>exact YG
 |func f=>
  simp only[aC,Act.eval];split
  .rename_i l;exact RX l
  .exact YG
theorem ZF7{J:Sg}{d:Dv}{x:Pl}{v:yh}(h:d.plain=ab x)(f:yJ J d v):yJ J (.p x) v:=by
 unfold Dv.plain at h;split at h
 .cases h;exact f
 .cases h;exact pd f
 .cases h
mutual
theorem qK{J:Sg}:∀(d:Dv)(x:Pl)(us:yL yh),d.flat=ab x->yH J d us->aA J.w J.bh x us
 |.p y,x,us,h,f=>by rw[Dv.flat]at h;cases h;simpa[yH] using f
 |.own id M s j,x,us,h,f=>by
  rw[Dv.flat]at h;cases h;simp only[yH]at f;obtain⟨m,A,c,z,B,E,F,G,I,_⟩:=f;simp only[aA]
  exact⟨m,A,c,z,B,E,F,G,I⟩
 |.agg l,x,us,h,f=>by
  rw[Dv.flat]at h
  cases g:Dv.aW l with
  |none=>rw[g]at h;cases h
  |some j=>
   rw[g]at h;cases h;simp only[yH]at f;simp only[aA]
   exact dP l j us g f
 |.elem _,x,us,h,f=>by rw[Dv.flat]at h <;> simp_all
 |.aj _ _ _,x,us,h,f=>by rw[Dv.flat]at h <;> simp_all
 |.view _ _ _ _ _ _,x,us,h,f=>by rw[Dv.flat]at h <;> simp_all
 |.arr _ _ _,x,us,h,f=>by rw[Dv.flat]at h <;> simp_all
 |.fn _ _,x,us,h,f=>by rw[Dv.flat]at h <;> simp_all
 |.iface _ _,x,us,h,f=>by rw[Dv.flat]at h <;> simp_all
 |.bm _,x,us,h,f=>by rw[Dv.flat]at h <;> simp_all
 |.mp _,x,us,h,f=>by rw[Dv.flat]at h <;> simp_all
 |.rv _ _ _ _ _,x,us,h,f=>by rw[Dv.flat]at h <;> simp_all
 |.ba _ _ _ _,x,us,h,f=>by rw[Dv.flat]at h <;> simp_all
 |.ak,x,us,h,f=>by rw[Dv.flat]at h <;> simp_all
theorem dP{J:Sg}:∀(f:yL Dv)(xs:yL Pl)(us:yL yh),Dv.aW f=ab xs->aM J f us->au J.w J.bh xs us
 |[],xs,us,h,g=>by rw[Dv.aW]at h;cases h;simpa[aM,au] using g
 |d::f,xs,us,h,g=>by
  rw[Dv.aW]at h;split at h
  .rename_i x j l m;cases h;simp only[aM]at g;obtain⟨a,b,rfl,y,z⟩:=g;simp only[au];exact⟨a,b,rfl,qK d x a l y,dP f j b m z⟩
  .cases h
end
theorem AX{d:Dv}{x:Pl}(h:d.flat=ab x):x.isAgg=d.isAgg:=by
 cases d <;> first
  |(rw[Dv.flat]at h;cases h;rfl)
  |(rename_i g;rw[Dv.flat]at h;cases f:Dv.aW g with
     |none=>rw[f]at h;cases h
     |some j=>rw[f]at h;cases h;rfl)
  |(simp[Dv.flat]at h)
theorem AY{J:Sg}{d:Dv}{x:Pl}{v:yh}(h:d.flat=ab x)(f:yJ J d v):yJ J (.p x) v:=by
 have j:=AX h
 cases g:d.isAgg with
 |true=>
  rw[ZZ g]at f;rw[ZZ (by show x.isAgg=_;rw[j,g])];obtain⟨l,rfl,m⟩:=f
  exact⟨l,rfl,by simp only[yH];exact qK d x _ h m⟩
 |false=>
  rw[Zj g]at f;rw[Zj (by show x.isAgg=_;rw[j,g])];simp only[yH];exact qK d x _ h f
theorem RY{J:Sg}{f:yL Dv}{v:yh}(g:yJ J (.agg f) v):yJ J (Dv.dz f) v:=by
 unfold Dv.dz
 cases h:Dv.aW f with
 |none=>exact g
 |some j=>exact AY (d:=.agg f) (by rw[Dv.flat,h];rfl) g
theorem AZ{J:Sg}{d:Dv}{v:yh}(ids:yL Nat)(f:yJ J d v):yJ J (d.cn ids) v:=by
 unfold Dv.cn;split
 .split
  .exact f
  .exact pd f
 .split
  .exact f
  .exact RY f
 .exact f
theorem ZK3{J:Sg}{d:Dv}{v:yh}(f:yJ J d v):yJ J d.arg v:=by
 unfold Dv.arg;split
 .exact pd f
 .exact RY f
 .exact f
end Go.Ev
end
section
namespace Go.Ev
theorem ny{k:IntKind}{x:Int}(h:WW k x):k.wrap x=x:=by
 obtain⟨f,g⟩:=h;cases k <;> simp only[IntKind.min,IntKind.max,IntKind.wrap,IntKind.signed,IntKind.bits] at* <;> simp at* <;> (try split) <;> omega
theorem Zm{A B:yL Prop}:aZ (A++B)↔aZ A/\aZ B:=by
 induction A with
 |nil=>simp[aZ]
 |cons p A f=>simp[aZ,f,and_assoc]
theorem qL{k:IntKind}{x:Int}{hs hs':yL ar}{C:yL Prop}{d:Dv}(h:gm k x hs=ab (C,d,hs'))(hc:aZ C)(J:Sg):yJ J d (.int k (k.wrap x)):=by
 unfold gm at h;split at h
 .cases h;rw[ny hc.1];exact Zx _ _
 .cases h;exact Zx _ _
 .cases h
theorem pf(n a:Nat)(h:a < 2 ^ n):(ybz n (a:Int)).toNat=a:=by
 rw[BitVec.ofInt_natCast,BitVec.toNat_ofNat];exact Nat.mod_eq_of_lt h
theorem RZ{k:IntKind}{x:Int}(h:WW k x)(f:0<=x):x.toNat < 2 ^ k.bits:=by
 obtain⟨g,j⟩:=h;cases k <;> simp only[IntKind.min,IntKind.max,IntKind.signed,IntKind.bits] at* <;> simp at* <;> omega
theorem uN{op:BinOp}{k:IntKind}{x y:Int}{r:Nat}(f:uH op x.toNat y.toNat=ab r)(l:0<=x)(z:WW k x)(m:0<=y)(A:WW k y)(j:WW k (r:Int)):
 bits op k x y=(r:Int):=by
 obtain⟨a,rfl⟩:=Int.eq_ofNat_of_zero_le l;obtain⟨b,rfl⟩:=Int.eq_ofNat_of_zero_le m;have g:=RZ z l;have h:=RZ A m;simp only[Int.toNat_natCast]at g h f;unfold uH at f;split at f
 .cases f;have e:bits .and k (a:Int) (b:Int)=k.wrap ((ybz k.bits (a:Int)&&&ybz k.bits (b:Int)).toNat:Int):=rfl;rw[e,BitVec.toNat_and,pf _ _ g,pf _ _ h];exact ny j
 .cases f;have e:bits .or k (a:Int) (b:Int)=k.wrap ((ybz k.bits (a:Int)|||ybz k.bits (b:Int)).toNat:Int):=rfl;rw[e,BitVec.toNat_or,pf _ _ g,pf _ _ h];exact ny j
 .cases f;have e:bits .xor k (a:Int) (b:Int)=k.wrap ((ybz k.bits (a:Int)^^^ybz k.bits (b:Int)).toNat:Int):=rfl;rw[e,BitVec.toNat_xor,pf _ _ g,pf _ _ h];exact ny j
 .cases f
theorem ZAF{P:yg}{op:BinOp}{k:IntKind}{x y:Int}{hs hs':yL ar}{C:yL Prop}{d:Dv}(h:Xj op k x y hs=ab (C,d,hs'))(hc:aZ C)(J:Sg)(t:yc):
 ∃v,(binOp op t (.int k x) (.int k y)).run P J.w=.ok v J.w/\yJ J d v:=by
 unfold Xj at h;split at h
 .exact⟨_,by rw[binOp_add];rfl,qL h hc J⟩
 .exact⟨_,by rw[binOp_sub];rfl,qL h hc J⟩
 .exact⟨_,by rw[binOp_mul];rfl,qL h hc J⟩
 .split at h
  .cases h;obtain⟨f,g,j,_⟩:=hc;have l:y≠0:=by omega
   refine⟨_, ?_,Zx k (x / y)⟩;rw[binOp_quo];simp only[Op.intDiv,l,if_false];rw[Int.tdiv_eq_ediv_of_nonneg f,ny j];rfl
  .cases h;have l:y≠0:=hc.1;refine⟨_, ?_,Zx k _⟩;rw[binOp_quo];simp only[Op.intDiv,l,if_false];rfl
  .cases h
 .split at h
  .cases h;obtain⟨f,g,_⟩:=hc;have l:y≠0:=by omega
   refine⟨_, ?_,Zx k (x % y)⟩;rw[binOp_rem];simp only[Op.intDiv,l,if_false];rw[Int.tmod_eq_emod_of_nonneg f];rfl
  .cases h;have l:y≠0:=hc.1;refine⟨_, ?_,Zx k _⟩;rw[binOp_rem];simp only[Op.intDiv,l,if_false];rfl
  .cases h
 .split at h
  .simp only[yv,yq]at h;obtain⟨r,m,rfl,rfl,rfl⟩:=h;obtain⟨f,g,j,z,A,_⟩:=hc;refine⟨_, ?_,Zx k _⟩;rw[binOp_and,intBits_and,uN m f g j z A];rfl
  .cases h;exact⟨_,by rw[binOp_and,intBits_and];rfl,Zx k _⟩
  .cases h
 .split at h
  .simp only[yv,yq]at h;obtain⟨r,m,rfl,rfl,rfl⟩:=h;obtain⟨f,g,j,z,A,_⟩:=hc;refine⟨_, ?_,Zx k _⟩;rw[binOp_or,intBits_or,uN m f g j z A];rfl
  .cases h;exact⟨_,by rw[binOp_or,intBits_or];rfl,Zx k _⟩
  .cases h
 .split at h
  .simp only[yv,yq]at h;obtain⟨r,m,rfl,rfl,rfl⟩:=h;obtain⟨f,g,j,z,A,_⟩:=hc;refine⟨_, ?_,Zx k _⟩;rw[binOp_xor,intBits_xor,uN m f g j z A];rfl
  .cases h;exact⟨_,by rw[binOp_xor,intBits_xor];rfl,Zx k _⟩
  .cases h
 .split at h
  .cases h;exact⟨_,by rw[binOp_andNot,intBits_andNot];rfl,Zx k _⟩
  .cases h
 all_goals first
  |(cases h;done)
  |(cases h
    first
     |exact⟨_,by rw[binOp_eql];rfl,Yh _⟩
     |exact⟨_,by rw[binOp_neq];rfl,Yh _⟩
     |exact⟨_,by rw[binOp_lss];rfl,Yh _⟩
     |exact⟨_,by rw[binOp_leq];rfl,Yh _⟩
     |exact⟨_,by rw[binOp_gtr];rfl,Yh _⟩
     |exact⟨_,by rw[binOp_geq];rfl,Yh _⟩)
theorem ZwA{P:yg}{op:BinOp}{k yk:IntKind}{x y:Int}{hs hs':yL ar}{C:yL Prop}{d:Dv}(h:Ve op k x y hs=ab (C,d,hs'))(hc:aZ C)(J:Sg):
 ∃v,(Op.shift op k x yk y).run P J.w=.ok v J.w/\yJ J d v:=by
 unfold Ve at h;split at h
 .cases h;obtain⟨j,g,l,_⟩:=hc;refine⟨_, ?_,Zx k _⟩;have f:¬y < 0:=by omega
  simp only[Op.shift,f,if_false];rw[ybb (Nat.le_of_lt g),ny l];rfl
 .cases h;refine⟨_, ?_,Zx k _⟩;have f:¬y < 0:=by have:0<=y:=hc.1;omega
  simp only[Op.shift,f,if_false];rfl
 .cases h;obtain⟨j,g,_⟩:=hc;refine⟨_, ?_,Zx k _⟩;have f:¬y < 0:=by omega
  simp only[Op.shift,f,if_false];rw[ybb g,Int.fdiv_eq_ediv_of_nonneg _ (by exact Int.le_of_lt (Int.pow_pos (by decide)))];rfl
 .cases h;refine⟨_, ?_,Zx k _⟩;have f:¬y < 0:=by have:0<=y:=hc.1;omega
  simp only[Op.shift,f,if_false];rfl
 .cases h
mutual
theorem BA{w:yy}{S:Nat->Nat->Prop}:∀(x:Pl)(vs:yL yh),aA w S x vs->∀u,u∈vs->u.oneCell'=ae
 |.int _ _,_,h,u,f=>by simp only[aA]at h;subst h;cases ybf.1 f;rfl
 |.bool _,_,h,u,f=>by simp only[aA]at h;subst h;cases ybf.1 f;rfl
 |.str _,_,h,u,f=>by simp only[aA]at h;subst h;cases ybf.1 f;rfl
 |.cb,_,h,u,f=>by simp only[aA]at h;subst h;cases ybf.1 f;rfl
 |.fn0,_,h,u,f=>by simp only[aA]at h;subst h;cases ybf.1 f;rfl
 |.ew,_,h,u,f=>by simp only[aA]at h;subst h;cases ybf.1 f;rfl
 |.cD,_,h,u,f=>by simp only[aA]at h;subst h;cases ybf.1 f;rfl
 |.gG _,_,h,u,f=>by simp only[aA]at h;subst h;cases ybf.1 f;rfl
 |.agg g,vs,h,u,f=>by
  simp only[aA]at h
  exact cG g vs h u f
 |.arr n s g,vs,h,u,f=>by
  simp only[aA]at h
  exact cG g vs h.2.2 u f
 |.sl _ _ _,_,h,u,f=>by
  simp only[aA]at h;obtain⟨_,A,c,h,_⟩:=h
  subst h;cases ybf.1 f;rfl
 |.iface _ _,_,h,u,f=>by
  simp only[aA]at h;obtain⟨v,h,_⟩:=h;subst h;cases ybf.1 f;rfl
theorem cG{w:yy}{S:Nat->Nat->Prop}:∀(xs:yL Pl)(vs:yL yh),au w S xs vs->∀u,u∈vs->u.oneCell'=ae
 |[],_,h,u,f=>by simp only[au]at h;subst h;cases f
 |x::xs,vs,h,u,f=>by
  simp only[au]at h;obtain⟨j,g,rfl,l,m⟩:=h;rcases ycr.1 f with h3|h3
  .exact BA x j l u h3
  .exact cG xs g m u h3
end
mutual
theorem X2{J:Sg}:∀(d:Dv)(vs:yL yh),yH J d vs->vs.length=d.size
 |.p x,vs,h=>by simp only[yH]at h;exact WV x vs h
 |.elem _,_,h=>by simp only[yH]at h;obtain⟨b,o,y,rfl,_⟩:=h;rfl
 |.aj _ _ _,_,h=>by simp only[yH]at h;obtain⟨b,_,_,rfl⟩:=h;rfl
 |.own _ _ _ _,_,h=>by simp only[yH]at h;obtain⟨_,A,c,rfl,_⟩:=h;rfl
 |.view _ _ _ _ _ _,_,h=>by simp only[yH]at h;obtain⟨b,c,a,_,_,rfl,_⟩:=h;rfl
 |.agg f,vs,h=>by simp only[yH]at h;simpa[Dv.size] using di f vs h
 |.arr n s f,vs,h=>by
  simp only[yH]at h;obtain⟨j,l,m⟩:=h;rw[di f vs m,Dv.size, <-j]
  exact cU l
 |.fn _ _,_,h=>by simp only[yH]at h;obtain⟨z,g,rfl,_⟩:=h;rfl
 |.iface _ _,_,h=>by simp only[yH]at h;obtain⟨g,rfl,_⟩:=h;rfl
 |.bm _,_,h=>by simp only[yH]at h;obtain⟨g,rfl,_⟩:=h;rfl
 |.mp _,_,h=>by simp only[yH]at h;obtain⟨b,_,_,rfl⟩:=h;rfl
 |.rv _ _ _ _ _,_,h=>by simp only[yH]at h;obtain⟨A,c,rfl,_⟩:=h;rfl
 |.ba _ _ _ _,_,h=>by simp only[yH]at h;obtain⟨b,o,rfl,_⟩:=h;rfl
 |.ak,_,h=>by simpa[yH,Dv.size] using h
theorem di{J:Sg}:∀(g:yL Dv)(vs:yL yh),aM J g vs->vs.length=Dv.sizes g
 |[],_,h=>by simp only[aM]at h;subst h;rfl
 |x::j,vs,h=>by
  simp only[aM]at h;obtain⟨l,f,rfl,m,y⟩:=h;rw[yl,X2 x l m,di j f y,Dv.sizes]
theorem cU{s:Nat}:∀{xs:yL Dv},(∀x,x∈xs->x.size=s)->Dv.sizes xs=xs.length*s
 |[],_=>by simp[Dv.sizes]
 |x::xs,h=>by
  rw[Dv.sizes,h x (yay ..),cU (λy f=>h y (yaz _ f)),yah,ybc];omega
end
theorem kW{w:yy}{S:Nat->Nat->Prop}{xs:yL Pl}{us:yL yh}{i:Nat}{y:Pl}(h:au w S xs us)(f:xs[i]? =ab y):
 ∃a b c,us=a++(b++c)/\a.length=Pl.sizes (xs.take i)/\aA w S y b/\b.length=y.size/\au w S (xs.take i) a/\au w S (xs.drop (i+1)) c:=by
 have A:i < xs.length:=(yu.1 f).1
 have m:xs=xs.take i++(y::xs.drop (i+1)):=by
  rw[<-(yu.1 f).2,List.getElem_cons_drop,ybg]
 rw[m]at h;obtain⟨a,r,rfl,g,j⟩:=Yd h;simp only[au]at j;obtain⟨b,c,rfl,l,z⟩:=j;exact⟨a,b,c,rfl,aO _ _ g,l,WV _ _ l,g,z⟩
theorem qM{J:Sg}{xs ys:yL Dv}{us vs:yL yh}(h:aM J xs us)(k:aM J ys vs):aM J (xs++ys) (us++vs):=by
 induction xs generalizing us with
 |nil=>simp only[aM]at h;subst h;simpa using k
 |cons x xs f=>
  simp only[aM]at h;obtain⟨a,b,rfl,g,j⟩:=h;simp only[yaf,aM,yab];exact⟨a,b++vs,rfl,g,f j⟩
theorem ZAG{J:Sg}{xs ys:yL Dv}{us:yL yh}(h:aM J (xs++ys) us):∃a b,us=a++b/\aM J xs a/\aM J ys b:=by
 induction xs generalizing us with
 |nil=>exact⟨[],us,rfl,by simp[aM],h⟩
 |cons x xs f=>
  simp only[yaf,aM]at h;obtain⟨a,b,rfl,g,j⟩:=h;obtain⟨c,d,rfl,l,m⟩:=f j;exact⟨a++c,d,by simp,by simp only[aM];exact⟨a,c,rfl,g,l⟩,m⟩
theorem mc{J:Sg}{xs:yL Dv}{us:yL yh}{i:Nat}{y:Dv}(h:aM J xs us)(l:xs[i]? =ab y):
 ∃a b c,us=a++(b++c)/\a.length=Dv.sizes (xs.take i)/\yH J y b/\b.length=y.size/\aM J (xs.take i) a/\aM J (xs.drop (i+1)) c:=by
 have m:xs=xs.take i++(y::xs.drop (i+1)):=by
  rw[<-(yu.1 l).2,List.getElem_cons_drop,ybg]
 rw[m]at h;obtain⟨a,r,rfl,f,g⟩:=ZAG h;simp only[aM]at g;obtain⟨b,c,rfl,j,z⟩:=g;exact⟨a,b,c,rfl,di _ _ f,j,X2 _ _ j,f,z⟩
theorem jx{J:Sg}:∀{xs:yL Pl}{us:yL yh},aM J (xs.map .p) us↔au J.w J.bh xs us
 |[],us=>by simp[aM,au]
 |x::xs,us=>by
  simp only[yag,aM,au,yH];constructor
  .rintro⟨a,b,rfl,f,g⟩;exact⟨a,b,rfl,f,jx.1 g⟩
  .rintro⟨a,b,rfl,f,g⟩;exact⟨a,b,rfl,f,jx.2 g⟩
theorem SA{P:yg}{t:yc}(h:(P.underlying t).isSome=ae)(w:yy):(isAgg t).run P w=.ok (X0 P t) w:=by
 cases f:P.underlying t with
 |none=>simp[f]at h
 |some d=>
  unfold isAgg X0;rw[Sem.run_bind,run_underlying f w];cases d <;> simp[f]
theorem Z3{P:yg}{t:yc}(h:(P.info? t).isSome=ae)(w:yy):(sizeOf t).run P w=.ok (P.cellsOf t) w:=by
 cases f:P.info? t with
 |none=>simp[f]at h
 |some i=>simp[sizeOf,typeInfo,f,Program.cellsOf]
theorem kl{P:yg}{J:Sg}{t:yc}{d:Dv}{cs:Array yh}{a b c:yL yh}(hcs:cs.toList=a++(b++c))(g:yH J d b)(hs:P.cellsOf t=d.size)(hi:(P.info? t).isSome=ae)
 (hu:(P.underlying t).isSome=ae) (ha:X0 P t=d.isAgg) (m:d.size≠0):∃v,(part t cs a.length).run P J.w=.ok v J.w/\yJ J d v:=by
 have h:b.length=d.size:=X2 _ _ g;unfold part;simp only[Sem.run_bind,SA hu,Result.andThen_ok]
 cases f:d.isAgg with
 |true=>
  rw[ha,f];simp only[if_true,Sem.run_bind,Z3 hi,Result.andThen_ok,Sem.run_pure];refine⟨_,rfl, ?_⟩;rw[ZZ f];refine⟨_,rfl, ?_⟩
  have:(cs.extract a.length (a.length+P.cellsOf t)).toList=b:=by
   rw[Array.toList_extract,hcs,hs, <-h,List.extract_eq_take_drop];simp
  rw[this]
  exact g
 |false=>
  rw[ha,f];simp only[Bool.false_eq_true,if_false]
  have j:d.size=1:=by
   cases d with
   |p x=>cases x <;> first|rfl|(simp[Dv.isAgg,Pl.isAgg]at f)
   |agg _=>simp[Dv.isAgg]at f
   |arr _ _ _=>simp[Dv.isAgg]at f
   |_=>rfl
  rw[j]at h
  obtain⟨v,rfl⟩:∃v,b=[v]:=by
   match b,h with
   |[v],_=>exact⟨v,rfl⟩
  have l:cs[a.length]? =ab v:=by
   rw[<-ycl,hcs];simp
  rw[l];exact⟨v,rfl,(Zj f).2 g⟩
theorem ZwB{P:yg}{J:Sg}{t:yc}{x d:Dv}{i:Nat}{v:yh}(h:jb P t x i=ab d)(l:yJ J x v):
 ∃u,(Instr.field t v i).run P J.w=.ok u J.w/\yJ J d u:=by
 unfold jb at h;split at h
 .rename_i T U z;split at h
  .rename_i y A;split at h
   .rename_i g;cases h;unfold kg at g;split at g
    .rename_i f B;simp only[yi,yT,yE]at g;obtain⟨⟨⟨⟨⟨E,F⟩,G⟩,I⟩,M⟩,Q⟩:=g;rw[ZZ rfl]at l;obtain⟨W,rfl,l⟩:=l;simp only[yH,aA]at l;obtain⟨a,b,c,e,R,S,_⟩:=kW l A;obtain⟨u,j,m⟩:=kl (P:=P) (J:=J) (t:=f.type) (d:=.p y) e (by simpa[yH] using S) F G M I Q;refine⟨u, ?_,m⟩;rw[R, <-E]at j;simp[Instr.field,run_underlying z,B,asAgg,j]
    .cases g
   .cases h
  .cases h
 .rename_i T U z;split at h
  .rename_i y A;split at h
   .rename_i g;cases h;unfold kg at g;split at g
    .rename_i f B;simp only[yi,yT,yE]at g;obtain⟨⟨⟨⟨⟨E,F⟩,G⟩,I⟩,M⟩,Q⟩:=g;rw[ZZ rfl]at l;obtain⟨W,rfl,l⟩:=l;simp only[yH]at l;obtain⟨a,b,c,e,R,S,_⟩:=mc l A;obtain⟨u,j,m⟩:=kl (P:=P) (J:=J) (t:=f.type) (d:=d) e S F G M I Q;refine⟨u, ?_,m⟩;rw[R, <-E]at j;simp[Instr.field,run_underlying z,B,asAgg,j]
    .cases g
   .cases h
  .cases h
 .cases h
theorem Addr.bI(b o n:Nat):(⟨b,o,ad⟩:Addr).add n=⟨b,o+n,ad⟩:=Addr.add_lit b o n
theorem uO{w:yy}{S:Nat->Nat->Prop}{s:Nat}{xs:yL Pl}{us:yL yh}{b o i:Nat}{y:Pl}(hs:bc s xs)(h:au w S xs us)(hc:W9 w S b o us)(g:xs[i]? =ab y):
 ∃f,aA w S y f/\W9 w S b (o+i*s) f:=by
 obtain⟨a,f,c,rfl,j,l,_⟩:=kW h g;have m:i < xs.length:=(yu.1 g).1
 have z:a.length=i*s:=by
  rw[j,aR (Qc hs i),yac,ybb (Nat.le_of_lt m)]
 refine⟨f,l, ?_⟩;have A:=(W9.append (W9.append hc).2).1
 rwa [z]at A
theorem uP{P:yg}{J:Sg}{t:yc}{d:Dv}{b o:Nat}{us:yL yh}(g:yH J d us)(hc:∀(j:Nat)(u:yh),us[j]? =ab u->J.w.cell? ⟨b,o+j,ad⟩=ab u)(hs:P.cellsOf t=d.size)
 (hi:(P.info? t).isSome=ae) (hu:(P.underlying t).isSome=ae) (ha:X0 P t=d.isAgg):∃v,(loadVar t ⟨b,o,ad⟩).run P J.w=.ok v J.w/\yJ J d v:=by
 have h:us.length=d.size:=X2 _ _ g;unfold loadVar;simp only[Sem.run_bind,SA hu,Result.andThen_ok]
 cases f:d.isAgg with
 |true=>
  rw[ha,f];have l:=run_loadCells_list (P:=P) J.w ⟨b,o,ad⟩ us (λj u hu=>by rw[Addr.bI];exact hc j u hu);rw[h, <-hs]at l;simp only[if_true,Sem.run_bind,Z3 hi,Result.andThen_ok,l,Sem.run_pure]
  exact⟨_,rfl,(ZZ f).2 ⟨_,rfl,by simpa using g⟩⟩
 |false=>
  rw[ha,f];simp only[Bool.false_eq_true,if_false]
  have m:d.size=1:=by
   cases d with
   |p x=>cases x <;> first|rfl|(simp[Dv.isAgg,Pl.isAgg]at f)
   |agg _=>simp[Dv.isAgg]at f
   |arr _ _ _=>simp[Dv.isAgg]at f
   |_=>rfl
  rw[m]at h
  obtain⟨v,rfl⟩:∃v,us=[v]:=by
   match us,h with
   |[v],_=>exact⟨v,rfl⟩
  have:=hc 0 v rfl;simp only[ych]at this;rw[run_load,this];exact⟨v,rfl,(Zj f).2 g⟩
mutual
theorem kX{f:Nat->yO Nat}:∀(d d':Dv),d.rn f=ab d'->d'.size=d.size/\d'.isAgg=d.isAgg
 |.p x,d',h=>by simp only[Dv.rn,yo]at h;subst h;exact⟨rfl,rfl⟩
 |.elem x,d',h=>by simp only[Dv.rn,yo]at h;subst h;exact⟨rfl,rfl⟩
 |.aj id off m,d',h=>by simp only[Dv.rn,yv]at h;obtain⟨i,_,rfl⟩:=h;exact⟨rfl,rfl⟩
 |.own id A s l,d',h=>by simp only[Dv.rn,yv]at h;obtain⟨i,_,rfl⟩:=h;exact⟨rfl,rfl⟩
 |.view id off m s lo n,d',h=>by simp only[Dv.rn,yv]at h;obtain⟨i,_,rfl⟩:=h;exact⟨rfl,rfl⟩
 |.agg l,d',h=>by
  simp only[Dv.rn,yv]at h;obtain⟨j,y,rfl⟩:=h
  exact⟨by simp only[Dv.size];exact fL l j y,rfl⟩
 |.arr n s l,d',h=>by simp only[Dv.rn,yv]at h;obtain⟨j,_,rfl⟩:=h;exact⟨rfl,rfl⟩
 |.fn g z,d',h=>by simp only[Dv.rn,yv]at h;obtain⟨j,_,rfl⟩:=h;exact⟨rfl,rfl⟩
 |.iface t x,d',h=>by simp only[Dv.rn,yv]at h;obtain⟨j,_,rfl⟩:=h;exact⟨rfl,rfl⟩
 |.bm l,d',h=>by simp only[Dv.rn,yv]at h;obtain⟨j,_,rfl⟩:=h;exact⟨rfl,rfl⟩
 |.mp id,d',h=>by simp only[Dv.rn,yv]at h;obtain⟨j,_,rfl⟩:=h;exact⟨rfl,rfl⟩
 |.rv id _ _ _ _,d',h=>by simp only[Dv.rn,yv]at h;obtain⟨j,_,rfl⟩:=h;exact⟨rfl,rfl⟩
 |.ba id _ _ _,d',h=>by simp only[Dv.rn,yv]at h;obtain⟨j,_,rfl⟩:=h;exact⟨rfl,rfl⟩
 |.ak,d',h=>by simp only[Dv.rn,yo]at h;subst h;exact⟨rfl,rfl⟩
theorem fL{f:Nat->yO Nat}:∀(j g:yL Dv),Dv.bB f j=ab g->Dv.sizes g=Dv.sizes j
 |[],g,h=>by simp only[Dv.bB,yo]at h;subst h;rfl
 |x::r,g,h=>by
  simp only[Dv.bB]at h;split at h
  .rename_i y l m z;cases h;simp only[Dv.sizes];rw[(kX x y m).1,fL r l z]
  .cases h
end
theorem BB{f:Nat->yO Nat}:∀{j g:yL Dv},Dv.bB f j=ab g->g.length=j.length
 |[],g,h=>by simp only[Dv.bB,yo]at h;subst h;rfl
 |x::r,g,h=>by
  simp only[Dv.bB]at h;split at h
  .rename_i y m z l;cases h;simp[BB l]
  .cases h
theorem SB{f:Nat->yO Nat}{s:Nat}:∀{l g:yL Dv},Dv.bB f l=ab g->(∀x,x∈l->x.size=s)->∀x,x∈g->x.size=s
 |[],g,h,_=>by simp only[Dv.bB,yo]at h;subst h;intro x A;cases A
 |x::r,g,h,m=>by
  simp only[Dv.bB]at h;split at h
  .rename_i y G B E;cases h;intro z j
   cases j with
   |head=>rw[(kX x y B).1];exact m x (yay ..)
   |tail _ j=>exact SB E (λw F=>m w (yaz _ F)) z j
  .cases h
structure Rn(f:Nat->Option Nat)(J J':Sg):Prop where
 w:J'.w=J.w
 bh:∀(b o:Nat)(v:yh),J.w.cell? ⟨b,o,ad⟩=ab v->J.bh b o->J'.bh b o
 m:∀(id id':Nat),f id=ab id'->∀(a:Option Nat),J.m[id]? =ab a->J'.m[id']? =ab a
 H:∀(id id':Nat),f id=ab id'->∀(e:aq),J.H[id]? =ab e->∃e',J'.H[id']? =ab e'/\e.rn f=ab e'
theorem Rn.cells{f:Nat->yO Nat}{J J':Sg}(h:Rn f J J'):∀(b o:Nat)(v:yh),J.w.cell? ⟨b,o,ad⟩=ab v->J.bh b o->J'.w.cell? ⟨b,o,ad⟩=ab v/\J'.bh b o:=
 λb o v g j=>⟨by rw[h.w];exact g,h.bh b o v g j⟩
theorem Rn.var{f:Nat->yO Nat}{J J':Sg}(h:Rn f J J'){id g:Nat}(l:f id=ab g)(hv:∃d st,J.H[id]? =ab (.var d st)):∃d st,J'.H[g]? =ab (.var d st):=by
 obtain⟨d,st,hv⟩:=hv;obtain⟨z,m,j⟩:=h.H id g l _ hv;simp only[aq.rn,yv]at j;obtain⟨y,_,rfl⟩:=j;exact⟨y,st,m⟩
theorem Rn.map{f:Nat->yO Nat}{J J':Sg}(h:Rn f J J'){id g:Nat}(l:f id=ab g)(hv:∃t bU,J.H[id]? =ab (.map t bU)):∃t bU,J'.H[g]? =ab (.map t bU):=by
 obtain⟨d,st,hv⟩:=hv;obtain⟨y,m,j⟩:=h.H id g l _ hv;simp only[aq.rn,yo]at j;subst j;exact⟨d,st,m⟩
theorem Rn.front{f:Nat->yO Nat}{J J':Sg}(h:Rn f J J'){id g s len c:Nat}{A:yO Addr}(j:f id=ab g)(hv:dc J id s len A c):dc J' g s len A c:=by
 obtain⟨e,E,F,G,I⟩:=hv;obtain⟨T,M,B⟩:=h.H id g j _ F;simp only[aq.rn,yo]at B;subst B;refine⟨e,E,M,G,λQ=> ?_⟩;rcases I Q with⟨l,y⟩|⟨b,z,l,y,R,S⟩
 .exact .inl ⟨h.m _ _ j _ l,y⟩
 .exact .inr ⟨b,z,h.m _ _ j _ l,y,by rw[h.w];exact R,S⟩
theorem Rn.row{f:Nat->yO Nat}{J J':Sg}(h:Rn f J J'){id g v s:Nat}{st:Bool}{e:yc}{d:Dv}(l:f id=ab g)(hv:J.H[id]? =ab (.row v s st e d)):∃d',J'.H[g]? =ab (.row v s st e d'):=by
 obtain⟨y,m,j⟩:=h.H id g l _ hv;simp only[aq.rn,yv]at j;obtain⟨d',_,rfl⟩:=j;exact⟨d',m⟩
theorem Rn.rowAt{f:Nat->yO Nat}{J J':Sg}(h:Rn f J J'){id g v s lo c:Nat}{A:yO Addr}(j:f id=ab g)(hv:rowAt J id v s lo A c):rowAt J' g v s lo A c:=by
 obtain⟨B,E,st,e,d,F,G,I⟩:=hv;obtain⟨M,Q⟩:=h.row j F;refine⟨B,E,st,e,M,Q,G,λhv=> ?_⟩;obtain⟨R,S⟩:=I hv;refine⟨R, ?_⟩;rcases S with⟨l,y⟩|⟨b,z,l,y,T⟩
 .exact .inl ⟨h.m _ _ j _ l,y⟩
 .exact .inr ⟨b,z,h.m _ _ j _ l,by rw[h.w];exact y,T⟩
theorem Rn.rowIs{f:Nat->yO Nat}{J J':Sg}(h:Rn f J J'){id g v b o off:Nat}(j:f id=ab g)(hv:rowIs J id v b o off):rowIs J' g v b o off:=by
 obtain⟨y,z,st,e,d,A,B,l⟩:=hv;obtain⟨E,F⟩:=h.row j A;exact⟨y,z,st,e,E,F,B,λhv=>⟨h.m _ _ j _ (l hv).1,(l hv).2⟩⟩
mutual
theorem kY{f:Nat->yO Nat}{J J':Sg}(h:Rn f J J'):∀(d d':Dv)(vs:yL yh),d.rn f=ab d'->yH J d vs->yH J' d' vs
 |.p x,d',vs,l,j=>by
  simp only[Dv.rn,yo]at l;subst l;simp only[yH]at j ⊢
  exact lW h.cells x vs j
 |.elem x,d',vs,l,j=>by
  simp only[Dv.rn,yo]at l;subst l;simp only[yH]at j ⊢;obtain⟨b,o,M,B,E,F⟩:=j
  exact⟨b,o,M,B,lW h.cells x M E,F.mono h.cells⟩
 |.aj id off yQ,d',vs,l,j=>by
  simp only[Dv.rn,yv]at l;obtain⟨i,z,rfl⟩:=l;simp only[yH]at j ⊢;obtain⟨b,B,E,F⟩:=j
  exact⟨b,h.m _ _ z _ B,h.var z E,F⟩
 |.own id nn s G,d',vs,l,j=>by
  simp only[Dv.rn,yv]at l;obtain⟨i,z,rfl⟩:=l;simp only[yH]at j ⊢;obtain⟨B,A,c,E,F,R,S,T,h7,h8⟩:=j;refine⟨B,A,c,E,F,R,S,T,λU=> ?_,h.front z h8⟩;obtain⟨b,o,M,W,X,e3⟩:=h7 U
  exact⟨b,o,M,W,aD h.cells G M X,e3.mono h.cells⟩
 |.view id off yQ s lo n,d',vs,l,j=>by
  simp only[Dv.rn,yv]at l;obtain⟨i,z,rfl⟩:=l;simp only[yH]at j ⊢;obtain⟨b,c,a,B,E,F⟩:=j
  exact⟨b,c,a,h.m _ _ z _ B,h.var z E,F⟩
 |.agg G,d',vs,l,j=>by
  simp only[Dv.rn,yv]at l;obtain⟨I,z,rfl⟩:=l;simp only[yH]at j ⊢
  exact fc h G I vs z j
 |.arr n s G,d',vs,l,j=>by
  simp only[Dv.rn,yv]at l;obtain⟨I,z,rfl⟩:=l;simp only[yH]at j ⊢
  exact⟨by rw[BB z];exact j.1,SB z j.2.1,fc h G I vs z j.2.2⟩
 |.fn g Y,d',vs,l,j=>by
  simp only[Dv.rn,yv]at l;obtain⟨I,z,rfl⟩:=l;simp only[yH]at j ⊢;obtain⟨fs,Q,B,h0,E⟩:=j
  exact⟨fs,Q,B,h0,dA h Y I _ z E⟩
 |.iface t x,d',vs,l,j=>by
  simp only[Dv.rn,yv]at l;obtain⟨y,z,rfl⟩:=l;simp only[yH]at j ⊢;obtain⟨v,B,E,F⟩:=j;refine⟨v,B,λZ=> ?_,λZ=>kY h x y _ z (F (by rw[<-(kX x y z).2];exact Z))⟩;obtain⟨Q,W,X⟩:=E (by rw[<-(kX x y z).2];exact Z)
  exact⟨Q,W,kY h x y _ z X⟩
 |.bm G,d',vs,l,j=>by
  simp only[Dv.rn,yv]at l;obtain⟨I,z,rfl⟩:=l;simp only[yH]at j ⊢;obtain⟨Q,B,E⟩:=j
  exact⟨Q,B,dA h G I _ z E⟩
 |.mp id,d',vs,l,j=>by
  simp only[Dv.rn,yv]at l;obtain⟨i,z,rfl⟩:=l;simp only[yH]at j ⊢;obtain⟨b,B,E,F⟩:=j
  exact⟨b,h.m _ _ z _ B,h.map z E,F⟩
 |.rv id v s lo n,d',vs,l,j=>by
  simp only[Dv.rn,yv]at l;obtain⟨i,z,rfl⟩:=l;simp only[yH]at j ⊢;obtain⟨A,c,B,E,F,R,S,T⟩:=j
  exact⟨A,c,B,E,F,R,S,h.rowAt z T⟩
 |.ba id v off yQ,d',vs,l,j=>by
  simp only[Dv.rn,yv]at l;obtain⟨i,z,rfl⟩:=l;simp only[yH]at j ⊢;obtain⟨b,o,B,E⟩:=j
  exact⟨b,o,B,h.rowIs z E⟩
 |.ak,d',vs,l,j=>by
  simp only[Dv.rn,yo]at l;subst l;simpa[yH] using j
theorem fc{f:Nat->yO Nat}{J J':Sg}(h:Rn f J J'):∀(z g:yL Dv)(vs:yL yh),Dv.bB f z=ab g->aM J z vs->aM J' g vs
 |[],g,vs,j,m=>by
  simp only[Dv.bB,yo]at j;subst j
  simpa[aM] using m
 |x::B,g,vs,j,m=>by
  simp only[Dv.bB]at j;split at j
  .rename_i y E F G;cases j;simp only[aM]at m ⊢;obtain⟨A,l,I,M,Q⟩:=m;exact⟨A,l,I,kY h x y A F M,fc h B E l G Q⟩
  .cases j
theorem dA{f:Nat->yO Nat}{J J':Sg}(h:Rn f J J'):∀(B g:yL Dv)(vs:yL yh),Dv.bB f B=ab g->aH J B vs->aH J' g vs
 |[],g,vs,j,m=>by
  simp only[Dv.bB,yo]at j;subst j
  simpa[aH] using m
 |x::E,g,vs,j,m=>by
  simp only[Dv.bB]at j;split at j
  .rename_i y F z G;cases j;simp only[aH]at m ⊢;obtain⟨v,l,I,⟨M,Q⟩,R⟩:=m;refine⟨v,l,I,⟨λA=> ?_,λA=>kY h x y _ z (Q (by rw[<-(kX x y z).2];exact A))⟩,dA h E F l G R⟩;obtain⟨S,T,U⟩:=M (by rw[<-(kX x y z).2];exact A);exact⟨S,T,kY h x y _ z U⟩
  .cases j
end
theorem kZ{f:Nat->yO Nat}{J J':Sg}(h:Rn f J J'){d d':Dv}{v:yh}(hd:d.rn f=ab d')(j:yJ J d v):yJ J' d' v:=by
 obtain⟨l,m⟩:=j;refine⟨λg=> ?_,λg=>kY h d d' _ hd (m (by rw[<-(kX d d' hd).2];exact g))⟩;obtain⟨y,z,A⟩:=l (by rw[<-(kX d d' hd).2];exact g);exact⟨y,z,kY h d d' _ hd A⟩
theorem VE{w:yy}{b o:Nat}{v:yh}(h:w.cell? ⟨b,o,ad⟩=ab v):b < w.heap.size:=World.block_lt_of_cell? w ⟨b,o,ad⟩ h
theorem SC{J J':Sg}(h:cl J J'):∀(l:yL (Pl×Pl))(es:yL MapEntry),io J l es->io J' l es
 |[],[],_=>trivial
 |[],_::_,k=>k.elim
 |_::_,[],k=>k.elim
 |q::r,e::es,k=>⟨Qa h k.1,Qa h k.2.1,SC h r es k.2.2⟩
theorem SD{J J':Sg}(h:cl J J'){l:yL (Pl×Pl)}{es:yL MapEntry}(k:kf J l es):kf J' l es:=by
 obtain⟨f,p,g,k⟩:=k;exact⟨f,p,g,SC h _ _ k⟩
theorem nA{J J':Sg}(h:cl J J'){a:yO Nat}{e:aq}(hb:∀b,a=ab b->J'.w.heap[b]? =J.w.heap[b]?)(he:dw J a e):dw J' a e:=by
 cases e with
 |var d st=>
  obtain⟨b,B,t,rfl,f,g,j⟩:=he
  exact⟨b,B,t,rfl,(hb b rfl).trans f,Yb h d _ g,j⟩
 |log s e E=>
  rcases he with⟨rfl,f⟩|⟨b,l,m,rfl,f,g,j,z,A,F⟩
  .exact .inl ⟨rfl,f⟩
  .exact .inr ⟨b,l,m,rfl,(hb b rfl).trans f,g,j,z,A,aD h.cells E _ F⟩
 |map t bU=>
  obtain⟨b,G,y,rfl,f,g,j⟩:=he
  exact⟨b,G,y,rfl,(hb b rfl).trans f,SD h g,j⟩
 |row v s st e d=>
  obtain⟨N,I,f⟩:=he;refine⟨N,I, ?_⟩;rcases f with f|⟨b,l,m,rfl,f,g,j,z,A⟩
  .exact .inl f
  .exact .inr ⟨b,l,m,rfl,(hb b rfl).trans f,g,j,z,Yb h d _ A⟩
 |gone=>exact he
theorem nB{J:Sg}(ok:Ok J){w':yy}(y:J.w.grownBy w' ad):To J { J with w:=w'}/\Ok { J with w:=w'}:=by
 have j:∀b,b < J.w.heap.size->w'.heap[b]? =J.w.heap[b]? :=λb j=>y.block b j (by simp);have E:∀(id b:Nat),J.m[id]? =ab (ab b)->w'.heap[b]? =J.w.heap[b]? :=λid b h=>j b (ok.lt id b h)
 have l:cl J { J with w:=w'}:=by
  refine⟨λb o v f g=>⟨?_,g⟩,λid b f g=>⟨f,g⟩,λid s len A c f=> ?_,λid b f g=>⟨f,g⟩,λid v s st e d h=>⟨v,st,d,h,ym _,λ_=>⟨rfl,λb z j F=>⟨z,(E id b j).trans F,rfl⟩⟩⟩⟩
  .show w'.cell? ⟨b,o,ad⟩=ab v;rw[World.cell?_of_block (w:=J.w) (j b (VE f))];exact f
  .obtain⟨e,G,g,I,M⟩:=f;refine⟨e,G,g,I,λQ=> ?_⟩;rcases M Q with B|⟨b,z,B,R,S,T⟩
   .exact .inl B
   .exact .inr ⟨b,z,B,R,(E id b B).trans S,T⟩
 refine⟨⟨l,rfl,rfl,y.os,y.tape,y.output,y.size,λb f _=>j b f,λid b h=>.inl h,ym _⟩,⟨ok.len,ok.inj,λi b h=>Nat.lt_of_lt_of_le (ok.lt i b h) y.size,λi e a f g=> ?_,λb h=>ok.new b (ybr y.size h),ok.own⟩⟩;exact nA l (λb j=>E i b (by rw[g,j])) (ok.dx i e a f g)
theorem SE{J:Sg}(ok:Ok J){b o:Nat}(h:J.B b)(f:∀(id:Nat),J.m[id]? ≠ab (ab b)):J.bh b o:=
 ⟨.inr h,λid _ g _=>absurd g (f id)⟩
def YZ(P:yg)(o:yj)(a:Act)(J:Sg)(d:Dv)(H':yL aq):Prop:=
 ∀(K:Act->yy->Prop)(Q:Exit->Act->yy->Prop),(∀v J',J'.H=H'->To J J'->Ok J'->yJ J' d v->K (a.put o.dst v) J'.w)->o.wp P a J.w K Q
theorem Zk{P:yg}{o:yj}{a:Act}{J:Sg}{d:Dv}{v:yh}(ok:Ok J)(f:(execOp a.eval o).run P J.w=.ok (.value v) J.w)(hd:yJ J d v):YZ P o a J d J.H:=by
 intro K Q h;unfold Oper.wp;rw[f];exact h v J rfl (To.refl J) ok hd
theorem ZS{P:yg}{o:yj}{a:Act}{J J':Sg}{d:Dv}{v:yh}(f:(execOp a.eval o).run P J.w=.ok (.value v) J'.w)(to:To J J')(ok:Ok J')(hd:yJ J' d v):YZ P o a J d J'.H:=by
 intro K Q h;unfold Oper.wp;rw[f];exact h v J' rfl to ok hd
structure bF(x y:Pl):Prop where
 size:x.size=y.size
 agg:x.isAgg=y.isAgg
 df:∀(w:yy)(S:Nat->Nat->Prop)(vs:List yh),aA w S x vs->aA w S y vs
structure aY(xs ys:List Pl):Prop where
 len:xs.length=ys.length
 sizes:Pl.sizes xs=Pl.sizes ys
 all:∀s,bc s xs->bc s ys
 df:∀(w:yy)(S:Nat->Nat->Prop)(vs:List yh),au w S xs vs->au w S ys vs
theorem bF.refl(x:Pl):bF x x:=⟨rfl,rfl,λ_ _ _ h=>h⟩
theorem aY.refl(x:yL Pl):aY x x:=⟨rfl,rfl,λ_ h=>h,λ_ _ _ h=>h⟩
theorem aY.of_eq{x y:yL Pl}(h:x=y):aY x y:=h ▸ aY.refl x
theorem aY.nil:aY [] []:=aY.refl []
theorem aY.cons{x y:Pl}{xs ys:yL Pl}(h:bF x y)(k:aY xs ys):aY (x::xs) (y::ys) where
 len:=by simp[k.len]
 sizes:=by simp only[Pl.sizes];rw[h.size,k.sizes]
 all s ha:=by
  intro z hz;rcases List.mem_cons.1 hz with rfl|hz
  .rw[<-h.size];exact ha x (yay ..)
  .exact k.all s (λz hz=>ha z (yaz _ hz)) z hz
 df w S vs hr:=by
  simp only[au]at hr ⊢;obtain⟨us,us',e,h1,h2⟩:=hr;exact⟨us,us',e,h.df w S us h1,k.df w S us' h2⟩
theorem aY.map{α:Type}{f g:α->Pl}(h:∀x,bF (f x) (g x)):∀(l:yL α),aY (l.map f) (l.map g)
 |[]=>aY.nil
 |x::l=>aY.cons (h x) (aY.map h l)
theorem bF.jy{xs ys:yL Pl}(h:aY xs ys):bF (.agg xs) (.agg ys):=⟨h.sizes,rfl,λw S vs f=>by simp only[aA]at f ⊢;exact h.df w S vs f⟩
theorem bF.jz{n s:Nat}{xs ys:yL Pl}(h:aY xs ys):bF (.arr n s xs) (.arr n s ys):=
 ⟨rfl,rfl,λw S vs f=>by simp only[aA]at f ⊢;exact⟨by rw[<-h.len];exact f.1,h.all s f.2.1,h.df w S vs f.2.2⟩⟩
theorem bF.qN{nn:yO Bool}{s:Nat}{xs ys:yL Pl}(h:aY xs ys):bF (.sl nn s xs) (.sl nn s ys):=⟨rfl,rfl,λw S vs g=>by
 simp only[aA]at g ⊢;obtain⟨j,A,c,rfl,l,m,y,z,B⟩:=g;refine⟨h.all s j,A,c,by rw[h.len],by rw[<-h.len];exact l,m,y,z,λf=> ?_⟩;obtain⟨b,o,E,e,r,k⟩:=B (by intro e;subst e;exact f (ybh h.len.symm));exact⟨b,o,E,e,h.df _ _ _ r,k⟩⟩
theorem bF.jA{t:yc}{x y:Pl}(h:bF x y):bF (.iface t x) (.iface t y):=⟨rfl,rfl,λw S vs g=>by
 simp only[aA]at g ⊢;obtain⟨v,e,j,l⟩:=g;refine⟨v,e,λf=> ?_,λf=>h.df _ _ _ (l (by rw[h.agg];exact f))⟩;obtain⟨m,z,A⟩:=j (by rw[h.agg];exact f);exact⟨m,z,h.df _ _ _ A⟩⟩
theorem bF.gq{nn:yO Bool}{s:Nat}{xs ys:yL Pl}(h:aY xs ys):bF (.sl nn s xs) (.sl ad s ys):=⟨rfl,rfl,λw S vs g=>by
 simp only[aA]at g ⊢;obtain⟨j,A,c,rfl,l,m,E,y,z⟩:=g;refine⟨h.all s j,A,c,by rw[h.len],by rw[<-h.len];exact l,m,Yk _,y,λf=> ?_⟩;obtain⟨b,o,B,e,r,k⟩:=z (by intro e;subst e;exact f (ybh h.len.symm));exact⟨b,o,B,e,h.df _ _ _ r,k⟩⟩
structure Wk(d e:Dv):Prop where
 size:d.size=e.size
 agg:d.isAgg=e.isAgg
 df:∀(J:Sg)(vs:List yh),yH J d vs->yH J e vs
theorem Wk.refl(d:Dv):Wk d d:=⟨rfl,rfl,λ_ _ h=>h⟩
theorem Wk.of_eq{x y:Dv}(h:x=y):Wk x y:=h ▸ Wk.refl x
theorem Wk.p{x y:Pl}(h:bF x y):Wk (.p x) (.p y):=⟨h.size,h.agg,λJ vs r=>by simp only[yH]at r ⊢;exact h.df _ _ _ r⟩
theorem BC{J:Sg}{id s:Nat}{nn g:yO Bool}{xs ys:yL Pl}{vs:yL yh}(h:aY xs ys)(j:∀A,iY nn A->iY g A)(r:yH J (.own id nn s xs) vs):yH J (.own id g s ys) vs:=by
 simp only[yH]at r ⊢;obtain⟨l,A,c,m,y,z,B,E,F,G⟩:=r;refine⟨h.all s l,A,c,by rw[<-h.len];exact m,by rw[<-h.len];exact y,z,j A B,E,λf=> ?_,by rw[<-h.len];exact G⟩;obtain⟨b,o,I,e,r,k⟩:=F (by intro e;subst e;exact f (ybh h.len.symm));exact⟨b,o,I,e,h.df _ _ _ r,k⟩
theorem Wk.own{id s:Nat}{nn:yO Bool}{xs ys:yL Pl}(e:xs=ys):Wk (.own id nn s xs) (.own id ad s ys):=
 ⟨rfl,rfl,λJ vs r=>BC (aY.of_eq e) (λ_ _=>Yk _) r⟩
theorem Wk.fT{id s:Nat}{nn:yO Bool}{xs ys:yL Pl}(e:aY xs ys):Wk (.own id nn s xs) (.own id ad s ys):=
 ⟨rfl,rfl,λJ vs r=>BC e (λ_ _=>Yk _) r⟩
theorem Wk.nC{id s:Nat}{nn:yO Bool}{xs ys:yL Pl}(e:aY xs ys):Wk (.own id nn s xs) (.own id nn s ys):=
 ⟨rfl,rfl,λJ vs r=>BC e (λ_ h=>h) r⟩
theorem Wk.nD{id s:Nat}{nn:yO Bool}{xs ys:yL Pl}(h:aY xs ys):Wk (.own id nn s xs) (.p (.sl ad s ys)):=by
 refine⟨rfl,rfl,λJ vs r=> ?_⟩;simp only[yH]at r ⊢;obtain⟨f,A,c,g,j,l,m,y,z,B⟩:=r;exact(bF.gq (nn:=nn) h).df _ _ _ (by simp only[aA];exact⟨f,A,c,g,j,l,m,y,z⟩)
theorem Wk.ak{d:Dv}(h:d.isAgg=af)(hs:d.size=1):Wk d .ak:=⟨hs,h,λJ vs r=>by simp only[yH];rw[X2 _ _ r,hs]⟩
theorem Wk.dv{d e:Dv}(h:Wk d e){J:Sg}{v:yh}(r:yJ J d v):yJ J e v:=by
 obtain⟨g,j⟩:=r;refine⟨λf=> ?_,λf=>h.df _ _ (j (by rw[h.agg];exact f))⟩;obtain⟨l,m,y⟩:=g (by rw[h.agg];exact f);exact⟨l,m,h.df _ _ y⟩
inductive cQ:List Dv->List Dv->Prop where
 |nil:cQ [] []
 |cons {d e:Dv} {ds es:List Dv} (h:Wk d e) (k:cQ ds es):cQ (d::ds) (e::es)
theorem cQ.refl:∀(l:yL Dv),cQ l l
 |[]=>.nil
 |d::l=>.cons (Wk.refl d) (cQ.refl l)
theorem cQ.bm{g es:yL Dv}(h:cQ g es):Wk (.bm g) (.bm es):=by
 refine⟨rfl,rfl,λJ vs r=> ?_⟩;simp only[yH]at r ⊢;obtain⟨j,e,r⟩:=r;refine⟨j,e, ?_⟩;clear e;generalize j.toList=l at r
 induction h generalizing l with
 |nil=>exact r
 |cons h k m=>
  simp only[aH]at r ⊢;obtain⟨v,f,y,z,A⟩:=r;exact⟨v,f,y,h.dv z,m _ A⟩
theorem cQ.vs{g es:yL Dv}(h:cQ g es){J:Sg}:∀{l:yL yh},aH J g l->aH J es l:=by
 induction h with
 |nil=>intro l r;exact r
 |cons h k j=>
  intro l r;simp only[aH]at r ⊢;obtain⟨v,f,m,y,z⟩:=r;exact⟨v,f,m,h.dv y,j z⟩
theorem cQ.len{f es:yL Dv}(h:cQ f es):f.length=es.length:=by
 induction h with
 |nil=>rfl
 |cons _ _ g=>simp[g]
theorem cQ.get{g es:yL Dv}(h:cQ g es):∀{i:Nat}{e:Dv},es[i]? =ab e->∃d,g[i]? =ab d/\Wk d e:=by
 induction h with
 |nil=>intro i e h;simp at h
 |cons h k l=>
  intro i e f
  cases i with
  |zero=>simp only[yav,yo]at f ⊢;subst f;exact⟨_,rfl,h⟩
  |succ j=>simp only[yaq]at f ⊢;exact l f
theorem cQ.qO{f es:yL Dv}(h:cQ f es){J:Sg}{a:Act}(r:aB J f a):aB J es a:=by
 refine⟨by rw[<-h.len];exact r.size,λi e g=> ?_,r.defers⟩;obtain⟨d,j,l⟩:=h.get g;exact l.dv (r.at_ i d j)
theorem cQ.agg{f es:yL Dv}(h:cQ f es):Wk (.agg f) (.agg es):=by
 have hs:Dv.sizes f=Dv.sizes es:=by
  induction h with
  |nil=>rfl
  |cons h k g=>simp only[Dv.sizes];rw[h.size,g]
 refine⟨hs,rfl,λJ vs r=> ?_⟩;simp only[yH]at r ⊢;clear hs
 induction h generalizing vs with
 |nil=>exact r
 |cons h k g=>
  simp only[aM]at r ⊢;obtain⟨l,j,e,m,y⟩:=r;exact⟨l,j,e,h.df _ _ m,g _ y⟩
inductive dZ:List (Pl×Pl)->List (Pl×Pl)->Prop where
 |nil:dZ [] []
 |cons {k v v':Pl} {l m:List (Pl×Pl)} (h:bF v v') (r:dZ l m):dZ ((k,v)::l) ((k,v')::m)
theorem dZ.df{J:Sg}{l m:yL (Pl×Pl)}(h:dZ l m):∀(es:yL MapEntry),io J l es->io J m es:=by
 induction h with
 |nil=>intro es h;exact h
 |cons h r f=>
  intro es k
  cases es with
  |nil=>exact k
  |cons e es=>exact⟨k.1,(Wk.p h).dv k.2.1,f es k.2.2⟩
theorem dZ.keys{l m:yL (Pl×Pl)}(h:dZ l m):m.map (·.1)=l.map (·.1):=by
 induction h with
 |nil=>rfl
 |cons h r f=>rw[yag,yag,f]
theorem dZ.perm{l j:yL (Pl×Pl)}(p:l.Perm j):∀{m:yL (Pl×Pl)},dZ l m->∃m',m.Perm m'/\dZ j m':=by
 induction p with
 |nil=>intro m h;exact⟨m,.refl _,h⟩
 |cons x p z=>
  intro m h
  cases h with
  |cons h r=>
   obtain⟨m',A,B⟩:=z r
   exact⟨_,A.cons _,.cons h B⟩
 |swap x y l=>
  intro m h
  cases h with
  |cons h r=>
   cases r with
   |cons E r=>exact⟨_,.swap _ _ _,.cons E (.cons h r)⟩
 |trans p q f g=>
  intro m h;obtain⟨R,F,G⟩:=f h;obtain⟨I,M,Q⟩:=g G;exact⟨I,F.trans M,Q⟩
theorem dZ.any{J:Sg}{l m:yL (Pl×Pl)}(h:dZ l m){es:yL MapEntry}(k:kf J l es):kf J m es:=by
 obtain⟨z,p,f,r⟩:=k;obtain⟨g,j,y⟩:=dZ.perm p.symm h;exact⟨g,j.symm,by rw[h.keys];exact f,y.df _ r⟩
inductive eB:aq->aq->Prop where
 |refl (e:aq):eB e e
 |var {d d':Dv} {st:Bool} (h:Wk d d'):eB (.var d st) (.var d' st)
 |log {s:Nat} {e:yc} {xs ys:List Pl} (h:aY xs ys):eB (.log s e xs) (.log s e ys)
 |map {t:yc} {l m:List (Pl×Pl)} (h:dZ l m):eB (.map t l) (.map t m)
 |perm {t:yc} {l m:List (Pl×Pl)} (h:l.Perm m):eB (.map t l) (.map t m)
 |row {v s:Nat} {st:Bool} {e:yc} {d d':Dv} (h:Wk d d'/\aS d s=aS d' s):eB (.row v s st e d) (.row v s st e d')
 |lock {v s:Nat} {st:Bool} {e:yc} {d:Dv}:eB (.row v s st e d) (.row v s af e d)
 |dX {d:Dv} {st:Bool}:eB (.var d st) (.var d af)
 |la {d d':Dv} {st:Bool} (h:Wk d d'):eB (.var d st) (.var d' af)
 |shr {v s n N:Nat} {e:yc} {xs:List Pl} (h:n<=N):eB (.row v s ae e (.p (.arr N s xs))) (.row v s ae e (.p (.arr n s (xs.take n))))
inductive ca:List aq->List aq->Prop where
 |nil:ca [] []
 |cons {e f:aq} {es fs:List aq} (h:eB e f) (k:ca es fs):ca (e::es) (f::fs)
theorem ca.refl:∀(l:yL aq),ca l l
 |[]=>.nil
 |d::l=>.cons (.refl d) (ca.refl l)
theorem ca.of_eq{x y:yL aq}(h:x=y):ca x y:=h ▸ ca.refl x
theorem ca.len{f es:yL aq}(h:ca f es):f.length=es.length:=by
 induction h with
 |nil=>rfl
 |cons _ _ g=>simp[g]
theorem ca.get{g es:yL aq}(h:ca g es):∀{i:Nat}{d:aq},g[i]? =ab d->∃e,es[i]? =ab e/\eB d e:=by
 induction h with
 |nil=>intro i e h;simp at h
 |cons h k l=>
  intro i e f
  cases i with
  |zero=>simp only[yav,yo]at f ⊢;subst f;exact⟨_,rfl,h⟩
  |succ j=>simp only[yaq]at f ⊢;exact l f
theorem ca.back{g es:yL aq}(h:ca g es):∀{i:Nat}{e:aq},es[i]? =ab e->∃d,g[i]? =ab d/\eB d e:=by
 induction h with
 |nil=>intro i e h;simp at h
 |cons h k l=>
  intro i e f
  cases i with
  |zero=>simp only[yav,yo]at f ⊢;subst f;exact⟨_,rfl,h⟩
  |succ j=>simp only[yaq]at f ⊢;exact l f
theorem eB.bw{e f:aq}(h:eB e f)(o:Nat)(k:e.bw o):f.bw o:=by
 cases h with
 |log h=>simpa only[aq.bw,h.len] using k
 |lock=>exact⟨rfl,k.2⟩
 |row h=>exact⟨k.1,by rw[<-h.2];exact k.2⟩
 |shr _=>exact absurd k.1 (by simp)
 |dX=>rfl
 |la _=>rfl
 |_=>exact k
theorem SF{w:yy}{S:Nat->Nat->Prop}{s:Nat}:∀{xs:yL Pl}{vs:yL yh},(∀x,x∈xs->x.size=s)->au w S xs vs->∀(n:Nat),n<=xs.length->au w S (xs.take n) (vs.take (n*s))
 |[],vs,_,h,n,f=>by
  have:n=0:=by simpa using f
  subst this;simp only[au]at h;subst h
  simp[au]
 |x::r,vs,hs,h,0,_=>by simp[au]
 |x::r,vs,hs,h,n+1,f=>by
  simp only[au]at h;obtain⟨j,g,rfl,l,m⟩:=h;have z:j.length=s:=by rw[WV _ _ l];exact hs x (yay ..)
  simp only[List.take_succ_cons,au];refine⟨j,g.take (n*s), ?_,l,SF (λy A=>hs y (yaz _ A)) m n (by simpa using f)⟩;rw[List.take_append,z,ybc,Nat.one_mul,ycj (by omega)];congr 2;omega
theorem ca.fd:∀{l:yL aq}{i:Nat}{e f:aq},l[i]? =ab e->eB e f->ca l (l.set i f)
 |[],_,_,_,h,_=>by simp at h
 |x::l,0,e,f,h,k=>by
  simp only[yav,yo]at h;subst h
  exact .cons k (ca.refl l)
 |x::l,i+1,e,f,h,k=>by
  simp only[yaq]at h;exact .cons (.refl x) (ca.fd h k)
theorem lb{J:Sg}(ok:Ok J){H':yL aq}(h:ca J.H H'):To J { J with H:=H'}/\Ok { J with H:=H'}:=by
 have bh:∀b o,J.bh b o->({ J with H:=H'}:Sg).bh b o:=λb o hs=>⟨hs.1,λid e E z=>by
  obtain⟨d,G,l⟩:=h.back z;exact l.bw o (hs.2 id d E G)⟩
 have Q:cl J { J with H:=H'}:=by
  refine⟨λb o v E z=>⟨E,bh b o z⟩,λid b E z=>⟨E, ?_⟩,λid s len A c E=> ?_,λid b E z=>⟨E, ?_⟩,λid v s st e d E=> ?_⟩
  .obtain⟨d,st,z⟩:=z;obtain⟨e,G,l⟩:=h.get z
   cases l with
   |refl=>exact⟨d,st,G⟩
   |var f=>exact⟨_,_,G⟩
   |dX=>exact⟨_,_,G⟩
   |la _=>exact⟨_,_,G⟩
  .obtain⟨e,ys,z,G⟩:=E;obtain⟨Y,l,f⟩:=h.get z
   cases f with
   |refl=>exact⟨e,ys,l,G⟩
   |log T=>exact⟨_,_,l,by rw[<-T.len];exact G⟩
  .obtain⟨t,bU,z⟩:=z;obtain⟨Y,l,f⟩:=h.get z
   cases f with
   |refl=>exact⟨t,bU,l⟩
   |map T=>exact⟨_,_,l⟩
   |perm T=>exact⟨_,_,l⟩
  .obtain⟨Y,l,f⟩:=h.get E
   cases f with
   |refl=>exact⟨v,st,d,l,ym _,λ_=>⟨rfl,λb g _ R=>⟨g,R,rfl⟩⟩⟩
   |row T=>exact⟨v,st,_,l,ym _,λ_=>⟨rfl,λb g _ R=>⟨g,R,rfl⟩⟩⟩
   |shr _=>exact⟨v,ae,_,l,ym _,λ_=>⟨rfl,λb g _ R=>⟨g,R,rfl⟩⟩⟩
   |lock=>exact⟨v,af,_,l,ym _,λ_=>⟨rfl,λb g _ R=>⟨g,R,rfl⟩⟩⟩
 refine⟨⟨Q,rfl,rfl,rfl,rfl,rfl,ym _,λ_ _ _=>rfl,λ_ _ h=>.inl h,ym _⟩,⟨by show J.m.length=H'.length;rw[ok.len,h.len],ok.inj,ok.lt,λi e a E z=> ?_,ok.new,ok.own⟩⟩;obtain⟨d,G,l⟩:=h.back E;have M:=nA Q (λb _=>rfl) (ok.dx i d a G z)
 cases l with
 |refl=>exact M
 |var f=>
  obtain⟨b,W,t,y,j,F,e4⟩:=M
  exact⟨b,W,t,y,j,by rw[<-f.size];exact f.df _ _ F,by rw[<-f.size];exact e4⟩
 |log f=>
  rcases M with⟨y,j⟩|⟨b,g,I,y,j,F,e4,e5,e6,S⟩
  .subst j;exact .inl ⟨y,ybh f.len.symm⟩
  .exact .inr ⟨b,g,I,y,j,F,by rw[<-f.len];exact e4,e5,f.all _ e6,by rw[<-f.len];exact f.df _ _ _ S⟩
 |map f=>
  obtain⟨b,X,B,y,j,F,e4⟩:=M
  exact⟨b,X,B,y,j,f.any F,e4⟩
 |perm f=>
  obtain⟨b,X,B,y,j,⟨l',p,nd,r⟩,e4⟩:=M
  exact⟨b,X,B,y,j,⟨l',p.trans f,(f.map _).nodup_iff.1 nd,r⟩,e4⟩
 |row f=>
  obtain⟨N,y,j⟩:=M;refine⟨N,by rw[<-f.2];exact y, ?_⟩;rcases j with j|⟨b,g,I,F,e4,e5,e6,S,U⟩
  .exact .inl j
  .exact .inr ⟨b,g,I,F,e4,e5,e6,S,f.1.df _ _ U⟩
 |lock=>exact M
 |dX=>exact M
 |la f=>
  obtain⟨b,W,t,y,j,F,e4⟩:=M
  exact⟨b,W,t,y,j,by rw[<-f.size];exact f.df _ _ F,by rw[<-f.size];exact e4⟩
 |shr f=>
  obtain⟨N0,y,j⟩:=M;simp only[aS,yW,yo]at y;subst y;refine⟨_,yW rfl, ?_⟩;rcases j with⟨j,F⟩|⟨b,g,I,F,e4,e5,e6,S,U⟩
  .exact .inl ⟨j,by omega⟩
  .refine .inr ⟨b,g,I,F,e4,e5,by omega,S, ?_⟩;simp only[yH,aA]at U ⊢;obtain⟨q1,Z,q3⟩:=U;refine⟨by rw[yac];omega,λx hx=>Z x (ybw hx), ?_⟩;have:=SF Z q3 _ (show _<=_ from by rw[q1];exact f)
   rw[List.take_take,ybb (ycb _ f)]at this;exact this
theorem Pl.cH:∀(xs:yL Pl),Pl.cN xs=xs.map Pl.soft
 |[]=>rfl
 |x::r=>by rw[Pl.cN,Pl.cH r];rfl
mutual
theorem md:∀(x:Pl),bF x x.soft
 |.int _ _=>bF.refl _
 |.bool _=>bF.refl _
 |.str _=>bF.refl _
 |.cb=>bF.refl _
 |.fn0=>bF.refl _
 |.ew=>bF.refl _
 |.cD=>bF.refl _
 |.gG _=>bF.refl _
 |.agg f=>by rw[Pl.soft];exact bF.jy (cL f)
 |.arr n s f=>by rw[Pl.soft];exact bF.jz (cL f)
 |.sl g s f=>by rw[Pl.soft];exact bF.gq (aY.refl _)
 |.iface t x=>by rw[Pl.soft];exact bF.jA (md x)
theorem cL:∀(xs:yL Pl),aY xs (Pl.cN xs)
 |[]=>aY.nil
 |x::r=>by rw[Pl.cN];exact aY.cons (md x) (cL r)
end
theorem BD(x:Pl):x.soft.size=x.size:=(md x).size.symm
theorem ca.append{a b c d:yL aq}(h:ca a b)(k:ca c d):ca (a++c) (b++d):=by
 induction h with
 |nil=>exact k
 |cons h _ f=>exact .cons h f
theorem ca.bA{e f:aq}:∀(l:yL aq)(i:Nat),eB e f->ca (l.set i e) (l.set i f)
 |[],_,_=>.nil
 |x::l,0,h=>.cons h (ca.refl l)
 |x::l,i+1,h=>.cons (.refl x) (ca.bA l i h)
theorem aY.bA{x y:Pl}(h:bF x y):∀(l:yL Pl)(i:Nat),aY (l.set i x) (l.set i y)
 |[],_=>.nil
 |z::l,0=>.cons h (aY.refl l)
 |z::l,i+1=>.cons (bF.refl z) (aY.bA h l i)
theorem Vg{P:yg}{o:yj}{a:Act}{J:Sg}{d d':Dv}{H1 H2:yL aq}(h:YZ P o a J d H1)(hd:Wk d d')(hH:ca H1 H2):YZ P o a J d' H2:=by
 intro K Q m;refine h K Q λv J1 y f g j=> ?_;obtain⟨to,l⟩:=lb g (H':=H2) (by rw[y];exact hH);exact m v { J1 with H:=H2} rfl (f.trans to) l (hd.dv (Qa to.leaf j))
theorem uQ{J:Sg}:∀{f:yL Dv}{vs:yL yh},aH J f vs->vs.length=f.length
 |[],vs,h=>by simp only[aH]at h;subst h;rfl
 |d::f,vs,h=>by
  simp only[aH]at h;obtain⟨v,g,rfl,_,j⟩:=h;simp[uQ j]
theorem uR{J:Sg}:∀{g:yL Dv}{vs:yL yh}{i:Nat}{d:Dv},aH J g vs->g[i]? =ab d->∃v,vs[i]? =ab v/\yJ J d v
 |[],vs,i,d,_,f=>by simp at f
 |x::g,vs,i,d,h,f=>by
  simp only[aH]at h;obtain⟨v,j,rfl,l,m⟩:=h
  cases i with
  |zero=>
   simp only[yav,yo]at f;subst f
   exact⟨v,rfl,l⟩
  |succ i=>
   simp only[yaq]at f ⊢;exact uR m f
theorem pg{J:Sg}:∀{f es:yL Dv}{vs us:yL yh},aH J f vs->aH J es us->aH J (f++es) (vs++us)
 |[],es,vs,us,h,k=>by simp only[aH]at h;subst h;simpa using k
 |d::f,es,vs,us,h,k=>by
  simp only[aH]at h;obtain⟨v,g,rfl,j,l⟩:=h;simp only[yaf,aH];exact⟨v,g++us,rfl,j,pg l k⟩
theorem BE{J:Sg}{α:Type}(f:α->Dv)(g:α->yh)(h:∀x,yJ J (f x) (g x)):∀(l:yL α),aH J (l.map f) (l.map g)
 |[]=>by simp[aH]
 |x::l=>by
  simp only[yag,aH];exact⟨g x,l.map g,rfl,h x,BE f g h l⟩
theorem uS{w:yy}{S:Nat->Nat->Prop}{s:Nat}{xs:yL Pl}{A:yO Addr}{c l h:Nat}(hs:bc s xs)(Y:xs.length<=c)(B:c<=maxLen)(f:A=ad->c=0)
 (E:xs≠[]->∃b o us,A=ab ⟨b,o,ad⟩/\au w S xs us/\W9 w S b o us) (h1:l<=h) (h2:h<=xs.length):
 bc s ((xs.take h).drop l)/\((xs.take h).drop l).length=h - l/\h - l<=c - l/\c - l<=maxLen/\(if c=l then A else A.map (·.add (l*s))).isSome=A.isSome/\
  ((if c=l then A else A.map (·.add (l*s)))=ad->c - l=0)/\
  ((xs.take h).drop l≠[]->∃b o us,(if c=l then A else A.map (·.add (l*s)))=ab ⟨b,o,ad⟩/\au w S ((xs.take h).drop l) us/\W9 w S b o us):=by
 have z:((xs.take h).drop l).length=h - l:=by rw[List.length_drop,yac,ybb h2]
 refine⟨uM (Qc hs _) _,z,by omega,by omega, ?_, ?_,λg=> ?_⟩
 .split
  .rfl
  .simp
 .split
  .omega
  .intro F;have j:A=ad:=by simpa using F
   have:=f j;omega
 .have G:l < h:=by
   rcases Nat.lt_or_ge l h with h3|h3
   .exact h3
   .exact absurd (ybh (by rw[z];omega)) g
  have m:xs≠[]:=by
   rintro rfl;simp at h2;omega
  obtain⟨b,o,us,rfl,h3,I⟩:=E m;have M:¬c=l:=by omega
  rw[yX M]
  have e:xs=xs.take l++((xs.take h).drop l++xs.drop h):=by
   have Q:(xs.take h).drop l++xs.drop h=xs.drop l:=by
    have:xs.drop l=(xs.take h++xs.drop h).drop l:=by rw[ybg]
    rw[this,List.drop_append_of_le_length (by rw[yac];omega)]
   rw[Q,ybg]
  rw[e]at h3;obtain⟨R,Z,rfl,T,U⟩:=Yd h3;obtain⟨W,u4,rfl,X,h8⟩:=Yd U
  have y:R.length=l*s:=by
   rw[aO _ _ T,aR (Qc hs _),yac,ybb (by omega)]
  refine⟨b,o+l*s,W,by simp[Addr.bI],X, ?_⟩;have:=(W9.append (W9.append I).2).1
  rwa [y]at this
theorem nE{P:yg}{w:yy}(isSlice:Bool)(len cap:Nat)(lo hi:yO yh)(l h:yO Int)(hl:lo=ad/\l=ad\/∃k i,lo=ab (.int k i)/\l=ab i)
 (z:hi=ad/\h=ad\/∃k i,hi=ab (.int k i)/\h=ab i) (hc:aZ (Xd len l h)) (zW:len<=cap):
 ∃a b,(Instr.sliceBounds isSlice len cap lo hi ad).run P w=.ok (a,b,cap) w/\a<=b/\b<=len/\a=(l.getD 0).toNat/\b=(h.getD (len:Int)).toNat:=by
 rcases hl with⟨rfl,rfl⟩|⟨k,i,rfl,rfl⟩ <;> rcases z with⟨rfl,rfl⟩|⟨B,f,rfl,rfl⟩
 .exact⟨0,len,by simp[Instr.sliceBounds],Nat.zero_le _,ym _,rfl,by simp⟩
 .obtain⟨g,m,_⟩:=hc;refine⟨0,f.toNat, ?_,Nat.zero_le _,by omega,rfl,rfl⟩;have j:0<=f/\f<=(cap:Int):=⟨g,by omega⟩;simp[Instr.sliceBounds,Instr.sliceBound,asIntOf,j]
 .obtain⟨g,m,_⟩:=hc;refine⟨i.toNat,len, ?_,by omega,ym _,rfl,by simp⟩;have j:0<=i/\i<=(len:Int):=⟨g,m⟩;simp[Instr.sliceBounds,Instr.sliceBound,asIntOf,j]
 .obtain⟨g,m,E,_⟩:=hc;refine⟨i.toNat,f.toNat, ?_,by omega,by omega,rfl,rfl⟩;have j:0<=f/\f<=(cap:Int):=⟨by omega,by omega⟩;have A:0<=i/\i<=(f.toNat:Int):=⟨g,by omega⟩;have y:i<=max f 0:=by omega
  simp[Instr.sliceBounds,Instr.sliceBound,asIntOf,j,g,y]
theorem uT{α:Type}(xs:yL α)(l h:yO Int)(hc:aZ (Xd xs.length l h)):Qb xs l h=(xs.take ((h.getD (xs.length:Int)).toNat)).drop ((l.getD 0).toNat):=by
 cases l <;> cases h <;> simp[Qb]
theorem YM{P:yg}{J:Sg}{ts:yL Dv}{a:Act}(f:aB J ts a){x:yO yp}{l:yO Int}(h:go P ts x=ab l):
 x.map a.eval=ad/\l=ad\/∃k i,x.map a.eval=ab (.int k i)/\l=ab i:=by
 unfold go at h;split at h
 .cases h;exact .inl ⟨rfl,rfl⟩
 .rename_i y;split at h
  .rename_i k i g;cases h;have:=Zo (P:=P) f 0 y;rw[g]at this;exact .inr ⟨k,i,by simp[ZH this],rfl⟩
  .cases h
end Go.Ev
end
section
namespace Go.Ev
section
variable{P:yg}{o:yj}{a:Act}{J:Sg}{ts:yL Dv}{hs hs':yL ar}{C:yL Prop}{d:Dv}
theorem SG{e:yc}{t:yc}{s:Nat}{xs:yL Pl}{A:yO Addr}{c:Nat}{k:IntKind}{i:Int}{y:Pl}(ok:Ok J)(hu:P.underlying t=ab (.slice e))(he:P.cellsOf e=s)
 (hi:(P.info? e).isSome=ae) (hs:bc s xs) (h:xs≠[]->∃b o us,A=ab ⟨b,o,ad⟩/\au J.w J.bh xs us/\W9 J.w J.bh b o us) (j:0<=i) (g:xs[i.toNat]? =ab y):
 ∃v,(Instr.indexAt t (.slice A xs.length c) (.int k i)).run P J.w=.ok v J.w/\yJ J (.elem y) v:=by
 have l:i.toNat < xs.length:=(yu.1 g).1
 have f:xs≠[]:=by
  grind
 obtain⟨b,o,us,rfl,m,z⟩:=h f;obtain⟨E,F,G⟩:=uO hs m z g;refine⟨.pointer (ab ⟨b,o+i.toNat*s,ad⟩), ?_, ?_⟩
 .have B:0<=i/\i < (xs.length:Int):=⟨j,by omega⟩;simp[Instr.indexAt,asIntOf,run_underlying hu,B,Z3 hi,he,Addr.bI]
 .rw[Zj (by rfl)];simp only[yH];grind
theorem qP{y:Pl}{v:yh}(h:yJ J (.elem y) v):∃b o us,v=.pointer (ab ⟨b,o,ad⟩)/\aA J.w J.bh y us/\W9 J.w J.bh b o us:=by
 rw[Zj (by rfl)]at h;simpa[yH] using h
theorem lc{id off:Nat}{yQ:yL Nat}{v:yh}(h:yJ J (.aj id off yQ) v):
 ∃b,J.m[id]? =ab (ab b)/\(∃d st,J.H[id]? =ab (.var d st))/\v=.pointer (ab ⟨b,off,ad⟩):=by
 rw[Zj (by rfl)]at h;simpa[yH] using h
theorem nF{id off s lo n:Nat}{yQ:yL Nat}{v:yh}(h:yJ J (.view id off yQ s lo n) v):
 ∃b c a,J.m[id]? =ab (ab b)/\(∃d st,J.H[id]? =ab (.var d st))/\v=.slice (ab a) n c/\n<=c/\c<=maxLen/\(0 < n->a=⟨b,off+lo*s,ad⟩):=by
 rw[Zj (by rfl)]at h;simpa[yH] using h
theorem ko{id v s lo n:Nat}{u:yh}(h:yJ J (.rv id v s lo n) u):
 ∃A c,u=.slice A n c/\n<=c/\c<=maxLen/\(A=ad->c=0)/\(0 < n->∃b o,A=ab ⟨b,o,ad⟩)/\rowAt J id v s lo A c:=by
 rw[Zj (by rfl)]at h;simpa[yH] using h
theorem uU{id v off:Nat}{yQ:yL Nat}{u:yh}(h:yJ J (.ba id v off yQ) u):∃b o,u=.pointer (ab ⟨b,o,ad⟩)/\rowIs J id v b o off:=by
 rw[Zj (by rfl)]at h;simpa[yH] using h
theorem BF{id v off b o:Nat}{yQ:yL Nat}(h:rowIs J id v b o off):yJ J (.ba id v off yQ) (.pointer (ab ⟨b,o,ad⟩)):=by
 rw[Zj (by rfl)];simp only[yH];grind
theorem BG{id v b o off k:Nat}(h:rowIs J id v b o off):rowIs J id v b (o+k) (off+k):=by
 obtain⟨j,s,st,e,d,l,m,f⟩:=h;exact⟨j,s,st,e,d,l,m,λg=>⟨(f g).1,by rw[(f g).2]⟩⟩
theorem ZHJ{id v s lo c b o:Nat}(h:rowAt J id v s lo (ab ⟨b,o,ad⟩) c)(hc:0 < c):rowIs J id v b o (lo*s):=by
 obtain⟨f,g,st,e,d,j,l,m⟩:=h;refine⟨f,g,st,e,d,j,l,λy=> ?_⟩
 all_goals grind
theorem SH{id v s lo c l:Nat}{A:yO Addr}(h:rowAt J id v s lo A c)(hl:l<=c):rowAt J id v s (lo+l) (if c=l then A else A.map (·.add (l*s))) (c - l):=by
 obtain⟨m,y,st,e,d,z,B,E⟩:=h;refine⟨m,y,st,e,d,z,B,λF=> ?_⟩;obtain⟨G,I⟩:=E F;refine⟨G, ?_⟩;rcases I with⟨g,rfl,j⟩|⟨b,f,g,j,M,Q⟩
 .grind
 .refine .inr ⟨b,f,g,j,by rw[M];congr 1;omega,λR=> ?_⟩;rw[yX (by omega),Q (by omega)];simp[Addr.bI,ybc]
theorem SI{id v s lo n c l h:Nat}{A:yO Addr}(h2:n<=c)(h3:c<=maxLen)(h4:A=ad->c=0)(h5:0 < c->∃b o,A=ab ⟨b,o,ad⟩)(h6:rowAt J id v s lo A c)(hl:l<=h)(f:h<=c):
 yJ J (.rv id v s (lo+l) (h - l)) (.slice (if c=l then A else A.map (·.add (l*s))) (h - l) (c - l)):=by
 rw[Zj (by rfl)];simp only[yH];refine⟨_,_,rfl,by omega,by omega,λg=> ?_,λj=> ?_,SH h6 (by omega)⟩
 .all_goals grind
 .obtain⟨b,o,rfl⟩:=h5 (by omega);rw[yX (by omega)];exact⟨b,o+l*s,by simp[Addr.bI]⟩
theorem uV{f:yr}{cap:yL Dv}{v:yh}(h:yJ J (.fn f cap) v):∃g cs,v=.func (.func (fI f)) g cs/\(if f < big then g else cs)= #[]/\aH J cap (g++cs).toList:=by
 rw[Zj (by rfl)]at h;simpa[yH] using h
theorem SJ{f:yr}{cap:yL Dv}{v:yh}(j:f < big)(h:yJ J (.fn f cap) v):∃cs,v=.func (.func f) #[] cs/\aH J cap cs.toList:=by
 obtain⟨m,cs,l,g,y⟩:=uV h;rw[yW j]at g;subst g;unfold fI at l;grind
theorem ZAI{t:yc}{x ix:yp}(ok:Ok J)(yM:aB J ts a)(ho:o.op=.indexAddr t x ix)(h:bj P o ts hs=ab (C,d,hs'))(hc:aZ C):YZ P o a J d J.H:=by
 simp only[bj,ho]at h;have l:=Zo (P:=P) yM t x;have f:=Zo (P:=P) yM 0 ix
 have run:∀v,(Instr.indexAt t (a.eval x) (a.eval ix)).run P J.w=.ok v J.w->(execOp a.eval o).run P J.w=.ok (.value v) J.w:=λv E=>by
  simp[execOp,ho,E]
 split at h
 .rename_i e nn s X k i B g j;rw[g]at l;rw[j]at f;split at h
  .rename_i y I;split at h
   .rename_i m;simp only[yi,yP]at m;cases h;obtain⟨z,A,c,E,M,R,S,T,Q⟩:=WD l;obtain⟨v,U,W⟩:=SG (k:=k) (c:=c) ok B m.1 m.2 z Q hc.1 hc.2.1;exact Zk ok (run v (by rw[E,ZH f];exact U)) W
   .cases h
  .cases h
 .rename_i e id nn s X k i B g j;rw[g]at l;rw[j]at f;split at h
  .rename_i y I;split at h
   .rename_i m;simp only[yi,yP]at m;cases h;obtain⟨z,A,c,E,M,R,S,T,Q,_⟩:=mb l;obtain⟨v,U,W⟩:=SG (k:=k) (c:=c) ok B m.1 m.2 z Q hc.1 hc.2.1;exact Zk ok (run v (by rw[E,ZH f];exact U)) W
   .cases h
  .cases h
 .rename_i e id off yQ s lo n k i B g j;rw[g]at l;rw[j]at f;split at h
  .rename_i m;simp only[yi,yP]at m;cases h;obtain⟨F,z,_⟩:=hc;obtain⟨b,c,aa,Y,E,l,M,R,S⟩:=nF l;have e1:=S (by omega);subst e1;refine Zk (v:=.pointer (ab ⟨b,off+(lo+i.toNat)*s,ad⟩)) ok (run _ ?_) ?_
   .rw[l,ZH f];have G:0<=i/\i < (n:Int):=⟨F,z⟩;simp[Instr.indexAt,asIntOf,run_underlying B,G,Z3 m.2,m.1,Addr.bI,ybc,Nat.add_assoc]
   .rw[Zj (by rfl)];simp only[yH];exact⟨b,Y,E,rfl⟩
  .cases h
 .rename_i e id v s lo n k i B g j;rw[g]at l;rw[j]at f;split at h
  .rename_i m;simp only[yi,yP]at m;cases h;obtain⟨F,z,_⟩:=hc;obtain⟨A,c,l,M,R,S,T,Q⟩:=ko l;obtain⟨b,Z,rfl⟩:=T (by omega);refine Zk (v:=.pointer (ab ⟨b,Z+i.toNat*s,ad⟩)) ok (run _ ?_) ?_
   .rw[l,ZH f];have G:0<=i/\i < (n:Int):=⟨F,z⟩;simp[Instr.indexAt,asIntOf,run_underlying B,G,Z3 m.2,m.1,Addr.bI]
   .rw[ybc];exact BF (BG (ZHJ Q (by omega)))
  .cases h
 .rename_i n e id v off yQ k i B g j;rw[g]at l;rw[j]at f;split at h
  .rename_i m;cases h;obtain⟨F,z,_⟩:=hc;obtain⟨b,Z,l,M⟩:=uU l;refine Zk (v:=.pointer (ab ⟨b,Z+i.toNat*P.cellsOf e,ad⟩)) ok (run _ ?_) ?_
   .rw[l,ZH f];have G:0<=i/\i < (n:Int):=⟨F,z⟩;simp[Instr.indexAt,asIntOf,run_underlying B,G,Z3 m,Instr.sureAddr,Addr.bI]
   .exact BF (BG M)
  .cases h
 .rename_i n e id off yQ k i B g j;rw[g]at l;rw[j]at f;split at h
  .rename_i m;cases h;obtain⟨F,z,_⟩:=hc;obtain⟨b,Y,E,l⟩:=lc l;refine Zk (v:=.pointer (ab ⟨b,off+i.toNat*P.cellsOf e,ad⟩)) ok (run _ ?_) ?_
   .rw[l,ZH f];have G:0<=i/\i < (n:Int):=⟨F,z⟩;simp[Instr.indexAt,asIntOf,run_underlying B,G,Z3 m,Instr.sureAddr,Addr.bI]
   .rw[Zj (by rfl)];simp only[yH];exact⟨b,Y,E,rfl⟩
  .cases h
 .rename_i n e n' s X k i B g j;rw[g]at l;rw[j]at f;split at h
  .rename_i y I;split at h
   .rename_i m;simp only[yi,yP]at m;obtain⟨⟨rfl,m⟩,hk2⟩:=m;cases h;obtain⟨F,z,_⟩:=hc;obtain⟨b,off,us,l,M,R⟩:=qP l;simp only[aA]at M;obtain⟨S,T,Q⟩:=M;obtain⟨uy,U,W⟩:=uO T Q R z;have hlt:i.toNat < X.length:=(yu.1 z).1;refine Zk (v:=.pointer (ab ⟨b,off+i.toNat*s,ad⟩)) ok (run _ ?_) ?_
    .rw[l,ZH f];have G:0<=i/\i < (n:Int):=⟨F,by omega⟩;simp[Instr.indexAt,asIntOf,run_underlying B,G,Z3 hk2,m,Instr.sureAddr,Addr.bI]
    .rw[Zj (by rfl)];simp only[yH];exact⟨b,_,uy,rfl,U,W⟩
   .cases h
  .cases h
 .cases h
theorem ZK4{t:yc}{x:yp}{lo hi:yO yp}(ok:Ok J)(y:aB J ts a)(ho:o.op=.slice t x lo hi ad)(h:bj P o ts hs=ab (C,d,hs'))(hc:aZ C):YZ P o a J d J.H:=by
 simp only[bj,ho]at h;have j:=Zo (P:=P) y t x
 have run:∀v,(Instr.sliceAt t (a.eval x) (lo.map a.eval) (hi.map a.eval) ad).run P J.w=.ok v J.w->(execOp a.eval o).run P J.w=.ok (.value v) J.w:=λv G=>by
  simp[execOp,ho,G]
 split at h
 .rename_i e nn s M l r B g E F;rw[g]at j;split at h
  .rename_i f;simp only[yi,yP]at f;cases h;obtain⟨h1,A,c,G,z,S,I,W,T⟩:=WD j;obtain⟨p,q,m,Q,U,rfl,rfl⟩:=nE (P:=P) (w:=J.w) ae M.length c _ _ _ _ (YM y E) (YM y F) hc z;obtain⟨Y,R,Z,k4,k5,k6,k7⟩:=uS h1 z S W T Q U;refine Zk ok (run _ (by rw[G];simp[Instr.sliceAt,Instr.slice,run_underlying B,m,Z3 f.2,f.1];rfl)) ?_;rw[uT M l r hc, <-R];exact YH Y (by rw[R];exact Z) k4 (λb m=>by rw[k5];exact I b m) k6 k7
  .cases h
 .rename_i e id nn s M l r B g E F;rw[g]at j;split at h
  .rename_i f;simp only[yi,yP]at f;cases h;obtain⟨h1,A,c,G,z,S,I,W,T,_⟩:=mb j;obtain⟨p,q,m,Q,U,rfl,rfl⟩:=nE (P:=P) (w:=J.w) ae M.length c _ _ _ _ (YM y E) (YM y F) hc z;obtain⟨Y,R,Z,k4,k5,k6,k7⟩:=uS h1 z S W T Q U;refine Zk ok (run _ (by rw[G];simp[Instr.sliceAt,Instr.slice,run_underlying B,m,Z3 f.2,f.1];rfl)) ?_;rw[uT M l r hc, <-R];exact YH Y (by rw[R];exact Z) k4 (λb m=>by rw[k5];exact I b m) k6 k7
  .cases h
 .rename_i e id off yQ s lo n l r B g E F;rw[g]at j;split at h
  .rename_i f;simp only[yi,yP]at f;cases h;obtain⟨b,c,aa,X,G,j,z,S,I⟩:=nF j;obtain⟨p,q,m,Q,U,rfl,rfl⟩:=nE (P:=P) (w:=J.w) ae n c _ _ _ _ (YM y E) (YM y F) hc z;refine Zk ok (run _ (by rw[j];simp[Instr.sliceAt,Instr.slice,run_underlying B,m,Z3 f.2,f.1];rfl)) ?_;rw[Zj (by rfl)];simp only[yH];by_cases hcl:c=(l.getD 0).toNat
   .exact⟨b,c - (l.getD 0).toNat,aa,X,G,by rw[yW hcl],by omega,by omega,λh0=>absurd h0 (by omega)⟩
   .refine⟨b,c - (l.getD 0).toNat,aa.add ((l.getD 0).toNat*s),X,G,by rw[yX hcl],by omega,by omega,λh0=> ?_⟩;rw[I (by omega),Addr.bI,ybc,Nat.add_assoc]
  .cases h
 .rename_i e id v s lo n l r B g E F;rw[g]at j;split at h
  .rename_i hs'';split at h
   .rename_i f;simp only[yi,yP]at f;cases h;obtain⟨A,c,j,z,S,I,W,T⟩:=ko j;obtain⟨p,q,m,Q,U,rfl,rfl⟩:=nE (P:=P) (w:=J.w) ae n c _ _ _ _ (YM y E) (YM y F) hc z;refine Zk ok (run _ (by rw[j];simp[Instr.sliceAt,Instr.slice,run_underlying B,m,Z3 f.2,f.1];rfl)) ?_;by_cases hz:0 < (r.getD (n:Int)).toNat - (l.getD 0).toNat
    .obtain⟨b,o',rfl⟩:=W (by omega);exact SI z S I (λ_=>⟨b,o',rfl⟩) T Q (by omega)
    .rw[Zj (by rfl)];simp only[yH];refine⟨_,_,rfl,by omega,by omega,λhA=> ?_,λhp=>absurd hp hz,SH T (by omega)⟩;split at hA
     .omega
     .have hA':A=ad:=by simpa using hA
      have:=I hA';omega
   .cases h
  .cases h
 .rename_i n e n' s M l r B g E F;rw[g]at j;split at h
  .rename_i f;simp only[yi,yP]at f;obtain⟨⟨⟨rfl,f⟩,hk2⟩,X⟩:=f;cases h;obtain⟨b,off,us,hx',z,S⟩:=qP j;simp only[aA]at z;obtain⟨I,W,T⟩:=z;subst I;obtain⟨p,q,m,Q,U,rfl,rfl⟩:=nE (P:=P) (w:=J.w) af M.length M.length _ _ _ _ (YM y E) (YM y F) hc (ym _);obtain⟨Y,R,Z,k4,k5,k6,k7⟩:=uS (A:=ab ⟨b,off,ad⟩) W (ym _) X (λhA=>by cases hA) (λ_=>⟨b,off,us,rfl,T,S⟩) Q U;refine Zk ok (run _ (by rw[hx'];simp[Instr.sliceAt,Instr.sureAddr,run_underlying B,m,Z3 hk2,f];rfl)) ?_;rw[uT M l r hc, <-R];have:=YH (J:=J) Y (by rw[R];exact Z) k4 (kR k5) k6 k7;rw[R]at this ⊢;simpa[apply_ite] using this
  .cases h
 .rename_i n e id off yQ l r B g E F;rw[g]at j;split at h
  .rename_i hs'';split at h
   .rename_i f;simp only[yi,yP]at f;obtain⟨f,hm'⟩:=f;cases h;obtain⟨b,X,G,j⟩:=lc j;obtain⟨p,q,m,Q,U,rfl,rfl⟩:=nE (P:=P) (w:=J.w) af n n _ _ _ _ (YM y E) (YM y F) hc (ym _);refine Zk ok (run _ (by rw[j];simp[Instr.sliceAt,Instr.sureAddr,run_underlying B,m,Z3 f];rfl)) ?_;rw[Zj (by rfl)];simp only[yH];refine⟨b,_,_,X,G,rfl,by omega,by omega,λh0=> ?_⟩;rw[yX (by omega),Addr.bI]
   .cases h
  .cases h
 .cases h
theorem ZAJ{P:yg}{w:yy}(isSlice:Bool)(len cap:Nat){k1 k2 k3:IntKind}{l h m:Int}(f:0<=l)(h1:l<=h)(h2:h<=m)(h3:m<=(cap:Int)):
 (Instr.sliceBounds isSlice len cap (ab (.int k1 l)) (ab (.int k2 h)) (ab (.int k3 m))).run P w=.ok (l.toNat,h.toNat,m.toNat) w:=by
 have g:0<=m/\m<=(cap:Int):=⟨by omega,h3⟩;have j:0<=h/\h<=(m.toNat:Int):=⟨by omega,by omega⟩;have y:0<=l/\l<=(h.toNat:Int):=⟨f,by omega⟩;simp[Instr.sliceBounds,Instr.sliceBound,asIntOf,g,j,y];grind
theorem ZHM{t:yc}{x:yp}{lo hi:yO yp}{j:yp}(ok:Ok J)(f:aB J ts a)(ho:o.op=.slice t x lo hi (ab j))(h:bj P o ts hs=ab (C,d,hs'))(hc:aZ C):YZ P o a J d J.H:=by
 simp only[bj,ho]at h;have g:=Zo (P:=P) f t x;split at h
 .rename_i e id v s l0 n l r m G y I M Q;rw[y]at g;split at h
  .rename_i z;cases h;obtain⟨R,S,T,c4,_⟩:=hc;obtain⟨A,c,g,h2,h3,_⟩:=ko g;rcases YM f I with⟨_,q⟩|⟨U,i1,W,X⟩
   .cases q
   rcases YM f M with⟨_,q⟩|⟨Y,i2,Z,q2⟩
   .cases q
   rcases YM f Q with⟨_,q⟩|⟨F,i3,e3,q3⟩
   .cases q
   cases X;cases q2;cases q3;have hb:=ZAJ (P:=P) (w:=J.w) ae n c (k1:=U) (k2:=Y) (k3:=F) R S T (by omega:m<=(c:Int))
   have B:∃u,(Instr.sliceAt t (a.eval x) (lo.map a.eval) (hi.map a.eval) (ab (a.eval j))).run P J.w=.ok u J.w:=by
    have E:a.eval j=.int F m:=by simpa using e3
    rw[g,W,Z,E];exact⟨_,by simp[Instr.sliceAt,Instr.slice,run_underlying G,hb,Z3 z];rfl⟩
   obtain⟨u,B⟩:=B;exact Zk (v:=u) ok (by simp[execOp,ho,B]) YG
  .cases h
 .cases h
end
end Go.Ev
end
section
namespace Go.Ev
theorem SK(off:Nat):∀(vs:yL yh)(k:Nat)(cs:Array yh),off+k+vs.length<=cs.size->
 ((vs.zipIdx k).foldl (λcs q=>cs.setIfInBounds (off+q.2) q.1) cs).toList=cs.toList.take (off+k)++vs++cs.toList.drop (off+k+vs.length)
 |[],k,cs,_=>by simp
 |v::vs,k,cs,h=>by
  simp only[List.zipIdx_cons,List.foldl_cons,yah]at h ⊢;rw[SK off vs (k+1) _ (by simp;omega)];apply ybl;intro j;have y:cs.toList.length=cs.size:=ybu;simp only[Array.toList_setIfInBounds,List.getElem?_append,yl,yac,ybp,y,yct,yby,List.getElem?_drop,yah];by_cases m:j < off+k
  .have g:j < min (off+(k+1)) cs.size:=by omega
   have l:j < min (off+k) cs.size:=by omega
   have f:¬(off+k=j):=by omega
   have e4:j < off+(k+1):=by omega
   have e5:j < min (off+(k+1)) cs.size+vs.length:=by omega
   have e6:j < min (off+k) cs.size+(vs.length+1):=by omega
   simp[g,l,f,e4,e5,e6,m]
  .by_cases z:j=off+k
   .subst z;have g:off+k < min (off+(k+1)) cs.size:=by omega
    have l:¬(off+k < min (off+k) cs.size):=by omega
    have f:min (off+k) cs.size=off+k:=by omega
    have e4:off+k < min (off+(k+1)) cs.size+vs.length:=by omega
    have e5:off+k < cs.size:=by omega
    have e6:off+k < off+(k+1):=by omega
    simp[g,f,e4,e5,e6]
   .by_cases E:j < off+(k+1)+vs.length
    .have g:¬(j < min (off+(k+1)) cs.size):=by omega
     have l:¬(j < min (off+k) cs.size):=by omega
     have f:min (off+k) cs.size=off+k:=by omega
     have e4:min (off+(k+1)) cs.size=off+(k+1):=by omega
     have e5:j < off+k+(vs.length+1):=by omega
     have e6:j < off+(k+1)+vs.length:=by omega
     have A:j - (off+k)=(j - (off+(k+1)))+1:=by omega
     have B:¬(j < off+(k+1)):=by omega
     simp[f,e4,e5,e6,m,A,B]
    .have g:min (off+k) cs.size=off+k:=by omega
     have l:min (off+(k+1)) cs.size=off+(k+1):=by omega
     have f:¬(j < off+(k+1)+vs.length):=by omega
     have e4:¬(j < off+k+(vs.length+1)):=by omega
     have e5:¬(off+k=off+(k+1)+vs.length+(j - (off+(k+1)+vs.length))):=by omega
     have e6:off+(k+1)+vs.length+(j - (off+(k+1)+vs.length))=off+k+(vs.length+1)+(j - (off+k+(vs.length+1))):=by omega
     simp only[g,l,f,e4,if_false,e6];rw[yX (by omega)]
theorem ZHN(off:Nat)(vs cs:Array yh)(h:off+vs.size<=cs.size):
 (vs.zipIdx.foldl (λcs(q:yh×Nat)=>cs.setIfInBounds (off+q.2) q.1) cs).toList=cs.toList.take off++vs.toList++cs.toList.drop (off+vs.size):=by
 have:=SK off vs.toList 0 cs (by simpa using h);simp only[ych,ybu]at this;rw[<-this, <-Array.foldl_toList,Array.toList_zipIdx]
theorem ph:∀(f:yL Dv),Dv.sizes f=(f.map Dv.size).sum
 |[]=>rfl
 |d::f=>by simp[Dv.sizes,ph f]
theorem pi:∀(f:yL Pl),Pl.sizes f=(f.map Pl.size).sum
 |[]=>rfl
 |d::f=>by simp[Pl.sizes,pi f]
theorem SL{J:Sg}{d:Dv}{v:yh}(hd:d.isAgg=ae\/v.oneCell'=ae)(h:yJ J d v):yH J d v.cells.toList:=by
 cases f:d.isAgg with
 |true=>
  obtain⟨j,rfl,g⟩:=(ZZ f).1 h
  exact g
 |false=>
  have g:=(Zj f).1 h
  have:v.cells= #[v]:=by
   rcases hd with hd|hd
   .rw[f]at hd;cases hd
   .cases v <;> first|rfl|(simp[Value.oneCell']at hd)
  rw[this];exact g
mutual
theorem qQ{J:Sg}:∀(d:Dv)(vs:yL yh),d.bG=ae->yH J d vs->∀u,u∈vs->u.oneCell'=ae
 |.p x,vs,_,h,u,f=>by simp only[yH]at h;exact BA x vs h u f
 |.elem _,_,_,h,u,f=>by simp only[yH]at h;obtain⟨b,o,l,rfl,_⟩:=h;cases ybf.1 f;rfl
 |.aj _ _ _,_,_,h,u,f=>by simp only[yH]at h;obtain⟨b,_,_,rfl⟩:=h;cases ybf.1 f;rfl
 |.own _ _ _ _,_,_,h,u,f=>by simp only[yH]at h;obtain⟨_,A,c,rfl,_⟩:=h;cases ybf.1 f;rfl
 |.view _ _ _ _ _ _,_,_,h,u,f=>by simp only[yH]at h;obtain⟨b,c,a,_,_,rfl,_⟩:=h;cases ybf.1 f;rfl
 |.agg g,vs,hs,h,u,f=>by simp only[yH]at h;simp only[Dv.bG]at hs;exact dQ g vs hs h u f
 |.arr n s g,vs,hs,h,u,f=>by simp only[yH]at h;simp only[Dv.bG]at hs;exact dQ g vs hs h.2.2 u f
 |.fn _ _,_,_,h,u,f=>by simp only[yH]at h;obtain⟨m,j,rfl,_⟩:=h;cases ybf.1 f;rfl
 |.iface _ _,_,_,h,u,f=>by simp only[yH]at h;obtain⟨j,rfl,_⟩:=h;cases ybf.1 f;rfl
 |.bm _,_,hs,_,_,_=>by simp[Dv.bG]at hs
 |.mp _,_,_,h,u,f=>by simp only[yH]at h;obtain⟨b,_,_,rfl⟩:=h;cases ybf.1 f;rfl
 |.rv _ _ _ _ _,_,_,h,u,f=>by simp only[yH]at h;obtain⟨A,c,rfl,_⟩:=h;cases ybf.1 f;rfl
 |.ba _ _ _ _,_,_,h,u,f=>by simp only[yH]at h;obtain⟨b,o,rfl,_⟩:=h;cases ybf.1 f;rfl
 |.ak,_,hs,_,_,_=>by simp[Dv.bG]at hs
theorem dQ{J:Sg}:∀(j:yL Dv)(vs:yL yh),Dv.dO j=ae->aM J j vs->∀u,u∈vs->u.oneCell'=ae
 |[],_,_,h,u,f=>by simp only[aM]at h;subst h;cases f
 |x::l,vs,hs,h,u,f=>by
  simp only[Dv.dO,yi]at hs;simp only[aM]at h;obtain⟨m,g,rfl,y,z⟩:=h;rcases ycr.1 f with h3|h3
  .exact qQ x m hs.1 y u h3
  .exact dQ l g hs.2 z u h3
end
theorem V7{J:Sg}{d:Dv}{v:yh}(hs:d.bG=ae)(h:yJ J d v):yH J d v.cells.toList:=by
 cases f:d.isAgg with
 |true=>exact SL (.inl f) h
 |false=>
  have g:=(Zj f).1 h;exact SL (.inr (qQ d _ hs g v (by simp))) h
theorem qR{J:Sg}{place:Nat->yO (Nat×Nat)}{sz:yL Nat}(hp:∀i s,sz[i]? =ab s->place i=ab ((sz.take i).sum,s)):
 ∀(parts:yL (Nat×Dv×yh))(A y:yL Dv)(cells:Array yh),A.map Dv.size=sz->aM J A cells.toList->(∀q,q∈parts->q.2.1.bG=ae/\yJ J q.2.1 q.2.2)->
  iv A (parts.map λq=>(q.1,q.2.1))=ab y->∃f,Instr.fill place cells (parts.map λq=>(q.1,q.2.2))=ab f/\aM J y f.toList/\y.map Dv.size=sz
 |[],A,y,cells,z,M,_,h=>by
  simp only[List.map_nil,iv,yo]at h;subst h
  exact⟨cells,rfl,M,z⟩
 |(i,d,v)::yK,A,y,cells,z,M,Z,h=>by
  simp only[yag,iv,yf]at h;obtain⟨ds1,E,h2⟩:=h;unfold uI at E;split at E
  .rename_i old l;split at E
   .rename_i g;cases E;obtain⟨a,b,c,e,ha,hb,Q,h3,h4⟩:=mc M l;obtain⟨R,S⟩:=Z (i,d,v) (yay ..);have m:=V7 R S;have T:v.cells.toList.length=d.size:=X2 _ _ m;have hi:i < A.length:=(yu.1 l).1;have F:sz[i]? =ab d.size:=by rw[<-z,yak,l];simp[g]
    have U:=hp i _ F;have G:(sz.take i).sum=a.length:=by rw[ha,ph, <-z,List.map_take]
    have hcs:cells.size=a.length+(b.length+c.length):=by
     rw[<-ybu,e];simp
    have I:b.length=d.size:=by rw[Q,g]
    have W:v.cells.size=d.size:=by rw[<-T,ybu]
    have B:=qR hp yK (A.set i d) y (v.cells.zipIdx.foldl (λcs(q:yh×Nat)=>cs.setIfInBounds (a.length+q.2) q.1) cells) (by
     rw[<-z,List.map_set,g.symm];apply ybl;intro j;rw[yby];split
     .rename_i X;subst X;rw[yak,l];simp[hi]
     .rfl) (by
     rw[ZHN _ _ _ (by omega),e];have e1:(a++(b++c)).take a.length=a:=by simp
     have e2:(a++(b++c)).drop (a.length+v.cells.size)=c:=by
      rw[W, <-I, <-yab, <-yl];simp
     rw[e1,e2,yab]
     have e3:A.set i d=A.take i++(d::A.drop (i+1)):=by
      rw[List.set_eq_take_append_cons_drop,yW hi]
     rw[e3];refine qM h3 ?_;simp only[aM];exact⟨_,_,rfl,m,h4⟩) (λq Y=>Z q (yaz _ Y)) h2
    obtain⟨f,k1,k2,k3⟩:=B;refine⟨f, ?_,k2,k3⟩;simp only[yag,Instr.fill,U,G];rw[yX (by simp;omega)];exact k1
   .cases E
  .cases E
theorem BH{J:Sg}:∀{j:yL Dv}{xs:yL Pl}{us:yL yh},ju j=ab xs->aM J j us->au J.w J.bh xs us
 |[],xs,us,h,g=>by simp only[ju,yo]at h;subst h;simpa[aM,au] using g
 |d::j,xs,us,h,g=>by
  simp only[ju]at h;split at h
  .rename_i x Q f m;cases h;simp only[aM]at g;obtain⟨a,b,rfl,l,y⟩:=g;simp only[au];refine⟨a,b,rfl, ?_,BH m y⟩;unfold Dv.plain at f;split at f
   .cases f;simpa[yH] using l
   .cases f;simp only[yH]at l;obtain⟨z,A,c,B,E,F,G,I,M,_⟩:=l;simp only[aA];exact⟨z,A,c,B,E,F,G,I,M⟩
   .cases f
  .cases h
theorem SM:∀{g:yL Dv}{xs:yL Pl},ju g=ab xs->xs.map Pl.size=g.map Dv.size
 |[],xs,h=>by simp only[ju,yo]at h;subst h;rfl
 |d::g,xs,h=>by
  simp only[ju]at h;split at h
  .rename_i x l f j;cases h;simp only[yag,SM j];congr 1;unfold Dv.plain at f;split at f <;> first|(cases f;rfl)|cases f
  .cases h
mutual
theorem uW:∀(d:Dv)(x:Pl),d.flat=ab x->x.size=d.size
 |.p y,x,h=>by rw[Dv.flat]at h;cases h;rfl
 |.own id l s g,x,h=>by rw[Dv.flat]at h;cases h;rfl
 |.agg j,x,h=>by
  rw[Dv.flat]at h
  cases f:Dv.aW j with
  |none=>rw[f]at h;cases h
  |some g=>
   rw[f]at h;cases h;rw[Pl.size,Dv.size]
   exact eJ j g f
 |.elem _,x,h=>by simp[Dv.flat]at h
 |.aj _ _ _,x,h=>by simp[Dv.flat]at h
 |.view _ _ _ _ _ _,x,h=>by simp[Dv.flat]at h
 |.arr _ _ _,x,h=>by simp[Dv.flat]at h
 |.fn _ _,x,h=>by simp[Dv.flat]at h
 |.iface _ _,x,h=>by simp[Dv.flat]at h
 |.bm _,x,h=>by simp[Dv.flat]at h
 |.mp _,x,h=>by simp[Dv.flat]at h
 |.rv _ _ _ _ _,x,h=>by simp[Dv.flat]at h
 |.ba _ _ _ _,x,h=>by simp[Dv.flat]at h
 |.ak,x,h=>by simp[Dv.flat]at h
theorem eJ:∀(f:yL Dv)(xs:yL Pl),Dv.aW f=ab xs->Pl.sizes xs=Dv.sizes f
 |[],xs,h=>by rw[Dv.aW]at h;cases h;rfl
 |d::f,xs,h=>by
  rw[Dv.aW]at h;split at h
  .rename_i x g j l;cases h;rw[Pl.sizes,Dv.sizes,uW d x j,eJ f g l]
  .cases h
end
theorem SN:∀{f:yL Dv}{xs:yL Pl},Dv.aW f=ab xs->xs.map Pl.size=f.map Dv.size
 |[],xs,h=>by rw[Dv.aW]at h;cases h;rfl
 |d::f,xs,h=>by
  rw[Dv.aW]at h;split at h
  .rename_i x l g j;cases h;simp only[yag,SN j,uW d x g]
  .cases h
mutual
theorem SP:∀(d:Dv)(x:Pl),d.flat=ab x->d.bG=ae
 |.p y,x,h=>rfl
 |.own id l s f,x,h=>rfl
 |.agg g,x,h=>by
  rw[Dv.flat]at h
  cases j:Dv.aW g with
  |none=>rw[j]at h;cases h
  |some f=>rw[Dv.bG];exact ei g f j
 |.elem _,x,h=>by simp[Dv.flat]at h
 |.aj _ _ _,x,h=>by simp[Dv.flat]at h
 |.view _ _ _ _ _ _,x,h=>by simp[Dv.flat]at h
 |.arr _ _ _,x,h=>by simp[Dv.flat]at h
 |.fn _ _,x,h=>by simp[Dv.flat]at h
 |.iface _ _,x,h=>by simp[Dv.flat]at h
 |.bm _,x,h=>by simp[Dv.flat]at h
 |.mp _,x,h=>by simp[Dv.flat]at h
 |.rv _ _ _ _ _,x,h=>by simp[Dv.flat]at h
 |.ba _ _ _ _,x,h=>by simp[Dv.flat]at h
 |.ak,x,h=>by simp[Dv.flat]at h
theorem ei:∀(f:yL Dv)(xs:yL Pl),Dv.aW f=ab xs->Dv.dO f=ae
 |[],xs,h=>rfl
 |d::f,xs,h=>by
  rw[Dv.aW]at h;split at h
  .rename_i x g j l;rw[Dv.dO,SP d x j,ei f g l];rfl
  .cases h
end
theorem SQ:∀{g:yL Dv}{xs:yL Pl},Dv.aW g=ab xs->∀d,d∈g->d.bG=ae
 |[],_,_,d,f=>by cases f
 |x::g,xs,h,d,f=>by
  rw[Dv.aW]at h;split at h
  .rename_i y m j l
   cases f with
   |head=>exact SP _ _ j
   |tail _ f=>exact SQ l d f
  .cases h
theorem ZF8{J:Sg}{f:yL Dv}{xs:yL Pl}{us:yL yh}(h:Dv.aW f=ab xs)(g:aM J f us):au J.w J.bh xs us:=dP f xs us h g
theorem ZF9{J:Sg}{f:yL Dv}{cs:Array yh}(g:aM J f cs.toList):yJ J (qG f) (.agg cs):=by
 unfold qG;split
 .rename_i j h;rw[ZZ rfl];exact⟨cs,rfl,by simp only[yH,aA];exact BH h g⟩
 .rw[ZZ rfl];exact⟨cs,rfl,by simp only[yH];exact g⟩
theorem BI{P:yg}{J:Sg}{t:yc}{d:Dv}(h:bf P t=d)(f:d≠ .ak):∃i v,P.info? t=ab i/\i.zero=ab v/\yJ J d v:=by
 unfold bf at h;split at h
 .rename_i i g;split at h
  .rename_i v j;exact⟨i,v,g,j,by rw[<-h];exact nw⟩
  .exact absurd h.symm f
 .exact absurd h.symm f
theorem BJ{P:yg}:∀(j:yL Field),(∀f,f∈j->(P.info? f.type).isSome=ae)->
 j.mapM (λf=>(P.info? f.type).map λi=>(f.offset,i.size))=ab (j.map λf=>(f.offset,P.cellsOf f.type))
 |[],_=>by simp
 |f::j,h=>by
  have m:=h f (yay ..)
  cases l:P.info? f.type with
  |none=>simp[l]at m
  |some i=>
   simp[List.mapM_cons,l,BJ j (λg y=>h g (yaz _ y)),Program.cellsOf]
section
variable{P:yg}{o:yj}{a:Act}{J:Sg}{ts:yL Dv}{hs hs':yL ar}{C:yL Prop}{d:Dv}
theorem uX(j:aB J ts a)(f:Nat->yc)(parts:yL (Nat×yp))(g:lY (gL P ts f parts)=ae):
 ∃h:yL (Nat×Dv×yh),(h.map λq=>(q.1,q.2.1))=gL P ts f parts/\(h.map λq=>(q.1,q.2.2))=parts.map (λq=>(q.1,a.eval q.2))/\(∀q,q∈h->q.2.1.bG=ae/\yJ J q.2.1 q.2.2):=by
 refine⟨parts.map λq=>(q.1,aC P ts (f q.1) q.2,a.eval q.2),by simp[gL],by simp,λq l=> ?_⟩;obtain⟨x,m,rfl⟩:=ybx.1 l;refine⟨?_,Zo j _ _⟩;simp only[lY,gL,List.all_map,yan]at g;exact g x m
theorem SR(n s i:Nat)(h:i<=n):((yx n s).take i).sum=i*s:=by
 rw[List.take_replicate,ybb h,List.sum_replicate_nat]
theorem ZK5{t:yc}{parts:Array (Nat×yp)}(ok:Ok J)(yM:aB J ts a)(ho:o.op=.build t parts)(h:bj P o ts hs=ab (C,d,hs')):YZ P o a J d J.H:=by
 simp only[bj,ho]at h
 have run:∀cells,P.built t (parts.map λq=>(q.1,a.eval q.2)).toList=ab cells->(execOp a.eval o).run P J.w=.ok (.value (.agg cells)) J.w:=λcells hv=>by
  have:=run_build (P:=P) J.w t (parts.map λq=>(q.1,a.eval q.2)) cells hv;simp[execOp,ho,this]
 split at h
 .rename_i R zs hu hz;split at h
  .rename_i hk;simp only[yi,yT]at hk;obtain⟨⟨A,zW⟩,zU⟩:=hk;simp only[yv,yq]at h;obtain⟨Z,l,rfl,rfl,rfl⟩:=h;obtain⟨it,z,T,B,E⟩:=BI (J:=J) hz (by simp);obtain⟨cs,rfl,m⟩:=(ZZ rfl).1 E;simp only[yH,aA]at m
   have hf:∀i,i < R.size->∃f z,R[i]? =ab f/\zs[i]? =ab z/\f.offset=Pl.sizes (zs.take i)/\P.cellsOf f.type=z.size/\(P.info? f.type).isSome=ae:=by
    intro i F;have S:i < zs.length:=by omega
    have G:=yan.1 zU i (List.mem_range.2 S);unfold kg at G;have hzi:zs.getD i default=zs[i]:=by simp[List.getD,S]
    rw[hzi]at G;have hfi:R[i]? =ab R[i]:=Array.getElem?_eq_getElem F;rw[hfi]at G;simp only[yi,yT]at G;obtain⟨⟨⟨⟨⟨h2,h3⟩,h4⟩,_⟩,_⟩,_⟩:=G;exact⟨R[i],zs[i],hfi,yad S,h2,h3,h4⟩
   have hmap:=BJ (P:=P) R.toList (λf hf'=>by
    obtain⟨i,F,rfl⟩:=List.getElem_of_mem hf';obtain⟨f,z,G,_,_,_,h2⟩:=hf i (by simpa using F)
    have:R.toList[i]=f:=by
     have:=(Array.getElem?_eq_some_iff.1 G).2;simpa using this
    rw[this];exact h2)
   obtain⟨qs,U,W,X⟩:=uX (P:=P) yM (jv P t) parts.toList A;rw[<-U]at l
   obtain⟨g,y,hr,_⟩:=qR (J:=J) (place:=((R.toList.map λf=>(f.offset,P.cellsOf f.type)).toArray[·]?)) (sz:=zs.map Pl.size) (by
    intro i s F;rw[yak]at F;obtain⟨z,hz1,hz2⟩:=yv.1 F;have S:i < zs.length:=(yu.1 hz1).1;obtain⟨f,z',G,h2,h3,h4,_⟩:=hf i (by omega);rw[hz1]at h2;cases h2;have:R.toList[i]? =ab f:=by simpa using G
    simp only[List.getElem?_toArray,yak,this,Option.map_some,h3,h4,hz2,pi,List.map_take]) qs (zs.map .p) Z cs (by simp[Dv.size,Function.comp_def]) (jx.2 m) X l
   have hb:P.built t (parts.map λq=>(q.1,a.eval q.2)).toList=ab g:=by
    unfold Program.built;rw[T,hu];simp only[B,hmap,Value.cells];rw[Array.toList_map, <-W];exact y
   exact Zk ok (run _ hb) (ZF9 hr)
  .cases h
 .rename_i n e n' s zs hu hz;split at h
  .rename_i hk;simp only[yi,yP]at hk;obtain⟨⟨A,hse⟩,hie⟩:=hk;simp only[yf]at h;obtain⟨Z,l,h⟩:=h;obtain⟨it,z,T,B,E⟩:=BI (J:=J) hz (by simp);obtain⟨cs,rfl,m⟩:=(ZZ rfl).1 E;simp only[yH,aA]at m;obtain⟨hzl,hzs,m⟩:=m;obtain⟨qs,U,W,X⟩:=uX (P:=P) yM (jv P t) parts.toList A;rw[<-U]at l
   have hszs:(zs.map Dv.p).map Dv.size=yx n' s:=by
    rw[<-hzl];apply ybl;intro j;simp only[yak,List.getElem?_replicate]
    cases hj:zs[j]? with
    |none=>
     have:=List.getElem?_eq_none_iff.1 hj
     simp;omega
    |some x=>
     have G:=(yu.1 hj).1;simp[G,Dv.size,hzs x (List.mem_of_getElem? hj)]
   obtain⟨g,y,hr,I⟩:=qR (J:=J) (place:=λi=>ab (i*s,s)) (sz:=yx n' s) (by
    intro i s' F;simp only[List.getElem?_replicate]at F;split at F
    .cases F;rw[SR _ _ _ (by omega)]
    .cases F) qs (zs.map .p) Z cs hszs (jx.2 m) X l
   have M:Z.length=n':=by
    have:=congrArg List.length I;simpa using this
   have Y:∀x,x∈Z->x.size=s:=by
    intro x hx;have:x.size∈Z.map Dv.size:=List.mem_map_of_mem hx;rw[I]at this;exact List.eq_of_mem_replicate this
   have hb:P.built t (parts.map λq=>(q.1,a.eval q.2)).toList=ab g:=by
    unfold Program.built;rw[T,hu]
    cases Q:P.info? e with
    |none=>simp[Q]at hie
    |some ie=>
     have:ie.size=s:=by rw[<-hse];simp[Program.cellsOf,Q]
     simp only[B,Q,Value.cells,this];rw[Array.toList_map, <-W];exact y
   split at h
   .rename_i xs hxs;cases h;refine Zk ok (run _ hb) ?_;rw[ZZ rfl];have hps:=SM hxs
    refine⟨g,rfl,by
     simp only[yH,aA];refine⟨?_, ?_,BH hxs hr⟩
     .have:=congrArg List.length hps;simp only[yaa]at this;rw[this,M]
     .intro x hx;have:x.size∈xs.map Pl.size:=List.mem_map_of_mem hx;rw[hps,I]at this;exact List.eq_of_mem_replicate this⟩
   .cases h;refine Zk ok (run _ hb) ?_;rw[ZZ rfl];exact⟨g,rfl,by simp only[yH];exact⟨M,Y,hr⟩⟩
  .cases h
 .cases h
end
theorem SS(s:Nat):∀(new pre post:yL Dv),post.length=new.length->(∀x,x∈post->x.size=s)->(∀x,x∈new->x.size=s)->
 iv (pre++post) ((List.range' pre.length new.length).zip new)=ab (pre++new)
 |[],pre,post,f,_,_=>by
  have:post=[]:=ybh (by simpa using f);subst this
  simp[iv]
 |d::new,pre,[],f,_,_=>by simp at f
 |d::new,pre,q::post,f,h,j=>by
  simp only[yah,List.range'_succ,List.zip_cons_cons,iv];have e:(pre++q::post)[pre.length]? =ab q:=by simp
  have hs:q.size=d.size:=by rw[h q (yay ..),j d (yay ..)]
  have l:(pre++q::post).set pre.length d=(pre++[d])++post:=by simp
  simp only[uI,e,hs,if_true,Option.bind_some,l];have:=SS s new (pre++[d]) post (by simpa using f) (λx g=>h x (yaz _ g)) (λx g=>j x (yaz _ g));simp only[yl,yah,List.length_nil,yax,yab,List.singleton_append]at this ⊢;exact this
theorem ST{α β γ:Type}(f:α->β)(g:α->γ):∀(l:yL α),l.map (λq=>(f q,g q))=(l.map f).zip (l.map g)
 |[]=>rfl
 |x::l=>by simp[ST f g l]
theorem SU{J:Sg}:∀(us:yL yh),aM J (yx us.length .ak) us
 |[]=>by simp[aM]
 |u::us=>by
  simp only[yah,List.replicate_succ,aM];exact⟨[u],us,rfl,by simp[yH],SU us⟩
def pj(s:Nat):Dv:=.agg (yx s .ak)
theorem SV(s:Nat):(pj s).size=s:=by
 show Dv.sizes (yx s .ak)=s;rw[ph,List.map_replicate,List.sum_replicate_nat];simp[Dv.size]
theorem ZGa{J:Sg}{s:Nat}{us:yL yh}(h:us.length=s):yH J (pj s) us:=by
 subst h;show yH J (.agg (yx us.length .ak)) us;simp only[yH];exact SU us
theorem SW{J:Sg}{s:Nat}:∀(n:Nat)(us:yL yh),us.length=n*s->aM J (yx n (pj s)) us
 |0,us,h=>by
  have:us=[]:=ybh (by simpa using h);subst this
  simp[aM]
 |n+1,us,h=>by
  rw[ybc,Nat.one_mul]at h;simp only[List.replicate_succ,aM];exact⟨us.take s,us.drop s,(ybg s us).symm,ZGa (by rw[yac];omega),SW n _ (by rw[List.length_drop];omega)⟩
section
variable{P:yg}{o:yj}{a:Act}{J:Sg}{ts:yL Dv}{hs hs':yL ar}{C:yL Prop}{d:Dv}
theorem ZGb(T:aB J ts a){e:yc}{s len:Nat}{parts:yL (Nat×yp)}{xs:yL Pl}(h:Wc P ts e s len parts=ab xs)(Z:Array yh)(U:Z.size=len*s):
 ∃cells:Array yh,Instr.fill (λi=>ab (i*s,s)) Z (parts.map λq=>(q.1,a.eval q.2))=ab cells/\au J.w J.bh xs cells.toList/\xs.length=len/\bc s xs:=by
 unfold Wc at h;split at h
 .rename_i W;have m:parts.map (·.1)=yn len:=by simpa using W
  split at h
  .rename_i X F;split at h
   .rename_i Y;cases h
    have z:∀x,x∈xs->x.size=s:=by
     intro x g;have:=yan.1 Y x g;simpa using this
    have A:=SN F
    have j:(parts.map λq=>aC P ts e q.2).length=len:=by
     have:=congrArg List.length m;simpa using this
    have G:∀x,x∈(parts.map λq=>aC P ts e q.2)->x.size=s:=by
     intro x g;have B:x.size∈(parts.map λq=>aC P ts e q.2).map Dv.size:=List.mem_map_of_mem g;rw[<-A]at B;obtain⟨y,hy,he⟩:=ybx.1 B;rw[<-he];exact z y hy
    have I:xs.length=len:=by
     have:=congrArg List.length A;simp only[yaa]at this;rw[this];simpa using j
    obtain⟨qs,M,Q,R⟩:=uX (P:=P) T (λ_=>e) parts (by
     simp only[lY,gL,List.all_map,yan];intro q hq;exact SQ F _ (List.mem_map_of_mem hq))
    have f:iv (yx len (pj s)) (gL P ts (λ_=>e) parts)=ab (parts.map λq=>aC P ts e q.2):=by
     have B:=SS s (parts.map λq=>aC P ts e q.2) [] (yx len (pj s)) (by simpa using j.symm) (λx g=>by rw[List.eq_of_mem_replicate g,SV]) G;simp only[List.nil_append,List.length_nil]at B
     have h2:gL P ts (λ_=>e) parts=(List.range' 0 (parts.map λq=>aC P ts e q.2).length).zip (parts.map λq=>aC P ts e q.2):=by
      rw[j, <-List.range_eq_range', <-m];exact ST _ _ parts
     rw[h2];exact B
    rw[<-M]at f
    obtain⟨cells,l,S,_⟩:=qR (J:=J) (place:=λi=>ab (i*s,s)) (sz:=yx len s) (by
     intro i s' E;simp only[List.getElem?_replicate]at E;split at E
     .cases E;rw[SR _ _ _ (by omega)]
     .cases E) qs (yx len (pj s)) _ Z (by simp[SV]) (SW len _ (by simpa using U)) R f
    refine⟨cells, ?_,ZF8 F S,I,λx g=>z x g⟩;rw[<-Q];exact l
   .cases h
  .cases h
 .cases h
theorem Zuc{e t:yc}{i:TypeInfo}{len:Nat}{parts:Array (Nat×yh)}{Q:Array yh->Prop}(w:yy)(hu:P.underlying t=ab (.slice e))(hi:P.info? e=ab i)(hz:cq i=ae)
 (hsz:len*i.size<=16777216) (f:∀Z:Array yh,Z.size=len*i.size->∃cells,Instr.fill (λj=>ab (j*i.size,i.size)) Z parts.toList=ab cells/\Q cells):
 ∃cells,(Instr.buildSlice t len parts).run P w=.ok (.slice (ab ⟨w.heap.size,0,ad⟩) len len) (w.alloc (.cells cells e))/\Q cells:=by
 unfold cq at hz;split at hz
 .rename_i z h;have y:¬(16777216 < len*i.size):=by omega
  by_cases l:len*i.size=0
  .obtain⟨cells,g,m⟩:=f ((Array.range (len*i.size)).map (#[][· % (#[]:Array yh).size]!)) (by simp);refine⟨cells, ?_,m⟩;simp only[l]at g;simp[Instr.buildSlice,run_underlying hu,sizeOf,typeInfo,hi,l,newRow];simp at g;simp[g]
  .obtain⟨cells,g,m⟩:=f ((Array.range (len*i.size)).map (z.cells[· % z.cells.size]!)) (by simp);exact⟨cells,by simp[Instr.buildSlice,run_underlying hu,sizeOf,typeInfo,zeroValue,hi,h,y,l,newRow,g],m⟩
 .cases hz
end
theorem cJ{α:Type}{l:yL α}{i j:Nat}{x:α}(h:i≠j):(l.set i x)[j]? =l[j]? :=by
 rw[yby,yX h]
theorem an{α:Type}{l:yL α}{i:Nat}{x y:α}(h:l[i]? =ab y):(l.set i x)[i]? =ab x:=by
 rw[yby,yW rfl,yW (yu.1 h).1]
theorem Xy{J J':Sg}(ok:Ok J){id:Nat}{mi mi':yO Nat}{Y I:aq}(hH:J.H[id]? =ab Y)(hm:J.m[id]? =ab mi)
 (eF:J'.F=J.F) (Z:J'.B=J.B) (eH:J'.H=J.H.set id I) (em:J'.m=J.m.set id mi')
 (hos:J'.w.os=J.w.os) (htape:J'.w.tape=J.w.tape) (hout:J'.w.output=J.w.output) (hsize:J.w.heap.size<=J'.w.heap.size)
 (zV:∀b,b < J.w.heap.size->mi≠ab b->J'.w.heap[b]? =J.w.heap[b]?)
 (hown:∀b o v,mi=ab b->Y.bw o->J.w.cell? ⟨b,o,ad⟩=ab v->J'.w.cell? ⟨b,o,ad⟩=ab v)
 (hunl:∀o,mi'=mi->Y.bw o->I.bw o)
 (hmi:mi'=mi\/∃b',mi'=ab b'/\J.w.heap.size<=b'/\b' < J'.w.heap.size)
 (hvar:(∃d st,Y=.var d st)->mi'=mi/\∃d st,I=.var d st)
 (hmap:(∃t bU,Y=.map t bU)->mi'=mi/\∃t bU,I=.map t bU)
 (hlog:∀s e xs,Y=.log s e xs->∃T,I=.log s e T/\xs.length<=T.length/\(T.length=xs.length->mi'=mi/\∀b,b < J.w.heap.size->J'.w.heap[b]? =J.w.heap[b]?))
 (hent:cl J J'->dw J' mi' I)
 (hrow:∀v s st e d,Y=.row v s st e d->∃v' M d',I=.row v' s M e d'/\v<=v'/\(v'=v->mi'=mi/\∀b cur,mi=ab b->J.w.heap[b]? =ab (.cells cur e (0,0))->∃cur',J'.w.heap[b]? =ab (.cells cur' e (0,0))/\cur'.size=cur.size):=by
   intro _ _ _ _ _ h;cases h):To J J'/\Ok J':=by
 have hlt:∀b,mi=ab b->b < J.w.heap.size:=λb h=>ok.lt id b (by rw[hm,h]);have y:∀j,j≠id->J'.m[j]? =J.m[j]? :=λj G=>by rw[em,cJ (Ne.symm G)]
 have g:J'.m[id]? =ab mi':=by rw[em];exact an hm
 have Hset:∀j,j≠id->J'.H[j]? =J.H[j]? :=λj G=>by rw[eH,cJ (Ne.symm G)]
 have Hself:J'.H[id]? =ab I:=by rw[eH];exact an hH
 have hob:∀j b,j≠id->J.m[j]? =ab (ab b)->J'.w.heap[b]? =J.w.heap[b]? :=λj b G h=>
  zV b (ok.lt j b h) (λS=>G (ok.inj j id b h (by rw[hm,S])))
 have U:cl J J':=by
  refine⟨λb o v l z=>⟨?_, ?_, ?_⟩,λj b l z=> ?_,λj s len A c l=> ?_,λj b l z=> ?_,λj v s st e d l=> ?_⟩
  .by_cases R:mi=ab b
   .exact hown b o v R (z.2 id Y (by rw[hm,R]) hH) l
   .rw[World.cell?_of_block (w:=J.w) (zV b (VE l) R)];exact l
  .rcases z.1 with h3|h3
   .exact .inl (by rw[eF];exact h3)
   .exact .inr (by rw[Z];exact h3)
  .intro j e G S;by_cases f:j=id
   .subst f;rw[g]at G;rw[Hself]at S;cases S;have Q:mi'=ab b:=by simpa using G
    rcases hmi with h3|⟨b',h3,X,_⟩
    .have hmb:mi=ab b:=by rw[<-h3,Q]
     exact hunl o h3 (z.2 j Y (by rw[hm,hmb]) hH)
    .have:b'=b:=by rw[h3]at Q;exact ybq Q
     have:=VE l;omega
   .rw[y j f]at G;rw[Hset j f]at S;exact z.2 j e G S
  .by_cases f:j=id
   .subst f;obtain⟨d,st,z⟩:=z;rw[hH]at z;obtain⟨h3,d',M,X⟩:=hvar ⟨d,st,ybq z⟩;rw[hm]at l;exact⟨by rw[g,h3];exact l,d',M,by rw[Hself,X]⟩
   .exact⟨by rw[y j f];exact l,by rw[Hset j f];exact z⟩
  .obtain⟨e,ys,z,h3,X⟩:=l;by_cases f:j=id
   .subst f;rw[hH]at z;obtain⟨T,k1,k2,k3⟩:=hlog s e ys (ybq z);refine⟨e,T,by rw[Hself,k1],by omega,λhl=> ?_⟩;obtain⟨k4,k5⟩:=k3 (by omega);rcases X (by omega) with⟨W,h6⟩|⟨b,cur,W,h6,h7,h8⟩
    .exact .inl ⟨by rw[g,k4, <-hm];exact W,h6⟩
    .exact .inr ⟨b,cur,by rw[g,k4, <-hm];exact W,h6,(k5 b (ok.lt j b W)).trans h7,h8⟩
   .refine⟨e,ys,by rw[Hset j f];exact z,h3,λhl=> ?_⟩;rcases X hl with⟨W,h6⟩|⟨b,cur,W,h6,h7,h8⟩
    .exact .inl ⟨by rw[y j f];exact W,h6⟩
    .exact .inr ⟨b,cur,by rw[y j f];exact W,h6,(hob j b f W).trans h7,h8⟩
  .by_cases f:j=id
   .subst f;obtain⟨d,st,z⟩:=z;rw[hH]at z;obtain⟨h3,d',M,X⟩:=hmap ⟨d,st,ybq z⟩;rw[hm]at l;exact⟨by rw[g,h3];exact l,d',M,by rw[Hself,X]⟩
   .exact⟨by rw[y j f];exact l,by rw[Hset j f];exact z⟩
  .by_cases f:j=id
   .subst f;rw[hH]at l;obtain⟨v',M,d',k1,k2,k3⟩:=hrow v s st e d (ybq l);refine⟨v',M,d',by rw[Hself,k1],k2,λhv=> ?_⟩;obtain⟨k4,k5⟩:=k3 hv;exact⟨by rw[g,k4, <-hm],λb cur R hc=>k5 b cur (by rw[hm]at R;exact ybq R) hc⟩
   .exact⟨v,st,d,by rw[Hset j f];exact l,ym _,λ_=>⟨y j f,λb cur R hc=>⟨cur,(hob j b f R).trans hc,rfl⟩⟩⟩
 have E:∀j b,J'.m[j]? =ab (ab b)->(J.m[j]? =ab (ab b)/\(j=id->mi'=mi))\/(j=id/\J.w.heap.size<=b/\b < J'.w.heap.size):=by
  intro j b G;by_cases f:j=id
  .subst f;rw[g]at G;have Q:mi'=ab b:=by simpa using G
   rcases hmi with h3|⟨b',h3,X,W⟩
   .exact .inl ⟨by rw[hm, <-h3,Q],λ_=>h3⟩
   .have:b'=b:=by rw[h3]at Q;exact ybq Q
    subst this;exact .inr ⟨rfl,X,W⟩
  .rw[y j f]at G;exact .inl ⟨G,λh=>absurd h f⟩
 refine⟨⟨U,eF,Z,hos,htape,hout,hsize,λb R hn=>zV b R (λS=>hn id (by rw[hm,S])),λj b G=> ?_,by rw[em,ybp];exact ym _⟩, ?_, ?_, ?_, ?_, ?_, ?_⟩
 .rcases E j b G with⟨h,_⟩|⟨_,h,_⟩
  .exact .inl h
  .exact .inr h
 .rw[em,eH,ybp,ybp];exact ok.len
 .intro i j b hi G;rcases E i b hi with⟨l,_⟩|⟨l,z,_⟩ <;> rcases E j b G with⟨h3,_⟩|⟨h3,X,_⟩
  .exact ok.inj i j b l h3
  .have:=ok.lt i b l;omega
  .have:=ok.lt j b h3;omega
  .rw[l,h3]
 .intro i b hi;rcases E i b hi with⟨l,_⟩|⟨_,_,z⟩
  .exact Nat.lt_of_lt_of_le (ok.lt i b l) hsize
  .exact z
 .intro i e a S ha;by_cases f:i=id
  .subst f;rw[g]at ha;rw[Hself]at S;cases S;cases ha;exact hent U
  .rw[y i f]at ha;rw[Hset i f]at S;exact nA U (λb R=>hob i b f (by rw[ha,R])) (ok.dx i e a S ha)
 .intro b R;rw[Z];exact ok.new b (ybr hsize R)
 .intro i b hi;rw[Z];rcases E i b hi with⟨l,_⟩|⟨_,l,_⟩
  .exact ok.own i b l
  .exact ok.new b l
theorem Vh{J J':Sg}(ok:Ok J){mi:yO Nat}{en:aq}(eF:J'.F=J.F)(I:J'.B=J.B)(eH:J'.H=J.H++[en])(em:J'.m=J.m++[mi])
 (T:J.w.grownBy J'.w ad) (hmi:mi=ad\/∃b,mi=ab b/\J.w.heap.size<=b/\b < J'.w.heap.size) (X:cl J J'->dw J' mi en):To J J'/\Ok J':=by
 have Y:∀b,b < J.w.heap.size->J'.w.heap[b]? =J.w.heap[b]? :=λb M=>T.block b M (by simp)
 have Q:∀j a,J.m[j]? =ab a->J'.m[j]? =ab a:=λj a h=>by
  rw[em,ybd (yu.1 h).1];exact h
 have R:∀j e,J.H[j]? =ab e->J'.H[j]? =ab e:=λj a h=>by
  rw[eH,ybd (yu.1 h).1];exact h
 have l:∀j a,J'.m[j]? =ab a->J.m[j]? =ab a\/(j=J.m.length/\a=mi):=λj a h=>by
  rw[em]at h;rcases Nat.lt_or_ge j J.m.length with h1|h1
  .rw[ybd h1]at h;exact .inl h
  .rw[yas h1]at h;have S:j - J.m.length < 1:=(yu.1 h).1;have:j=J.m.length:=by omega
   subst this;simp at h;exact .inr ⟨rfl,h.symm⟩
 have Z:∀j e,J'.H[j]? =ab e->J.H[j]? =ab e\/(j=J.H.length/\e=en):=λj a h=>by
  rw[eH]at h;rcases Nat.lt_or_ge j J.H.length with h1|h1
  .rw[ybd h1]at h;exact .inl h
  .rw[yas h1]at h;have S:j - J.H.length < 1:=(yu.1 h).1;have:j=J.H.length:=by omega
   subst this;simp at h;exact .inr ⟨rfl,h.symm⟩
 have G:cl J J':=by
  refine⟨λb o v h1 g=>⟨?_, ?_, ?_⟩,λj b h1 g=> ?_,λj s len A c h1=> ?_,λj b h1 g=> ?_,λj v s st e d h1=>⟨v,st,d,R _ _ h1,ym _,λ_=>⟨?_,λb U M hc=>⟨U,(Y b (ok.lt j b M)).trans hc,rfl⟩⟩⟩⟩
  .rw[World.cell?_of_block (w:=J.w) (Y b (VE h1))];exact h1
  .rcases g.1 with h3|h3
   .exact .inl (by rw[eF];exact h3)
   .exact .inr (by rw[I];exact h3)
  .intro j e S he;rcases l j _ S with h3|⟨h3,W⟩
   .rcases Z j _ he with f|⟨f,_⟩
    .exact g.2 j e h3 f
    .have:=(yu.1 h3).1;have:=ok.len;omega
   .rcases hmi with f|⟨b',f,E,_⟩
    .rw[f]at W;cases W
    .rw[f]at W;have:=VE h1;cases W;omega
  .obtain⟨d,st,g⟩:=g;exact⟨Q _ _ h1,d,st,R _ _ g⟩
  .obtain⟨e,ys,g,h3,W⟩:=h1;refine⟨e,ys,R _ _ g,h3,λhl=> ?_⟩;rcases W hl with⟨f,E⟩|⟨b,U,f,E,h7,h8⟩
   .exact .inl ⟨Q _ _ f,E⟩
   .exact .inr ⟨b,U,Q _ _ f,E,(Y b (ok.lt j b f)).trans h7,h8⟩
  .obtain⟨d,st,g⟩:=g;exact⟨Q _ _ h1,d,st,R _ _ g⟩
  .have S:j < J.m.length:=by rw[ok.len];exact(yu.1 h1).1
   rw[em,ybd S]
 refine⟨⟨G,eF,I,T.os,T.tape,T.output,T.size,λb M _=>Y b M,λj b S=> ?_,by rw[em,yl];omega⟩, ?_, ?_, ?_, ?_, ?_, ?_⟩
 .rcases l j _ S with h|⟨_,h⟩
  .exact .inl h
  .rcases hmi with f|⟨b',f,E,_⟩
   .rw[f]at h;cases h
   .rw[f]at h;cases h;exact .inr E
 .rw[em,eH,yl,yl,ok.len];rfl
 .intro i j b hi S;rcases l i _ hi with h1|⟨h1,y⟩ <;> rcases l j _ S with g|⟨g,z⟩
  .exact ok.inj i j b h1 g
  .have:=ok.lt i b h1;rcases hmi with f|⟨b',f,E,_⟩
   .rw[f]at z;cases z
   .rw[f]at z;cases z;omega
  .have:=ok.lt j b g;rcases hmi with f|⟨b',f,E,_⟩
   .rw[f]at y;cases y
   .rw[f]at y;cases y;omega
  .rw[h1,g]
 .intro i b hi;rcases l i _ hi with h1|⟨_,h1⟩
  .exact Nat.lt_of_lt_of_le (ok.lt i b h1) T.size
  .rcases hmi with f|⟨b',f,_,E⟩
   .rw[f]at h1;cases h1
   .rw[f]at h1;cases h1;exact E
 .intro i e a he ha;rcases Z i _ he with h1|⟨h1,y⟩ <;> rcases l i _ ha with g|⟨g,z⟩
  .exact nA G (λb M=>Y b (ok.lt i b (by rw[g,M]))) (ok.dx i e a h1 g)
  .have:=(yu.1 h1).1;have:=ok.len;omega
  .have:=(yu.1 g).1;have:=ok.len;omega
  .rw[y,z];exact X G
 .intro b M;rw[I];exact ok.new b (ybr T.size M)
 .intro i b hi;rw[I];rcases l i _ hi with h1|⟨_,h1⟩
  .exact ok.own i b h1
  .rcases hmi with f|⟨b',f,E,_⟩
   .rw[f]at h1;cases h1
   .rw[f]at h1;cases h1;exact ok.new b E
end Go.Ev
end
section
namespace Go.Ev
section
variable{P:yg}{o:yj}{a:Act}{J:Sg}{ts:yL Dv}{hs hs':yL ar}{C:yL Prop}{d:Dv}
theorem lf{i:TypeInfo}(h:cq i=ae):∃z,i.zero=ab z/\z.cells.size=i.size:=by
 unfold cq at h;split at h
 .rename_i z f;exact⟨z,f,by simpa using h⟩
 .cases h
structure Src(P:yg)(w:yy)(u:yc)(size:Nat)(S:yh)(m:Nat)(zX:List yh):Prop where
 ty:(∃e',P.underlying u=ab (.slice e'))\/P.underlying u=ab .string
 len:∀w',(Builtin.lenOf S).run P w'=.ok m w'
 first:(Builtin.firstCells size m S).run P w=.ok zX.toArray w
 BK:(Builtin.firstCells size m S).run P w.drew=.ok zX.toArray w.drew
 cells:zX.length=m*size
theorem SX{w:yy}{S:Nat->Nat->Prop}{u B:yc}{s f:Nat}{xs:yL Pl}{A:yO Addr}{c:Nat}(hu:P.underlying u=ab (.slice B))(hs:f=s\/xs=[])(hsz:bc f xs)
 (E:xs≠[]->∃b o us,A=ab ⟨b,o,ad⟩/\au w S xs us/\W9 w S b o us):
 ∃zX,Src P w u s (.slice A xs.length c) xs.length zX/\au w S xs zX:=by
 rcases xs with _|⟨x,xs⟩
 .refine⟨[],⟨.inl ⟨_,hu⟩,λF=>rfl, ?_, ?_,by simp⟩,by simp[au]⟩
  .cases A <;> simp[Builtin.firstCells,loadCells,loadCellsFrom]
  .cases A <;> simp[Builtin.firstCells,loadCells,loadCellsFrom]
 .have g:f=s:=by
   rcases hs with h|h
   .exact h
   .cases h
  subst g;obtain⟨b,o,us,rfl,y,z⟩:=E (by simp);have l:us.length=(x::xs).length*f:=by rw[aO _ _ y,aR hsz]
  refine⟨us,⟨.inl ⟨_,hu⟩,λF=>rfl, ?_, ?_,l⟩,y⟩
  .exact run_firstCells_some w f _ ⟨b,o,ad⟩ _ c us l (λj v m=>by rw[Addr.bI];exact(z j v m).1)
  .exact run_firstCells_some w.drew f _ ⟨b,o,ad⟩ _ c us l (λj v m=>by rw[Addr.bI];exact(z j v m).1)
theorem Zud{w:yy}{t u ty e:yc}{i:TypeInfo}{S:yh}{zX:yL yh}(ht:P.underlying t=ab (.slice e))(hi:P.info? e=ab i)(g:Src P w u i.size S 0 zX):
 (Builtin.append_ #[t,u] ty #[.slice ad 0 0,S]).run P w=.ok (.slice ad 0 0) w:=by
 obtain⟨f,h,j,l,y⟩:=g
 rcases f with⟨m,hu⟩|hu <;>
  (simp[Builtin.append_,run_underlying ht,run_underlying hu,sizeOf,typeInfo,hi,h,j])
theorem BL{w:yy}{t u ty e z:yc}{i:TypeInfo}{S:yh}{m:Nat}{zX:yL yh}(ht:P.underlying t=ab (.slice e))(hi:P.info? e=ab i)(A:Src P w u i.size S m zX)
 (h1:∀v,v∈zX->v.oneCell'=ae) {g n cap:Nat} {cur:Array yh} (B:w.heap[g]? =ab (.cells cur z (0,0))) (f:n+m<=cap) (h:cur.size=cap*i.size):
 (Builtin.append_ #[t,u] ty #[.slice (ab ⟨g,0,ad⟩) n cap,S]).run P w=
   .ok (.slice (ab ⟨g,0,ad⟩) (n+m) cap) (w.setRow g (cur.toList.take (n*i.size)++zX++cur.toList.drop (n*i.size+zX.length)).toArray):=by
 obtain⟨y,E,F,G,I⟩:=A;have j:n*i.size+zX.length<=cur.size:=by rw[I,h, <-ybc];exact ycb _ f
 have l:=run_storeCells_at P g (n*i.size) z zX 0 cur w B (by simpa using j) h1;simp only[ych]at l
 rcases y with⟨M,hu⟩|hu <;>
  (simp[Builtin.append_,run_underlying ht,run_underlying hu,sizeOf,typeInfo,hi,E,f,F,Addr.add_lit,l])
theorem BM{w:yy}{t u ty e:yc}{i:TypeInfo}{z:yh}{S:yh}{m:Nat}{zX olds:yL yh}(ht:P.underlying t=ab (.slice e))(hi:P.info? e=ab i)(hz:i.zero=ab z)
 (F:Src P w u i.size S m zX) {A:yO Addr} {n cap:Nat} (g:(Builtin.firstCells i.size n (.slice A n cap)).run P w.drew=.ok olds.toArray w.drew) (f:cap < n+m)
 (l:n+m<=maxLen) (hb:(n+m)*i.bytes<=Zr):
 (Builtin.append_ #[t,u] ty #[.slice A n cap,S]).run P w=
   .ok (.slice (ab ⟨w.heap.size,0,ad⟩) (n+m) (grownCap w (n+m) cap e)) (w.drew.alloc (.cells (olds.toArray++zX.toArray++Builtin.zeroCells z.cells (grownCap w (n+m) cap e - (n+m))) e)):=by
 obtain⟨y,G,Q,B,R⟩:=F;have I:¬(n+m<=cap):=by omega
 have h:¬(9223372036854775807 < ((n:Int)+(m:Int))):=by
  simp only[maxLen]at l;omega
 have E:=growslice_fits (old:=cap) f (by simpa[Zr] using hb);have j:¬(281474976710656 < Builtin.nextslicecap (n+m) cap*i.bytes):=by omega
 rcases y with⟨M,hu⟩|hu <;>
  (simp[Builtin.append_,run_underlying ht,run_underlying hu,sizeOf,typeInfo,zeroValue,hi,hz,G,I,h,j,Question.forced,B,g,newRow,grownCap]
   congr 2;apply Array.ext';simp[yab])
theorem X3(w:yy)(f:Obj)(row:yO Nat):w.grownBy (w.drew.alloc f) row:=
 let h:=World.grownBy_alloc w.drew f row
 ⟨h.os,h.tape,h.output,h.size,h.block⟩
theorem qS(S:aB J ts a){s:Nat}{u Q:yc}{x:yp}{ys:yL Pl}(h:iw P s u (aC P ts Q x)=ab ys):
 ∃zX,Src P J.w u s (a.eval x) ys.length zX/\au J.w J.bh ys zX/\(ys≠[]->bc s ys):=by
 have f:=Zo (P:=P) S Q x;unfold iw at h;split at h
 .rename_i e T R U g j;split at h
  .rename_i hc;cases h;rw[j]at f;obtain⟨m,A,c,B,W,X,Y,Z,E⟩:=WD f;rw[B]
   have y:R=s\/ys=[]:=by
    rcases hc with hc|hc
    .exact .inl hc
    .exact .inr (by simpa using hc)
   obtain⟨zX,F,G⟩:=SX (P:=P) (w:=J.w) (c:=c) g y m E;refine⟨zX,F,G,λI=> ?_⟩;rcases y with hc|hc
   .exact hc ▸ m
   .exact absurd hc I
  .cases h
 .rename_i e id T R U g j;split at h
  .rename_i hc;cases h;rw[j]at f;obtain⟨m,A,c,B,W,X,Y,Z,E,_⟩:=mb f;rw[B];obtain⟨zX,F,G⟩:=SX (P:=P) (w:=J.w) (c:=c) g (.inl hc) m E;exact⟨zX,F,G,λ_=>hc ▸ m⟩
  .cases h
 .rename_i z g j;split at h
  .rename_i hc;cases h;subst hc;rw[j]at f;rw[pc f];have M:(z.data.toList.map λb=>Pl.int .u8 (b.toNat:Int)).length=z.size:=by rw[yaa,ybu];rfl
   refine⟨z.data.toList.map λb=>Value.int .u8 (b.toNat:Int),⟨.inr g,λw'=>by rw[M];rfl, ?_, ?_,by simp⟩, ?_,λ_=> ?_⟩
   .rw[M];have:=Go.Lib.run_firstCells_string (P:=P) J.w 1 z;exact this
   .rw[M];have:=Go.Lib.run_firstCells_string (P:=P) J.w.drew 1 z;exact this
   .generalize z.data.toList=l
    induction l with
    |nil=>simp[au]
    |cons b r ih=>simp only[yag,au];exact⟨[.int .u8 b.toNat],_,rfl,by simp[aA],ih⟩
   .intro q hq;obtain⟨b,_,rfl⟩:=ybx.1 hq;rfl
  .cases h
 .cases h
def nG(P:yg)(J:Sg)(s:Nat)(u:yc)(S:yh)(ys:yL Pl):Prop:=∃f,Src P J.w u s S ys.length f/\au J.w J.bh ys f/\(ys≠[]->bc s ys)
theorem uZ(ok:Ok J)(Q:aB J ts a){t u ty e:yc}{i:TypeInfo}{y:yp}{ys:yL Pl}(ht:P.underlying t=ab (.slice e))(hi:P.info? e=ab i)(hz:cq i=ae)(F:i.size≠0)
 (f:nG P J (P.cellsOf e) u (a.eval y) ys) (hb:ys.length*i.bytes<=Zr) (hm:ys.length<=maxLen):
 (ys=[]/\(Builtin.append_ #[t,u] ty #[.slice ad 0 0,a.eval y]).run P J.w=.ok (.slice ad 0 0) J.w)\/
 ∃zX yK,ys≠[]/\bc i.size ys/\au J.w J.bh ys zX/\ys.length<=grownCap J.w ys.length 0 e/\grownCap J.w ys.length 0 e<=maxLen/\
  (zX.toArray++yK:Array yh).size=grownCap J.w ys.length 0 e*i.size/\
  (Builtin.append_ #[t,u] ty #[.slice ad 0 0,a.eval y]).run P J.w=.ok (.slice (ab ⟨J.w.heap.size,0,ad⟩) ys.length (grownCap J.w ys.length 0 e)) (J.w.drew.alloc (.cells (zX.toArray++yK) e)):=by
 have j:P.cellsOf e=i.size:=by simp[Program.cellsOf,hi]
 rw[j]at f;obtain⟨zX,h,G,I⟩:=f;rcases Nat.eq_zero_or_pos ys.length with h0|h0
 .refine .inl ⟨ybh h0, ?_⟩;rw[h0]at h;exact Zud ht hi h
 .have g:ys≠[]:=by
   rintro rfl;simp at h0
  obtain⟨z,l,m⟩:=lf hz;have E:=BM (P:=P) (ty:=ty) (A:=ad) (n:=0) (cap:=0) (olds:=[]) ht hi l h (by simp[Builtin.firstCells]) (by omega) (by omega) (by simpa using hb);simp only[yax]at E;have B:=grownCap_ge J.w ys.length 0 e;refine .inr ⟨zX,Builtin.zeroCells z.cells (grownCap J.w ys.length 0 e - ys.length),g,I g,G,B,grownCap_le_maxLen J.w ys.length 0 e hm, ?_,by simpa using E⟩;have M:=h.cells;simp only[Array.size_append,List.size_toArray,size_zeroCells,m,M, <-ybc];congr 1;omega
theorem nH{J':Sg}{b:Nat}{cells:yL yh}{cs:Array yh}{t:yc}(hb:J'.w.heap[b]? =ab (.cells cs t (0,0)))(f:∀o,o < cells.length->J'.bh b o)(hp:cs.toList.take cells.length=cells):W9 J'.w J'.bh b 0 cells:=by
 intro j u g;have h:j < cells.length:=(yu.1 g).1;rw[yax];refine⟨?_,f j h⟩;rw[cell_of_row J'.w b j cs t (0,0) hb, <-ycl];rw[<-hp,yct,yW h]at g;exact g
theorem SY{J':Sg}{s:Nat}{xs:yL Pl}{b c:Nat}{cells:yL yh}{cs:Array yh}{t:yc}{nn:yO Bool}(g:iY nn (ab ⟨b,0,ad⟩))(ok:Ok J')(j:bc s xs)(l:au J'.w J'.bh xs cells)(hb:J'.w.heap[b]? =ab (.cells cs t (0,0)))
 (f:J'.B b) (h:∀(id:Nat),J'.m[id]? ≠ab (ab b)) (hp:cs.toList.take cells.length=cells) (hc:xs.length<=c) (hm:c<=maxLen):yJ J' (.p (.sl nn s xs)) (.slice (ab ⟨b,0,ad⟩) xs.length c):=
 YH j hc hm g (by simp) (λ_=>⟨b,0,cells,rfl,l,nH hb (λo _=>SE ok f h) hp⟩)
theorem nI{s:Nat}{v:yh}(h:yJ J (.p (.sl (ab af) s [])) v):v=.slice ad 0 0:=by
 obtain⟨_,A,c,rfl,_,_,f,g,_⟩:=WD h;have:A=ad:=by simpa using f af rfl
 grind
theorem Yx{x y:yp}{t u:yc}{c:Call}(ho:o.op=.call c)(hc:c.callee=.builtin .append)(g:c.args.toList=[x,y])(f:c.argTypes.toList=[t,u]){v:yh}{w':yy}
 (h:(Builtin.append_ #[t,u] o.type #[a.eval x,a.eval y]).run P J.w=.ok v w'):(execOp a.eval o).run P J.w=.ok (.value v) w':=by
 have j:c.args= #[x,y]:=by rw[<-ycf (xs:=c.args),g]
 have l:c.argTypes= #[t,u]:=by rw[<-ycf (xs:=c.argTypes),f]
 simp[execOp,ho,resolve,hc,j,l,invoke,builtin,h]
theorem nJ{x:yp}{t:yc}{c:Call}(ho:o.op=.call c)(hc:c.callee=.builtin .len)(g:c.args.toList=[x])(f:c.argTypes.toList=[t]){v:yh}
 (h:(Builtin.len_ #[t] o.type #[a.eval x]).run P J.w=.ok v J.w):(execOp a.eval o).run P J.w=.ok (.value v) J.w:=by
 have j:c.args= #[x]:=by rw[<-ycf (xs:=c.args),g]
 have l:c.argTypes= #[t]:=by rw[<-ycf (xs:=c.argTypes),f]
 simp[execOp,ho,resolve,hc,j,l,invoke,builtin,h]
theorem ZHP{x y:yp}{t u:yc}{c:Call}(ho:o.op=.call c)(hc:c.callee=.builtin .max)(g:c.args.toList=[x,y])(f:c.argTypes.toList=[t,u]){v:yh}
 (h:(Builtin.max_ #[t,u] o.type #[a.eval x,a.eval y]).run P J.w=.ok v J.w):(execOp a.eval o).run P J.w=.ok (.value v) J.w:=by
 have j:c.args= #[x,y]:=by rw[<-ycf (xs:=c.args),g]
 have l:c.argTypes= #[t,u]:=by rw[<-ycf (xs:=c.argTypes),f]
 simp[execOp,ho,resolve,hc,j,l,invoke,builtin,h]
theorem ZHQ{x y:yp}{t u:yc}{c:Call}(ho:o.op=.call c)(hc:c.callee=.builtin .min)(g:c.args.toList=[x,y])(f:c.argTypes.toList=[t,u]){v:yh}
 (h:(Builtin.min_ #[t,u] o.type #[a.eval x,a.eval y]).run P J.w=.ok v J.w):(execOp a.eval o).run P J.w=.ok (.value v) J.w:=by
 have j:c.args= #[x,y]:=by rw[<-ycf (xs:=c.args),g]
 have l:c.argTypes= #[t,u]:=by rw[<-ycf (xs:=c.argTypes),f]
 simp[execOp,ho,resolve,hc,j,l,invoke,builtin,h]
theorem BN(ok:Ok J)(id:Nat):J.m[id]? ≠ab (ab J.w.heap.size):=λh=>by
 have:=ok.lt id _ h;omega
theorem ZwC(ok:Ok J)(A:aB J ts a){c:Call}{x y:yp}{t u e:yc}{i:TypeInfo}{ys:yL Pl}(ho:o.op=.call c)(Q:c.callee=.builtin .append)(R:c.args.toList=[x,y])
 (f:c.argTypes.toList=[t,u]) (ht:P.underlying t=ab (.slice e)) {s:Nat} (B:aC P ts t x=.p (.sl (ab af) s [])) (hi:P.info? e=ab i) (hz:cq i=ae) (E:i.size≠0)
 (g:iw P (P.cellsOf e) u (aC P ts u y)=ab ys) (hb:ys.length*i.bytes<=Zr) (hm:ys.length<=maxLen):YZ P o a J (.p (.sl ad (P.cellsOf e) ys)) J.H:=by
 have j:=Zo (P:=P) A t x;rw[B]at j;have l:=nI j;have F:P.cellsOf e=i.size:=by simp[Program.cellsOf,hi]
 rcases uZ (P:=P) (ty:=o.type) ok A ht hi hz E (qS (P:=P) A g) hb hm with⟨rfl,G⟩|⟨z,S,W,T,U,I,M,X,G⟩
 .refine Zk ok (Yx ho Q R f (by rw[l];exact G)) ?_;exact YH (λ_ B=>by cases B) (ym _) (by simp[maxLen]) (Yk _) (λ_=>rfl) (λh=>absurd rfl h)
 .obtain⟨to,m⟩:=nB ok (X3 J.w (.cells (z.toArray++S) e) ad);refine ZS (J':={ J with w:=J.w.drew.alloc (.cells (z.toArray++S) e)}) (Yx ho Q R f (by rw[l];exact G)) to m ?_;rw[F];have Y:z.length=ys.length*i.size:=by rw[aO _ _ U,aR T]
  refine SY (Yk _) m T (aD to.leaf.cells _ _ U) (b:=J.w.heap.size) (cells:=z) (heap_alloc_new J.w.drew _) (ok.new _ (ym _)) (BN ok) (by simp) I M
theorem ZyO(ok:Ok J)(M:aB J ts a){c:Call}{x y:yp}{t u e:yc}{i:TypeInfo}{ys:yL Pl}(ho:o.op=.call c)(Z:c.callee=.builtin .append)(yR:c.args.toList=[x,y])
 (j:c.argTypes.toList=[t,u]) (ht:P.underlying t=ab (.slice e)) {s:Nat} (Q:aC P ts t x=.p (.sl (ab af) s [])) (hi:P.info? e=ab i) (hz:cq i=ae) (R:i.size≠0)
 (l:iw P (P.cellsOf e) u (aC P ts u y)=ab ys) (hb:ys.length*i.bytes<=Zr) (hm:ys.length<=maxLen):YZ P o a J (.own J.H.length ad i.size ys) (J.H++[.log i.size e ys]):=by
 have z:=Zo (P:=P) M t x;rw[Q]at z;have A:=nI z;rcases uZ (P:=P) (ty:=o.type) ok M ht hi hz R (qS (P:=P) M l) hb hm with⟨rfl,S⟩|⟨B,T,U,W,X,E,F,G,S⟩
 .obtain⟨to,g⟩:=Vh (J':={ J with m:=J.m++[ad],H:=J.H++[.log i.size e []]}) ok rfl rfl rfl rfl (World.grownBy.refl J.w ad) (.inl rfl) (λ_=>.inl ⟨rfl,rfl⟩);refine ZS (J':={ J with m:=J.m++[ad],H:=J.H++[.log i.size e []]}) (Yx ho Z yR j (by rw[A];exact S)) to g ?_;rw[Zj rfl];simp only[yH];refine⟨λ_ Q=>(by cases Q),ad,0,rfl,ym _,by simp[maxLen],Yk _,λ_=>rfl,λh=>absurd rfl h,e,[],by simp,ym _,λ_=>.inl ⟨?_,rfl,rfl⟩⟩;rw[yas (by rw[ok.len];exact ym _),ok.len];simp
 .let J':Sg:={ J with m:=J.m++[ab J.w.heap.size],H:=J.H++[.log i.size e ys],w:=J.w.drew.alloc (.cells (B.toArray++T) e)};have zW:B.length=ys.length*i.size:=by rw[aO _ _ X,aR W]
  have Y:J'.w.heap[J.w.heap.size]? =ab (.cells (B.toArray++T) e (0,0)):=heap_alloc_new J.w.drew _
  have f:J'.m[J.H.length]? =ab (ab J.w.heap.size):=by
   show(J.m++[ab J.w.heap.size])[J.H.length]? =_;rw[yas (by rw[ok.len];exact ym _),ok.len];simp
  obtain⟨to,g⟩:=Vh (J':=J') ok rfl rfl rfl rfl (X3 J.w (.cells (B.toArray++T) e) ad) (.inr ⟨_,rfl,ym _,by simp[J']⟩)
   (λI=>.inr ⟨J.w.heap.size,_,grownCap J.w ys.length 0 e,rfl,Y,G,E,F,W,by
     rw[<-zW];simpa using aD I.cells _ _ X⟩)
  refine ZS (J':=J') (Yx ho Z yR j (by rw[A];exact S)) to g ?_;have hemp:(!ys.isEmpty)=ae:=by cases ys <;> first|exact absurd rfl U|rfl
  rw[Zj rfl];simp only[yH]
  refine⟨W,_,_,rfl,E,F,Yk _,λh=>(by cases h),λ_=>⟨J.w.heap.size,0,B,rfl,aD to.leaf.cells _ _ X,nH Y (λo ho=>⟨.inr (ok.new _ (ym _)),λid e' h1 h2=> ?_⟩) (by simp)⟩,
   e,ys,by simp[J'],ym _,λ_=>.inr ⟨_,_,f,rfl,Y,G⟩⟩
  have:id=J.H.length:=g.inj id J.H.length _ h1 f;subst this;have h3:J'.H[J.H.length]? =ab (.log i.size e ys):=by simp[J']
  rw[h3]at h2;cases h2;show o < ys.length*i.size;omega
theorem ZyP(ok:Ok J)(yM:aB J ts a){c:Call}{x y:yp}{t u e:yc}{i:TypeInfo}{xs ys:yL Pl}{id s:Nat}{nn:yO Bool}(ho:o.op=.call c)(zL:c.callee=.builtin .append)
 (yR:c.args.toList=[x,y]) (W:c.argTypes.toList=[t,u]) (ht:P.underlying t=ab (.slice e)) (hx:aC P ts t x=.own id nn s xs) (hi:P.info? e=ab i) (hz:cq i=ae) (hs:i.size=s) (hne:s≠0)
 (hsrc:nG P J s u (a.eval y) ys) (hH:J.H[id]? =ab (.log s e xs)) (hb:(xs.length+ys.length)*i.bytes<=Zr) (hm:xs.length+ys.length<=maxLen):
 YZ P o a J (.own id ad s (xs++ys)) (J.H.set id (.log s e (xs++ys))):=by
 subst hs;have hxv:=Zo (P:=P) yM t x;rw[hx]at hxv;obtain⟨h1,A,Z,hv,h2,h3,h4,h5,h6,e0,ys0,h7,h8,h9⟩:=mb hxv;rw[hH]at h7;cases h7;have hsrc2:=hsrc;obtain⟨X,hS,hr,zU⟩:=hsrc2;obtain⟨z,hzz,hzs⟩:=lf hz;have hH':=hH;have hidlt:id < J.m.length:=by rw[ok.len];exact(yu.1 hH).1
 have E:J.m[id]? =ab J.m[id]:=yad hidlt;have hent:=ok.dx id _ _ hH E
 have Q:bc i.size (xs++ys):=by
  by_cases hy:ys=[]
  .grind
  .exact Vf h1 (zU hy)
 have hnl:X.length=ys.length*i.size:=hS.cells;have hone:∀v,v∈X->v.oneCell'=ae:=cG _ _ hr;have zW:(xs++ys).length=xs.length+ys.length:=yl;rcases h9 rfl with⟨k1,rfl,rfl⟩|⟨b,g,k1,rfl,k3,k4⟩
 . 
  have hxs:xs=[]:=by
   all_goals grind
  subst hxs;have hmn:J.m[id]=ad:=by rw[E]at k1;exact ybq k1
  skip
  skip
  rcases uZ (P:=P) (ty:=o.type) (u:=u) (y:=y) (ys:=ys) ok yM ht hi hz hne (by simpa[Program.cellsOf,hi] using hsrc) (by simpa using hb) (by simpa using hm) with⟨rfl,zB⟩|⟨F,yK,hys,U,hr2,hge,hcm,hcs,zB⟩
  .obtain⟨to,M⟩:=Xy (J':={ J with m:=J.m.set id ad,H:=J.H.set id (.log i.size e ([]++[]))}) (mi:=ad) (mi':=ad) ok hH (by rw[E,hmn]) rfl rfl rfl rfl rfl rfl rfl (ym _)
    (λ_ _ _=>rfl) (λb o v h=>by cases h) (λo _ h=>h) (.inl rfl) (λ⟨d,st,h⟩=>by cases h) (λ⟨d,st,h⟩=>by cases h) (λs e' xs h=>⟨[],by cases h;rfl,by cases h;exact ym _,λ_=>⟨rfl,λ_ _=>rfl⟩⟩) (λ_=>.inl ⟨rfl,rfl⟩)
   refine ZS (J':={ J with m:=J.m.set id ad,H:=J.H.set id (.log i.size e ([]++[]))}) (Yx ho zL yR W (by rw[hv];exact zB)) to M ?_;rw[Zj rfl];simp only[yH];exact⟨λ_ hx=>(by cases hx),ad,0,rfl,ym _,by simp[maxLen],Yk _,λ_=>rfl,λh=>absurd rfl h,e,[],an hH,ym _,λ_=>.inl ⟨an E,rfl,rfl⟩⟩
  .let J':Sg:={ J with m:=J.m.set id (ab J.w.heap.size),H:=J.H.set id (.log i.size e ([]++ys)),w:=J.w.drew.alloc (.cells (F.toArray++yK) e)};have hl2:F.length=ys.length*i.size:=by rw[aO _ _ hr2,aR U]
   have Y:J'.w.heap[J.w.heap.size]? =ab (.cells (F.toArray++yK) e (0,0)):=heap_alloc_new J.w.drew _;have hg:=X3 J.w (.cells (F.toArray++yK) e) ad;have R:∀b,b < J.w.heap.size->J'.w.heap[b]? =J.w.heap[b]? :=λb hb=>hg.block b hb (by simp);have l:J'.m[id]? =ab (ab J.w.heap.size):=an E;have B:J'.H[id]? =ab (.log i.size e ([]++ys)):=an hH
   obtain⟨to,M⟩:=Xy (J':=J') (mi:=ad) (mi':=ab J.w.heap.size) ok hH (by rw[E,hmn]) rfl rfl rfl rfl rfl rfl rfl hg.size
    (λb hb _=>R b hb) (λb o v h=>by cases h) (λo h _=>by cases h) (.inr ⟨_,rfl,ym _,by simp[J']⟩) (λ⟨d,st,h⟩=>by cases h) (λ⟨d,st,h⟩=>by cases h)
    (λs' e' xs' h=>⟨ys,by cases h;rfl,by cases h;exact Nat.zero_le _,λhh=>by
      cases h;exact absurd (ybh (by simpa using hh)) hys⟩)
    (λG=>.inr ⟨J.w.heap.size,_,grownCap J.w ys.length 0 e,rfl,Y,hcs,hge,hcm,U,by
      show au J'.w J'.bh ([]++ys) _;rw[List.nil_append, <-hl2];simpa using aD G.cells _ _ hr2⟩)
   refine ZS (J':=J') (Yx ho zL yR W (by rw[hv];exact zB)) to M ?_;have hemp:(!ys.isEmpty)=ae:=by cases ys <;> first|exact absurd rfl hys|rfl
   rw[Zj rfl];simp only[yH]
   refine⟨U,_,_,rfl,hge,hcm,Yk _,λh=>(by cases h),λ_=>⟨J.w.heap.size,0,F,rfl,aD to.leaf.cells _ _ hr2,nH Y (λo ho=>⟨.inr (ok.new _ (ym _)),λj e' g1 g2=> ?_⟩) (by simp)⟩,
    e,_,B,ym _,λ_=>.inr ⟨_,_,l,rfl,Y,hcs⟩⟩
   have:j=id:=M.inj j id _ g1 l;subst this;rw[B]at g2;cases g2;show o < ([]++ys).length*i.size;grind
 .have hmb:J.m[id]=ab b:=by rw[E]at k1;exact ybq k1
  rcases hent with⟨h,_⟩|⟨b',cur',cap,h,g3,g4,g5,g6,g7,g8⟩
  .grind
  .rw[hmb]at h;cases h;rw[k3]at g3;cases g3
   have hcap:Z=cap:=by
    have:Z*i.size=cap*i.size:=by rw[<-k4, <-g4]
    exact Nat.eq_of_mul_eq_mul_right (Nat.pos_of_ne_zero hne) this
   subst hcap;have hus:(g.toList.take (xs.length*i.size)).length=xs.length*i.size:=by rw[aO _ _ g8,aR h1]
   skip
   skip
   by_cases S:xs.length+ys.length<=Z
   . 
    have zB:=BL (P:=P) (ty:=o.type) ht hi hS hone k3 S g4;let f:Array yh:=(g.toList.take (xs.length*i.size)++X++g.toList.drop (xs.length*i.size+X.length)).toArray;let J':Sg:={ J with m:=J.m.set id (ab b),H:=J.H.set id (.log i.size e (xs++ys)),w:=J.w.setRow b f};have hfit:xs.length*i.size+X.length<=g.size:=by rw[hnl,g4, <-ybc];exact ycb _ S
    have T:f.size=Z*i.size:=by
     grind
    have Y:J'.w.heap[b]? =ab (.cells f e (0,0)):=setRow_heap J.w b g _ e _ k3;have hoth:∀j,b≠j->J'.w.heap[j]? =J.w.heap[j]? :=λj hj=>setRow_other J.w b j _ (Ne.symm hj);have l:J'.m[id]? =ab (ab b):=an E;have B:J'.H[id]? =ab (.log i.size e (xs++ys)):=an hH
    have hpre:∀o,o < xs.length*i.size->f[o]? =g[o]? :=by
     grind
    have hcl:(g.toList.take (xs.length*i.size)++X).length=(xs++ys).length*i.size:=by
     grind
    have htk:f.toList.take ((xs++ys).length*i.size)=g.toList.take (xs.length*i.size)++X:=by
     grind
    have hbl:ys.length=0->f=g:=by
     intro h0;have:X=[]:=ybh (by rw[hnl,h0];simp);grind
    obtain⟨to,M⟩:=Xy (J':=J') (mi:=ab b) (mi':=ab b) ok hH (by rw[E,hmb]) rfl rfl rfl rfl rfl rfl rfl (by simp[J'])
     (λj hj hne=>hoth j (λhh=>hne (by rw[hh]))) (λb' o v hb' hu I=>by
       cases hb';rw[cell_of_row J.w b o g e (0,0) k3]at I;show(J.w.setRow b f).cell? ⟨b,o,ad⟩=ab v;rw[cell_of_row _ b o f e (0,0) Y,hpre o hu];exact I)
     (λo _ hu=>by
       have hu':o < xs.length*i.size:=hu;show o < (xs++ys).length*i.size;rw[zW,ybc];omega) (.inl rfl) (λ⟨d,st,h⟩=>by cases h) (λ⟨d,st,h⟩=>by cases h)
     (λs' e' xs' h=>⟨xs++ys,by cases h;rfl,by cases h;simp,λhh=>by
       cases h;refine⟨rfl,λj _=> ?_⟩;have h0:ys.length=0:=by rw[zW]at hh;omega
       by_cases hj:b=j
       .subst hj;rw[Y,k3,hbl h0]
       .exact hoth j hj⟩)
     (λG=>.inr ⟨b,f,Z,rfl,Y,T,by rw[zW];exact S,h3,Q,by
       rw[htk];exact Ym (aD G.cells _ _ g8) (aD G.cells _ _ hr)⟩)
    refine ZS (J':=J') (Yx ho zL yR W (by rw[hv];exact zB)) to M ?_;rw[Zj rfl];simp only[yH,Bool.true_or]
    refine⟨Q,ab ⟨b,0,ad⟩,Z,by rw[zW],by rw[zW];exact S,h3,Yk _,λh=>(by cases h),λ_=>⟨b,0,g.toList.take (xs.length*i.size)++X,rfl,
     Ym (aD to.leaf.cells _ _ g8) (aD to.leaf.cells _ _ hr),nH Y (λo ho=> ?_) ?_⟩,e,_,B,ym _,λ_=>.inr ⟨b,f,l,rfl,Y,T⟩⟩
    .refine⟨.inr (ok.own id b k1),λj e' g1 g2=> ?_⟩;have:j=id:=M.inj j id _ g1 l;subst this;rw[B]at g2;cases g2;show o < (xs++ys).length*i.size;grind
    grind
   . 
    have hgr:Z < xs.length+ys.length:=by omega
    have hold:(Builtin.firstCells i.size xs.length (.slice (ab ⟨b,0,ad⟩) xs.length Z)).run P J.w.drew=.ok (g.toList.take (xs.length*i.size)).toArray J.w.drew:=
     run_firstCells_some J.w.drew i.size _ ⟨b,0,ad⟩ _ Z _ hus (λj v hj=>by
      rw[Addr.bI,yax];show J.w.cell? ⟨b,j,ad⟩=ab v
      have hj2:j < xs.length*i.size:=by
       grind
      rw[cell_of_row J.w b j g e (0,0) k3];rw[yct,yW hj2]at hj;simpa using hj)
    have zB:=BM (P:=P) (ty:=o.type) ht hi hzz hS hold hgr hm hb;have hge:=grownCap_ge J.w (xs.length+ys.length) Z e;have hcm:=grownCap_le_maxLen J.w (xs.length+ys.length) Z e hm;let q:Nat:=grownCap J.w (xs.length+ys.length) Z e;let yK:Array yh:=Builtin.zeroCells z.cells (q - (xs.length+ys.length));let f:Array yh:=(g.toList.take (xs.length*i.size)).toArray++X.toArray++yK;let J':Sg:={ J with m:=J.m.set id (ab J.w.heap.size),H:=J.H.set id (.log i.size e (xs++ys)),w:=J.w.drew.alloc (.cells f e)}
    have hcl:(g.toList.take (xs.length*i.size)++X).length=(xs++ys).length*i.size:=by
     grind
    have T:f.size=q*i.size:=by
     simp only[f,yK,Array.size_append,List.size_toArray,size_zeroCells,hzs,hus,hnl, <-ybc];congr 1;omega
    have htk:f.toList.take ((xs++ys).length*i.size)=g.toList.take (xs.length*i.size)++X:=by
     grind
    have Y:J'.w.heap[J.w.heap.size]? =ab (.cells f e (0,0)):=heap_alloc_new J.w.drew _;have hg:=X3 J.w (.cells f e) ad;have R:∀b,b < J.w.heap.size->J'.w.heap[b]? =J.w.heap[b]? :=λb hb=>hg.block b hb (by simp);have l:J'.m[id]? =ab (ab J.w.heap.size):=an E;have B:J'.H[id]? =ab (.log i.size e (xs++ys)):=an hH
    obtain⟨to,M⟩:=Xy (J':=J') (mi:=ab b) (mi':=ab J.w.heap.size) ok hH (by rw[E,hmb]) rfl rfl rfl rfl rfl rfl rfl hg.size
     (λb hb _=>R b hb) (λb' o v hb' _ I=>by
       rw[World.cell?_of_block (w:=J.w) (R b' (VE I))];exact I)
     (λo h _=>by
       have:=ok.lt id b k1;cases h;omega) (.inr ⟨_,rfl,ym _,by simp[J']⟩) (λ⟨d,st,h⟩=>by cases h) (λ⟨d,st,h⟩=>by cases h)
     (λs' e' xs' h=>⟨xs++ys,by cases h;rfl,by cases h;simp,λhh=>by
       cases h;rw[zW]at hh;omega⟩)
     (λG=>.inr ⟨J.w.heap.size,f,q,rfl,Y,T,by rw[zW];exact hge,hcm,Q,by
       rw[htk];exact Ym (aD G.cells _ _ g8) (aD G.cells _ _ hr)⟩)
    refine ZS (J':=J') (Yx ho zL yR W (by rw[hv];exact zB)) to M ?_;rw[Zj rfl];simp only[yH,Bool.true_or]
    refine⟨Q,ab ⟨J.w.heap.size,0,ad⟩,q,by rw[zW],by rw[zW];exact hge,hcm,Yk _,λh=>(by cases h),λ_=>⟨J.w.heap.size,0,g.toList.take (xs.length*i.size)++X,rfl,
     Ym (aD to.leaf.cells _ _ g8) (aD to.leaf.cells _ _ hr),nH Y (λo ho=> ?_) ?_⟩,e,_,B,ym _,λ_=>.inr ⟨_,f,l,rfl,Y,T⟩⟩
    .refine⟨.inr (ok.new _ (ym _)),λj e' g1 g2=> ?_⟩;have:j=id:=M.inj j id _ g1 l;subst this;rw[B]at g2;cases g2;show o < (xs++ys).length*i.size;grind
    grind
theorem qT{t:yc}{len:Nat}{parts:Array (Nat×yp)}(ho:o.op=.buildSlice t len parts){v:yh}{w':yy}
 (h:(Instr.buildSlice t len (parts.map λq=>(q.1,a.eval q.2))).run P J.w=.ok v w'):(execOp a.eval o).run P J.w=.ok (.value v) w':=by
 simp[execOp,ho,h]
theorem qU(l:aB J ts a){t e:yc}{i:TypeInfo}{len:Nat}{parts:Array (Nat×yp)}{xs:yL Pl}(hu:P.underlying t=ab (.slice e))(hi:P.info? e=ab i)(hz:cq i=ae)
 (hsz:len*i.size<=16777216) (hl:Wc P ts e (P.cellsOf e) len parts.toList=ab xs):
 ∃cells:Array yh,(Instr.buildSlice t len (parts.map λq=>(q.1,a.eval q.2))).run P J.w=.ok (.slice (ab ⟨J.w.heap.size,0,ad⟩) len len) (J.w.alloc (.cells cells e))/\
  au J.w J.bh xs cells.toList/\xs.length=len/\bc i.size xs/\cells.size=len*i.size:=by
 have f:P.cellsOf e=i.size:=by simp[Program.cellsOf,hi]
 rw[f]at hl
 obtain⟨cells,m,g,h,j⟩:=Zuc (P:=P) (t:=t) (parts:=parts.map λq=>(q.1,a.eval q.2)) (Q:=λcells=>au J.w J.bh xs cells.toList/\xs.length=len/\bc i.size xs) J.w hu hi hz hsz (λZ y=>by
  obtain⟨cells,z,A⟩:=ZGb (P:=P) l hl Z y;exact⟨cells,by rw[Array.toList_map];exact z,A⟩)
 exact⟨cells,m,g,h,j,by rw[<-ybu,aO _ _ g,aR j,h]⟩
theorem SZ(ok:Ok J)(l:aB J ts a){t e:yc}{i:TypeInfo}{len:Nat}{parts:Array (Nat×yp)}{xs:yL Pl}(ho:o.op=.buildSlice t len parts)(hu:P.underlying t=ab (.slice e))
 (hi:P.info? e=ab i) (hz:cq i=ae) (g:i.size≠0) (hsz:len*i.size<=16777216) (hl:Wc P ts e (P.cellsOf e) len parts.toList=ab xs):YZ P o a J (.p (.sl (ab ae) i.size xs)) J.H:=by
 obtain⟨cells,m,y,j,z,A⟩:=qU (P:=P) l hu hi hz hsz hl;obtain⟨to,f⟩:=nB ok (World.grownBy_alloc J.w (.cells cells e) ad)
 have h:len<=maxLen:=by
  have:=Nat.le_mul_of_pos_right len (Nat.pos_of_ne_zero g);simp only[maxLen];omega
 refine ZS (J':={ J with w:=J.w.alloc (.cells cells e)}) (qT ho m) to f ?_;rw[<-j];exact SY (kR rfl) f z (aD to.leaf.cells _ _ y) (b:=J.w.heap.size) (heap_alloc_new J.w _) (ok.new _ (ym _)) (BN ok) (ycj (ym _)) (ym _) (by rw[j];exact h)
theorem ZGc(ok:Ok J)(M:aB J ts a){t e:yc}{i:TypeInfo}{len:Nat}{parts:Array (Nat×yp)}{xs:yL Pl}(ho:o.op=.buildSlice t len parts)(hu:P.underlying t=ab (.slice e))
 (hi:P.info? e=ab i) (hz:cq i=ae) (A:i.size≠0) (hsz:len*i.size<=16777216) (hl:Wc P ts e (P.cellsOf e) len parts.toList=ab xs):
 YZ P o a J (.own J.H.length (ab ae) i.size xs) (J.H++[.log i.size e xs]):=by
 obtain⟨cells,Q,F,z,G,g⟩:=qU (P:=P) M hu hi hz hsz hl
 have j:len<=maxLen:=by
  have:=Nat.le_mul_of_pos_right len (Nat.pos_of_ne_zero A);simp only[maxLen];omega
 let J':Sg:={ J with m:=J.m++[ab J.w.heap.size],H:=J.H++[.log i.size e xs],w:=J.w.alloc (.cells cells e)};have B:J'.w.heap[J.w.heap.size]? =ab (.cells cells e (0,0)):=heap_alloc_new J.w _
 have f:J'.m[J.H.length]? =ab (ab J.w.heap.size):=by
  show(J.m++[ab J.w.heap.size])[J.H.length]? =_;rw[yas (by rw[ok.len];exact ym _),ok.len];simp
 have E:cells.toList.take (xs.length*i.size)=cells.toList:=ycj (by rw[z, <-g];simp)
 obtain⟨to,l⟩:=Vh (J':=J') ok rfl rfl rfl rfl (World.grownBy_alloc J.w (.cells cells e) ad) (.inr ⟨_,rfl,ym _,by simp[J']⟩)
  (λy=>.inr ⟨J.w.heap.size,cells,len,rfl,B,g,by rw[z];exact ym _,j,G,by rw[E];exact aD y.cells _ _ F⟩)
 refine ZS (J':=J') (qT ho Q) to l ?_;rw[Zj rfl];simp only[yH]
 refine⟨G,ab ⟨J.w.heap.size,0,ad⟩,len,by rw[z],by rw[z];exact ym _,j,kR rfl,λh=>(by cases h),λ_=>⟨J.w.heap.size,0,cells.toList,rfl,aD to.leaf.cells _ _ F,nH B (λR S=>⟨.inr (ok.new _ (ym _)),λid W T I=> ?_⟩) (ycj (ym _))⟩,
  e,xs,by simp[J'],ym _,λ_=>.inr ⟨_,cells,f,rfl,B,g⟩⟩
 have:id=J.H.length:=l.inj id J.H.length _ T f;subst this;have U:J'.H[J.H.length]? =ab (.log i.size e xs):=by simp[J']
 rw[U]at I;cases I;show R < xs.length*i.size;grind
theorem TA(ok:Ok J){t:yc}{dd:Dv}{v:yh}{st:Bool}(g:dd.bG=ae)(z:yJ J dd v)(A:(execOp a.eval o).run P J.w=.ok (.value (.pointer (ab ⟨J.w.heap.size,0,ad⟩))) (J.w.alloc (.cells v.cells t))):
 YZ P o a J (.aj J.H.length 0 []) (J.H++[.var dd st]):=by
 have f:=V7 g z;let J':Sg:={ J with m:=J.m++[ab J.w.heap.size],H:=J.H++[.var dd st],w:=J.w.alloc (.cells v.cells t)};have B:J'.w.heap[J.w.heap.size]? =ab (.cells v.cells t (0,0)):=heap_alloc_new J.w _;have h:=X2 _ _ f
 have l:J'.m[J.H.length]? =ab (ab J.w.heap.size):=by
  show(J.m++[ab J.w.heap.size])[J.H.length]? =_;rw[yas (by rw[ok.len];exact ym _),ok.len];simp
 obtain⟨to,y⟩:=Vh (J':=J') ok rfl rfl rfl rfl (World.grownBy_alloc J.w (.cells v.cells t) ad) (.inr ⟨_,rfl,ym _,by simp[J']⟩)
  (λj=>⟨J.w.heap.size,v.cells,t,rfl,B,by rw[<-h,ycj (ym _)];exact Yb j dd _ f,by rw[<-h];simp⟩)
 refine ZS (J':=J') A to y ?_;rw[Zj rfl];simp only[yH];grind
theorem ZNn(ok:Ok J){t:yc}{dd:Dv}{v:yh}{st:Bool}{id:Nat}(hid:J.H[id]? =ab .gone)(g:dd.bG=ae)(M:yJ J dd v)(Q:(execOp a.eval o).run P J.w=.ok (.value (.pointer (ab ⟨J.w.heap.size,0,ad⟩))) (J.w.alloc (.cells v.cells t))):
 YZ P o a J (.aj id 0 []) (J.H.set id (.var dd st)):=by
 have f:=V7 g M;have E:id < J.m.length:=by rw[ok.len];exact(yu.1 hid).1
 have z:J.m[id]? =ab J.m[id]:=yad E;let J':Sg:={ J with m:=J.m.set id (ab J.w.heap.size),H:=J.H.set id (.var dd st),w:=J.w.alloc (.cells v.cells t)};have R:J'.w.heap[J.w.heap.size]? =ab (.cells v.cells t (0,0)):=heap_alloc_new J.w _;have F:=World.grownBy_alloc J.w (.cells v.cells t) ad;have l:=X2 _ _ f;have G:J'.m[id]? =ab (ab J.w.heap.size):=an z;have A:J'.H[id]? =ab (.var dd st):=an hid
 obtain⟨to,I⟩:=Xy (J':=J') (mi:=J.m[id]) (mi':=ab J.w.heap.size) ok hid z rfl rfl rfl rfl rfl rfl rfl F.size
  (λj B _=>F.block j B (by simp)) (λb o v S _ T=>by
    have B:=ok.lt id b (by rw[z,S]);rw[World.cell?_of_block (w:=J.w) (F.block b B (by simp))];exact T) (λo U W=>by
    have B:=ok.lt id _ (by rw[z, <-U]);omega) (.inr ⟨_,rfl,ym _,by simp[J']⟩) (λ⟨d,st,h⟩=>by cases h) (λ⟨d,st,h⟩=>by cases h) (λs e X h=>by cases h)
  (λy=>⟨J.w.heap.size,v.cells,t,rfl,R,by rw[<-l,ycj (ym _)];exact Yb y dd _ f,by rw[<-l];simp⟩)
  (λv s st e d h=>by cases h)
 refine ZS (J':=J') Q to I ?_;rw[Zj rfl];simp only[yH];grind
theorem va(ok:Ok J){t:yc}{i:TypeInfo}{id:Nat}(hid:J.H[id]? =ab .gone)(ho:o.op=.alloc t)(hi:P.info? t=ab i)(hz:i.zero.isSome=ae)(j:fS P t (bf P t)=ae)(g:(bf P t).bG=ae):
 YZ P o a J (.aj id 0 []) (J.H.set id (.var (bf P t) ae)):=by
 cases f:i.zero with
 |none=>simp[f]at hz
 |some z=>
  have h:yJ J (bf P t) z:=by
   unfold bf;rw[hi];simp only[f];exact nw
  refine ZNn (v:=z) (t:=t) ok hid g h ?_;simp[execOp,ho,Instr.alloc,zeroValue,typeInfo,hi,f,newVar,newRow]
theorem ZK6(ok:Ok J){t:yc}{i:TypeInfo}(ho:o.op=.alloc t)(hi:P.info? t=ab i)(hz:i.zero.isSome=ae)(j:fS P t (bf P t)=ae)(g:(bf P t).bG=ae):
 YZ P o a J (.aj J.H.length 0 []) (J.H++[.var (bf P t) ae]):=by
 cases f:i.zero with
 |none=>simp[f]at hz
 |some z=>
  have h:yJ J (bf P t) z:=by
   unfold bf;rw[hi];simp only[f];exact nw
  refine TA (v:=z) (t:=t) ok g h ?_;simp[execOp,ho,Instr.alloc,zeroValue,typeInfo,hi,f,newVar,newRow]
theorem ZPd(ok:Ok J){t:yc}{x:yp}{dd:Dv}(ho:o.op=.box t x)(f:dd.bG=ae)(g:yJ J dd (a.eval x)):YZ P o a J (.aj J.H.length 0 []) (J.H++[.var dd ae]):=by
 refine TA (v:=a.eval x) (t:=t) ok f g ?_;simp[execOp,ho,Instr.box,newVar,newRow]
theorem pm{J:Sg}:∀(yQ:yL Nat)(dd:Dv)(hs hs':yL ar)(C:yL Prop)(off:Nat)(sub:Dv)(us:yL yh),Z9 dd yQ hs=ab (C,off,sub,hs')->aZ C->yH J dd us->
 ∃x y z,us=x++(y++z)/\x.length=off/\yH J sub y
 |[],dd,hs,hs',C,off,sub,us,h,A,f=>by
  simp only[Z9,yo,yq]at h;obtain⟨rfl,rfl,rfl,rfl⟩:=h
  exact⟨[],us,[],by simp,rfl,f⟩
 |i::yQ,dd,hs,hs',C,off,sub,us,h,A,f=>by
  cases dd with
  |p q=>
   cases q with
   |agg W=>
    simp only[Z9]at h;split at h
    .rename_i x l;simp only[yv,yq]at h;obtain⟨⟨C1,g,j,m⟩,B,rfl,rfl,rfl,rfl⟩:=h;simp only[yH,aA]at f;obtain⟨E,F,G,rfl,I,M,_⟩:=kW f l;obtain⟨Q,R,S,rfl,T,U⟩:=pm yQ (.p x) _ _ _ _ _ F B A (by simpa[yH] using M);exact⟨E++Q,R,S++G,by simp,by rw[yl,I,T],U⟩
    .cases h
   |arr n s W=>
    simp only[Z9]at h;split at h
    .rename_i y m;simp only[yv,yq]at h;obtain⟨⟨C1,g,j,m⟩,B,rfl,rfl,rfl,rfl⟩:=h;obtain⟨l,A⟩:=A;simp only[yH,aA]at f;obtain⟨Z,X,f⟩:=f;obtain⟨E,F,G,rfl,I,M,_⟩:=kW f l;obtain⟨Q,R,S,rfl,T,U⟩:=pm yQ (.p y) _ _ _ _ _ F B A (by simpa[yH] using M);have Y:i < W.length:=(yu.1 l).1;exact⟨E++Q,R,S++G,by simp,by rw[yl,I,T,aR (Qc X i),yac,ybb (Nat.le_of_lt Y)],U⟩
    .cases h
   |_=>simp[Z9]at h
  |agg W=>
   simp only[Z9]at h;split at h
   .rename_i x l;simp only[yv,yq]at h;obtain⟨⟨C1,g,j,m⟩,B,rfl,rfl,rfl,rfl⟩:=h;simp only[yH]at f;obtain⟨E,F,G,rfl,I,M,_⟩:=mc f l;obtain⟨Q,R,S,rfl,T,U⟩:=pm yQ x _ _ _ _ _ F B A M;exact⟨E++Q,R,S++G,by simp,by rw[yl,I,T],U⟩
   .cases h
  |arr n s W=>
   simp only[Z9]at h;split at h
   .rename_i x l;simp only[yv,yq]at h;obtain⟨⟨C1,g,j,m⟩,B,rfl,rfl,rfl,rfl⟩:=h;simp only[yH]at f;obtain⟨Z,X,f⟩:=f;obtain⟨E,F,G,rfl,I,M,_⟩:=mc f l;obtain⟨Q,R,S,rfl,T,U⟩:=pm yQ x _ _ _ _ _ F B A M;have Y:i < W.length:=(yu.1 l).1;exact⟨E++Q,R,S++G,by simp,by rw[yl,I,T,cU (λy hy=>X y (ybw hy)),yac,ybb (Nat.le_of_lt Y)],U⟩
   .cases h
  |_=>simp[Z9]at h
theorem vb(ok:Ok J){id off:Nat}{yQ:yL Nat}{dd sub:Dv}{st:Bool}{b:Nat}{C:yL Prop}{off':Nat}(hm:J.m[id]? =ab (ab b))(hH:J.H[id]? =ab (.var dd st))(A:Z9 dd yQ hs=ab (C,off',sub,hs'))(hc:aZ C)(he:off'=off):
 ∃cs t x y z,J.w.heap[b]? =ab (.cells cs t (0,0))/\dd.size<=cs.size/\cs.toList.take dd.size=x++(y++z)/\x.length=off/\yH J sub y/\yH J dd (cs.toList.take dd.size)/\
  (∀(j:Nat)(u:yh),y[j]? =ab u->J.w.cell? ⟨b,off+j,ad⟩=ab u):=by
 obtain⟨M,cs,t,B,f,g,E⟩:=ok.dx id _ _ hH hm;cases B;obtain⟨x,y,z,h,l,F⟩:=pm yQ dd hs hs' C off' sub _ A hc g;subst he;refine⟨cs,t,x,y,z,f,E,h,l,F,g,λj u G=> ?_⟩;rw[cell_of_row J.w b _ cs t (0,0) f, <-ycl, <-l];have Q:j < y.length:=(yu.1 G).1
 have I:x.length+j < dd.size:=by
  have:=congrArg List.length h;grind
 have R:(cs.toList.take dd.size)[x.length+j]? =ab u:=by
  grind
 grind
theorem TB{d:Dv}{s N:Nat}(h:aS d s=ab N):d.size=N*s:=by
 unfold aS at h;split at h
 .split at h
  .rename_i e;cases h;rw[e];rfl
  .cases h
 .split at h
  .rename_i e;cases h;rw[e];rfl
  .cases h
 .cases h
theorem ZGd(ok:Ok J){id off v s N:Nat}{yQ:yL Nat}{dd sub:Dv}{st:Bool}{e:yc}{b:Nat}{C:yL Prop}{off':Nat}(hm:J.m[id]? =ab (ab b))(hH:J.H[id]? =ab (.row v s st e dd))(B:aS dd s=ab N)
 (Q:Z9 dd yQ hs=ab (C,off',sub,hs')) (hc:aZ C) (he:off'=off):
 ∃cs cap x y z,J.w.heap[b]? =ab (.cells cs e (0,0))/\cs.size=cap*s/\N<=cap/\cap<=maxLen/\dd.size<=cs.size/\cs.toList.take dd.size=x++(y++z)/\x.length=off/\yH J sub y/\yH J dd (cs.toList.take dd.size)/\
  (∀(j:Nat)(u:yh),y[j]? =ab u->J.w.cell? ⟨b,off+j,ad⟩=ab u):=by
 obtain⟨N',f,h⟩:=ok.dx id _ _ hH hm;rw[B]at f;cases f;rcases h with⟨h,_⟩|⟨X,cs,cap,R,E,F,G,S,l⟩
 .cases h
 cases R;have g:=TB B;rw[<-g]at l;have A:dd.size<=cs.size:=by rw[g,F];exact ycb _ G
 obtain⟨x,y,z,I,M,T⟩:=pm yQ dd hs hs' C off' sub _ Q hc l;subst he;refine⟨cs,cap,x,y,z,E,F,G,S,A,I,M,T,l,λj u U=> ?_⟩;rw[cell_of_row J.w b _ cs e (0,0) E, <-ycl, <-M];have Y:j < y.length:=(yu.1 U).1
 have W:x.length+j < dd.size:=by
  have:=congrArg List.length I;grind
 have Z:(cs.toList.take dd.size)[x.length+j]? =ab u:=by
  grind
 grind
theorem ZK7(ok:Ok J){id v s b:Nat}{st:Bool}{e:yc}{dd:Dv}(hm:J.m[id]? =ab (ab b))(hH:J.H[id]? =ab (.row v s st e dd)):∃N,aS dd s=ab N:=by
 obtain⟨N',f,_⟩:=ok.dx id _ _ hH hm;grind
theorem TC{id v off f s:Nat}{yQ:yL Nat}{st:Bool}{e:yc}{dd:Dv}{u:yh}(g:yJ J (.ba id v off yQ) u)(hH:J.H[id]? =ab (.row f s st e dd))(hv:f=v):∃b,u=.pointer (ab ⟨b,off,ad⟩)/\J.m[id]? =ab (ab b):=by
 obtain⟨b,j,l,y,z,h,A,d2,B,E,F⟩:=uU g;grind
theorem ZNo(ok:Ok J)(W:aB J ts a){t:yc}{x:yp}(ho:o.op=.load t x)(h:bH P o ts J.H hs=ab (C,d,hs'))(hc:aZ C):YZ P o a J d J.H:=by
 simp only[bH,ho]at h;have f:=Zo (P:=P) W 0 x;split at h
 .rename_i id off X A;rw[A]at f;split at h
  .rename_i Y st m;split at h
   .rename_i C1 y sub B E;split at h
    .rename_i g;cases h;unfold fS at g;simp only[yi,yT]at g;obtain⟨⟨⟨F,G⟩,I⟩,M⟩:=g;obtain⟨j,l⟩:=Zm.1 hc;obtain⟨b,z,U,f⟩:=lc f;obtain⟨Z,t',p1,p2,p3,_,_,_,_,Q,_,R⟩:=vb ok z m E j l.1;obtain⟨v,S,T⟩:=uP (P:=P) Q R F M I G;exact Zk ok (by simp[execOp,ho,f,Instr.loadAt,Instr.sureAddr,S]) T
    .cases h
   .cases h
  .cases h
 .rename_i id v off X A;rw[A]at f;split at h
  .rename_i v' s' st e Y m;split at h
   .rename_i C1 y sub B E;split at h
    .rename_i g;cases h;unfold fS at g;simp only[yi,yT]at g;obtain⟨⟨⟨⟨F,G⟩,I⟩,M⟩,U⟩:=g;obtain⟨j,l⟩:=Zm.1 hc;obtain⟨b,f,z⟩:=TC f m U;obtain⟨N,hN⟩:=ZK7 ok z m;obtain⟨Z,cap,p1,p2,p3,_,_,_,_,_,_,_,Q,_,R⟩:=ZGd ok z m hN E j l.1;obtain⟨v,S,T⟩:=uP (P:=P) Q R F M I G;exact Zk ok (by simp[execOp,ho,f,Instr.loadAt,Instr.sureAddr,S]) T
    .cases h
   .cases h
  .cases h
 .cases h
end
end Go.Ev
end
