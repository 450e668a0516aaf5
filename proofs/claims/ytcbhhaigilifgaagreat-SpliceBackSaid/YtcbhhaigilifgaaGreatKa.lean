/- Parts of the proof, in one file. -/
import Derived.WalkKit
import Derived.Lib.Bytealg
import Derived.Maps.AppendAt
import Derived.Lib.AppendStr
import Derived.Laws.Externs
import Derived.KernelRfl
import Derived.Lib.SlBytesRow
import Derived.Lib.BufferRead
import Derived.Lib.ConvBytes
import Derived.Lib.BytesEntry
import Derived.ChangeKeysEq
import Derived.Laws.StructEq
import Derived.MapKept
import Derived.WideKeyRuns
import Derived.Scope
import Derived.Test.YtcbhhaigilifgaaGreatProg
import Derived.Lib.Walk
import Derived.Lib.SliceRun
import Derived.Lib.AppendZerosOnto
import Derived.Lib.Overlaps
import Derived.Laws.CopyRow
import Derived.Shelf.RegionOpenPlain
import Derived.Below
import Derived.ChangeSame
import Derived.ChangeCalls
import Derived.ChangeStays
import Derived.OpenShut
import Derived.ProofKit
import Derived.JoinedCond
import Derived.RangeFuncOwn
import Derived.RangeFuncLeaves
import Derived.RangeFuncRecord
import Derived.TacticsIn
import Derived.OwnWalkIn
import Derived.OrdersIn
import Derived.Shelf.Abstract
import Derived.Laws.NewBlocks
import Derived.Test.YtcbhhaigilifgaaGreatRows
open Option renaming some → ab, none → ad
open Bool renaming true → ae, false → af
open Decidable renaming decide → ag
abbrev yL.{u}(α:Type u):=List α
abbrev yO.{u}(α:Type u):=Option α
abbrev yU:=UInt64
abbrev yB:=UInt8
abbrev yV:=UInt32
theorem zP:True:=trivial
theorem yW.{u}{c:Prop}{h:Decidable c}(hc:c){α:Sort u}{t e:α}:(ite c t e)=t:=if_pos hc
theorem yX.{u}{c:Prop}{h:Decidable c}(hc:¬c){α:Sort u}{t e:α}:(ite c t e)=e:=if_neg hc
theorem yY{p:Prop}[f:Decidable p](h:p):decide p=ae:=decide_eq_true h
theorem yZ{p:Prop}[f:Decidable p](h:¬p):decide p=af:=decide_eq_false h
theorem yP{p:Prop}[Decidable p]:(decide p=ae)=p:=decide_eq_true_eq
theorem yN{p:Prop}[Decidable p]:decide p=ae↔p:=decide_eq_true_iff
theorem yT.{u}{α:Type u}[BEq α][LawfulBEq α]{a b:α}:(a==b)=ae↔a=b:=beq_iff_eq
theorem yE.{u}{α:Type u}[BEq α][LawfulBEq α]{a b:α}:(a != b)=ae↔a≠b:=bne_iff_ne
theorem yF{p:Prop}[f:Decidable p](h:decide p=ae):p:=of_decide_eq_true h
open Array renaming length_toList → yax, getElem?_toList → yby, toArray_toList → ycf
open BitVec renaming ofInt → yca
open Bool renaming and_eq_true → yi
open Go renaming TypeId → yc, Program → yg, Value → yh, Oper → yj, Operand → yp, World → yr, FuncId → yw
open List renaming length_append → ym, range → yo, getElem?_eq_some_iff → yu, replicate → yx, length_take → yaa, getElem?_eq_getElem → yab, append_assoc → yac, length_map → yad, cons_append → yaf, length_cons → yag, map_cons → yah, getElem?_cons_succ → yak, all_eq_true → yal, getElem?_cons_zero → yam, getElem?_map → yao, getElem?_append_right → yaq, mem_cons_self → yav, mem_cons_of_mem → yaw, mem_singleton → yba, take_append_drop → ybc, getElem?_append_left → ybe, eq_nil_of_length_eq_zero → ybi, ext_getElem? → ybp, mem_of_mem_take → ybr, length_set → ybu, mem_map → ybw, getElem?_set → ybx, take_of_length_le → ycc, getElem?_take → ycd, mem_append → ycm
open Nat renaming le_refl → yl, zero_add → yar, min_eq_left → yay, add_mul → ybb, le_trans → ybt, mul_le_mul_right → ycb
open Option renaming bind_eq_some_iff → yf, map_eq_some_iff → yv
open Option.some renaming injEq → yn, inj → ybl
open Prod.mk renaming injEq → yq
set_option linter.unusedVariables false
set_option linter.unusedSimpArgs false
namespace Go.Ev
abbrev dg:yL yB:=[0,0,0,0,0,0,0,0,0,0,0,0,0,0,0,0,0,0,0,0,0,0,0,0,0,0,0,0,0,0,0,0]
theorem dn {c:Prop} [Decidable c] (h:¬c):¬decide c=ae:=by simpa using h
theorem aB:True:=trivial
end Go.Ev
section
namespace Go.Ev
inductive Pl where
 |int (k:IntKind) (n:Int)
 |bool (b:Bool)
 |str (s:ByteArray)
 |bW|fn0|eE|cB
 |gq (f:yw)
 |agg (xs:List Pl)
 |arr (n s:Nat) (xs:List Pl)
 |sl (nn:Option Bool) (s:Nat) (xs:List Pl)
 |iface (t:yc) (x:Pl)
 deriving Inhabited
mutual
def Pl.size:Pl->Nat
 |.agg f=>Pl.sizes f
 |.arr n s _=>n*s
 |_=>1
def Pl.sizes:yL Pl->Nat
 |[]=>0
 |x::r=>x.size+Pl.sizes r
end
def Pl.isAgg:Pl->Bool
 |.agg _=>ae
 |.arr _ _ _=>ae
 |_=>af
def aW(s:Nat)(xs:yL Pl):Prop:=∀x,x∈xs->x.size=s
def iY(nn:yO Bool)(A:yO Addr):Prop:=∀b,nn=ab b->A.isSome=b
theorem Yg(A:yO Addr):iY ad A:=λb h=>by cases h
theorem Qy{A:yO Addr}(h:A.isSome=ae):iY (ab ae) A:=λb e=>by cases e;exact h
theorem PV{A:yO Addr}(h:A=ad):iY (ab af) A:=λb e=>by cases e;rw[h];rfl
def Wn(w:yr)(S:Nat->Nat->Prop)(b o:Nat)(us:yL yh):Prop:=
 ∀j u,us[j]? =ab u->w.cell? ⟨b,o+j,ad⟩=ab u/\S b (o+j)
mutual
def aA(w:yr)(S:Nat->Nat->Prop):Pl->yL yh->Prop
 |.int k n,vs=>vs=[.int k n]
 |.bool b,vs=>vs=[.bool b]
 |.str s,vs=>vs=[.string s]
 |.bW,vs=>vs=[.pointer ad]
 |.fn0,vs=>vs=[.nilFunc]
 |.eE,vs=>vs=[.nilIface]
 |.cB,vs=>vs=[.map ad]
 |.gq f,vs=>vs=[.func (.func f) #[] #[]]
 |.agg g,vs=>ar w S g vs
 |.arr n s g,vs=>g.length=n/\aW s g/\ar w S g vs
 |.sl l s g,vs=>aW s g/\∃A c,vs=[.slice A g.length c]/\g.length<=c/\c<=maxLen/\iY l A/\(A=ad->c=0)/\
   (g≠[]->∃b o h,A=ab ⟨b,o,ad⟩/\ar w S g h/\Wn w S b o h)
 |.iface t x,vs=>∃v,vs=[.iface t v]/\(x.isAgg=ae->∃j:Array yh,v=.agg j/\aA w S x j.toList)/\(x.isAgg=af->aA w S x [v])
def ar(w:yr)(S:Nat->Nat->Prop):yL Pl->yL yh->Prop
 |[],vs=>vs=[]
 |x::h,vs=>∃g f,vs=g++f/\aA w S x g/\ar w S h f
end
mutual
def Pl.soft:Pl->Pl
 |.agg f=>.agg (Pl.cR f)
 |.arr n s f=>.arr n s (Pl.cR f)
 |.sl _ s f=>.sl ad s f
 |.iface t x=>.iface t (Pl.soft x)
 |x=>x
def Pl.cR:yL Pl->yL Pl
 |[]=>[]
 |x::r=>x.soft::Pl.cR r
end
inductive Dv where
 |p (x:Pl)
 |elem (x:Pl)
 |ak (id off:Nat) (yQ:List Nat)
 |own (id:Nat) (nn:Option Bool) (s:Nat) (xs:List Pl)
 |view (id off:Nat) (yQ:List Nat) (s lo n:Nat)
 |agg (xs:List Dv)
 |arr (n s:Nat) (xs:List Dv)
 |fn (f:yw) (cap:List Dv)
 |iface (t:yc) (x:Dv)
 |bm (xs:List Dv)
 |mp (id:Nat)
 |rv (id v s lo n:Nat)
 |aZ (id v off:Nat) (yQ:List Nat)
 |an
 deriving Inhabited
mutual
def Dv.size:Dv->Nat
 |.p x=>x.size
 |.agg f=>Dv.sizes f
 |.arr n s _=>n*s
 |_=>1
def Dv.sizes:yL Dv->Nat
 |[]=>0
 |x::r=>x.size+Dv.sizes r
end
def Dv.isAgg:Dv->Bool
 |.p x=>x.isAgg
 |.agg _=>ae
 |.arr _ _ _=>ae
 |_=>af
inductive aq where
 |var (d:Dv) (st:Bool)
 |log (s:Nat) (e:yc) (xs:List Pl)
 |map (t:yc) (bR:List (Pl×Pl))
 |row (v s:Nat) (st:Bool) (e:yc) (d:Dv)
 |gone
 deriving Inhabited
structure Sg where
 F:Nat->Nat->Prop
 B:Nat->Prop
 m:List (Option Nat)
 H:List aq
 w:yr
def aR:Dv->Nat->yO Nat
 |.p (.arr n f _),s=>if f=s then ab n else ad
 |.arr n f _,s=>if f=s then ab n else ad
 |_,_=>ad
def aq.bv:aq->Nat->Prop
 |.var _ st,_=>st=af
 |.log s _ f,o=>o < f.length*s
 |.map _ _,_=>False
 |.row _ s st _ d,o=>st=af/\∃N,aR d s=ab N/\o < N*s
 |.gone,_=>True
def Sg.be(J:Sg)(b o:Nat):Prop:=
 (J.F b o\/J.B b)/\∀(id:Nat)(e:aq),J.m[id]? =ab (ab b)->J.H[id]? =ab e->e.bv o
def di(J:Sg)(id s:Nat)(len:Nat)(A:yO Addr)(c:Nat):Prop:=
 ∃e g,J.H[id]? =ab (.log s e g)/\len<=g.length/\(g.length=len->
  (J.m[id]? =ab ad/\A=ad/\c=0)\/
  ∃b f,J.m[id]? =ab (ab b)/\A=ab ⟨b,0,ad⟩/\J.w.heap[b]? =ab (.cells f e (0,0))/\f.size=c*s)
def rowAt(J:Sg)(id v s lo:Nat)(A:yO Addr)(c:Nat):Prop:=
 ∃g h st e d,J.H[id]? =ab (.row g h st e d)/\v<=g/\(g=v->h=s/\
  ((J.m[id]? =ab ad/\A=ad/\lo+c=0)\/∃b f,J.m[id]? =ab (ab b)/\J.w.heap[b]? =ab (.cells f e (0,0))/\f.size=(lo+c)*s/\(0 < c->A=ab ⟨b,lo*s,ad⟩)))
def rowIs(J:Sg)(id v b o off:Nat):Prop:=∃f s st e d,J.H[id]? =ab (.row f s st e d)/\v<=f/\(f=v->J.m[id]? =ab (ab b)/\o=off)
def big:Nat:=4294967296
def fP(f:yw):yw:=if f < big then f else f - big
mutual
def yH(J:Sg):Dv->yL yh->Prop
 |.p x,vs=>aA J.w J.be x vs
 |.elem x,vs=>∃b o j,vs=[.pointer (ab ⟨b,o,ad⟩)]/\aA J.w J.be x j/\Wn J.w J.be b o j
 |.ak id off _,vs=>∃b,J.m[id]? =ab (ab b)/\(∃d st,J.H[id]? =ab (.var d st))/\vs=[.pointer (ab ⟨b,off,ad⟩)]
 |.own id z s g,vs=>aW s g/\∃A c,vs=[.slice A g.length c]/\g.length<=c/\c<=maxLen/\iY z A/\(A=ad->c=0)/\
   (g≠[]->∃b o j,A=ab ⟨b,o,ad⟩/\ar J.w J.be g j/\Wn J.w J.be b o j)/\di J id s g.length A c
 |.view id off _ s lo n,vs=>∃b c a,J.m[id]? =ab (ab b)/\(∃d st,J.H[id]? =ab (.var d st))/\vs=[.slice (ab a) n c]/\n<=c/\c<=maxLen/\
   (0 < n->a=⟨b,off+lo*s,ad⟩)
 |.agg g,vs=>aM J g vs
 |.arr n s g,vs=>g.length=n/\(∀x,x∈g->x.size=s)/\aM J g vs
 |.fn f l,vs=>∃y h,vs=[.func (.func (fP f)) y h]/\(if f < big then y else h)= #[]/\aH J l (y++h).toList
 |.iface t x,vs=>∃v,vs=[.iface t v]/\(x.isAgg=ae->∃h:Array yh,v=.agg h/\yH J x h.toList)/\(x.isAgg=af->yH J x [v])
 |.bm g,vs=>∃h,vs=[.tuple h]/\aH J g h.toList
 |.mp id,vs=>∃b,J.m[id]? =ab (ab b)/\(∃t bR,J.H[id]? =ab (.map t bR))/\vs=[.map (ab b)]
 |.rv id v s lo n,vs=>∃A c,vs=[.slice A n c]/\n<=c/\c<=maxLen/\(A=ad->c=0)/\(0 < n->∃b o,A=ab ⟨b,o,ad⟩)/\rowAt J id v s lo A c
 |.aZ id v off _,vs=>∃b o,vs=[.pointer (ab ⟨b,o,ad⟩)]/\rowIs J id v b o off
 |.an,vs=>vs.length=1
def aM(J:Sg):yL Dv->yL yh->Prop
 |[],vs=>vs=[]
 |x::h,vs=>∃g f,vs=g++f/\yH J x g/\aM J h f
def aH(J:Sg):yL Dv->yL yh->Prop
 |[],vs=>vs=[]
 |x::h,vs=>∃v f,vs=v::f/\((x.isAgg=ae->∃g:Array yh,v=.agg g/\yH J x g.toList)/\(x.isAgg=af->yH J x [v]))/\aH J h f
end
def yJ(J:Sg)(d:Dv)(v:yh):Prop:=
 (d.isAgg=ae->∃f:Array yh,v=.agg f/\yH J d f.toList)/\(d.isAgg=af->yH J d [v])
theorem Wn.mono{w w':yr}{S S':Nat->Nat->Prop}(h:∀(b o:Nat)(v:yh),w.cell? ⟨b,o,ad⟩=ab v->S b o->w'.cell? ⟨b,o,ad⟩=ab v/\S' b o)
 {b o:Nat} {us:yL yh} (hc:Wn w S b o us):Wn w' S' b o us:=
 λj u f=>let ⟨g,l⟩:=hc j u f;h _ _ _ g l
mutual
theorem lS{w w':yr}{S S':Nat->Nat->Prop}(h:∀(b o:Nat)(v:yh),w.cell? ⟨b,o,ad⟩=ab v->S b o->w'.cell? ⟨b,o,ad⟩=ab v/\S' b o):∀(x:Pl)(vs:yL yh),aA w S x vs->aA w' S' x vs
 |.int _ _,_,f=>by simpa[aA] using f
 |.bool _,_,f=>by simpa[aA] using f
 |.str _,_,f=>by simpa[aA] using f
 |.bW,_,f=>by simpa[aA] using f
 |.fn0,_,f=>by simpa[aA] using f
 |.eE,_,f=>by simpa[aA] using f
 |.cB,_,f=>by simpa[aA] using f
 |.gq _,_,f=>by simpa[aA] using f
 |.agg g,vs,f=>by
  simp only[aA]at f ⊢
  exact aD h g vs f
 |.arr n s g,vs,f=>by
  simp only[aA]at f ⊢
  exact⟨f.1,f.2.1,aD h g vs f.2.2⟩
 |.sl W s g,vs,f=>by
  simp only[aA]at f ⊢;obtain⟨j,A,c,l,m,I,M,Q,R⟩:=f;refine⟨j,A,c,l,m,I,M,Q,λy=> ?_⟩;obtain⟨b,o,G,z,E,T⟩:=R y
  exact⟨b,o,G,z,aD h g G E,T.mono h⟩
 |.iface t x,vs,f=>by
  simp only[aA]at f ⊢;obtain⟨v,j,l,m⟩:=f;refine⟨v,j,λF=> ?_,λF=>lS h x _ (m F)⟩;obtain⟨U,z,E⟩:=l F;exact⟨U,z,lS h x _ E⟩
theorem aD{w w':yr}{S S':Nat->Nat->Prop}(h:∀(b o:Nat)(v:yh),w.cell? ⟨b,o,ad⟩=ab v->S b o->w'.cell? ⟨b,o,ad⟩=ab v/\S' b o):∀(xs:yL Pl)(vs:yL yh),ar w S xs vs->ar w' S' xs vs
 |[],_,g=>by simpa[ar] using g
 |x::xs,vs,g=>by
  simp only[ar]at g ⊢;obtain⟨j,f,l,m,y⟩:=g;exact⟨j,f,l,lS h x j m,aD h xs f y⟩
end
structure ck(J J':Sg):Prop where
 cells:∀(b o:Nat)(v:yh),J.w.cell? ⟨b,o,ad⟩=ab v->J.be b o->J'.w.cell? ⟨b,o,ad⟩=ab v/\J'.be b o
 var:∀(id b:Nat),J.m[id]? =ab (ab b)->(∃d st,J.H[id]? =ab (.var d st))->J'.m[id]? =ab (ab b)/\∃d st,J'.H[id]? =ab (.var d st)
 front:∀(id s len:Nat)(A:Option Addr)(c:Nat),di J id s len A c->di J' id s len A c
 map:∀(id b:Nat),J.m[id]? =ab (ab b)->(∃t bR,J.H[id]? =ab (.map t bR))->J'.m[id]? =ab (ab b)/\∃t bR,J'.H[id]? =ab (.map t bR)
 row:∀(id v s:Nat)(st:Bool)(e:yc)(d:Dv),J.H[id]? =ab (.row v s st e d)->∃v' st' d',J'.H[id]? =ab (.row v' s st' e d')/\v<=v'/\(v'=v->J'.m[id]? =J.m[id]? /\
  ∀b cur,J.m[id]? =ab (ab b)->J.w.heap[b]? =ab (.cells cur e (0,0))->∃cur',J'.w.heap[b]? =ab (.cells cur' e (0,0))/\cur'.size=cur.size)
theorem ck.refl(J:Sg):ck J J:=⟨λ_ _ _ a b=>⟨a,b⟩,λ_ _ a b=>⟨a,b⟩,λ_ _ _ _ _ a=>a,λ_ _ a b=>⟨a,b⟩,λ_ v _ st _ d h=>⟨v,st,d,h,yl _,λ_=>⟨rfl,λb f _ g=>⟨f,g,rfl⟩⟩⟩⟩
theorem ck.trans{a b c:Sg}(h:ck a b)(k:ck b c):ck a c:=
 ⟨λx o v f g=>let ⟨j,m⟩:=h.cells x o v f g;k.cells x o v j m,λi x f g=>let ⟨j,m⟩:=h.var i x f g;k.var i x j m,
  λi s l A M f=>k.front i s l A M (h.front i s l A M f),λi x f g=>let ⟨j,m⟩:=h.map i x f g;k.map i x j m,
  λi v s st e d f=>by
   obtain⟨E,F,d2,T,U,W⟩:=h.row i v s st e d f;obtain⟨Q,G,d3,X,Y,Z⟩:=k.row i E s F e d2 T;refine⟨Q,G,d3,X,ybt U Y,λhv=> ?_⟩;have e1:E=v:=by omega
   have e2:Q=E:=by omega
   obtain⟨R,p2⟩:=W e1;obtain⟨q1,q2⟩:=Z e2;refine⟨q1.trans R,λb I S hc=> ?_⟩;obtain⟨y,r1,r2⟩:=p2 b I S hc;obtain⟨z,r3,r4⟩:=q2 b y (by rw[R];exact S) r1;exact⟨z,r3,by rw[r4,r2]⟩⟩
theorem Zzd{J J':Sg}(h:ck J J'){id v s lo:Nat}{A:yO Addr}{c:Nat}:rowAt J id v s lo A c->rowAt J' id v s lo A c:=by
 rintro⟨y,F,st,e,d,G,I,M⟩;obtain⟨z,j,d2,Q,R,S⟩:=h.row _ _ _ _ _ _ G;refine⟨z,F,j,e,d2,Q,ybt I R,λhv=> ?_⟩;have T:y=v:=by omega
 have U:z=y:=by omega
 obtain⟨E,W⟩:=S U;obtain⟨X,Y⟩:=M T;refine⟨X, ?_⟩;rcases Y with⟨g,l⟩|⟨b,m,g,l,Z,a4⟩
 .exact .inl ⟨by rw[E,g],l⟩
 .obtain⟨f,b1,b2⟩:=W b m g l;exact .inr ⟨b,f,by rw[E,g],b1,by rw[b2,Z],a4⟩
theorem Zze{J J':Sg}(h:ck J J'){id v b o off:Nat}:rowIs J id v b o off->rowIs J' id v b o off:=by
 rintro⟨g,l,st,e,d,m,y,z⟩;obtain⟨j,f,d2,A,E,F⟩:=h.row _ _ _ _ _ _ m;refine⟨j,l,f,e,d2,A,ybt y E,λM=> ?_⟩;have G:g=v:=by omega
 have I:j=g:=by omega
 rw[(F I).1];exact z G
mutual
theorem Z9{J J':Sg}(h:ck J J'):∀(d:Dv)(vs:yL yh),yH J d vs->yH J' d vs
 |.p x,vs,g=>by
  simp only[yH]at g ⊢
  exact lS h.cells x vs g
 |.elem x,vs,g=>by
  simp only[yH]at g ⊢;obtain⟨b,o,z,j,l,m⟩:=g
  exact⟨b,o,z,j,lS h.cells x z l,m.mono h.cells⟩
 |.ak id off U,vs,g=>by
  simp only[yH]at g ⊢;obtain⟨b,j,l,m⟩:=g
  exact⟨b,(h.var id b j l).1,(h.var id b j l).2,m⟩
 |.own id nn s y,vs,g=>by
  simp only[yH]at g ⊢;obtain⟨j,A,c,l,m,F,G,I,W,X⟩:=g;refine⟨j,A,c,l,m,F,G,I,λM=> ?_,h.front _ _ _ _ _ X⟩;obtain⟨b,o,z,Q,R,Y⟩:=W M
  exact⟨b,o,z,Q,aD h.cells y z R,Y.mono h.cells⟩
 |.view id off U s lo n,vs,g=>by
  simp only[yH]at g ⊢;obtain⟨b,c,a,j,l,m⟩:=g
  exact⟨b,c,a,(h.var id b j l).1,(h.var id b j l).2,m⟩
 |.agg y,vs,g=>by
  simp only[yH]at g ⊢
  exact dY h y vs g
 |.arr n s y,vs,g=>by
  simp only[yH]at g ⊢
  exact⟨g.1,g.2.1,dY h y vs g.2.2⟩
 |.fn f S,vs,g=>by
  simp only[yH]at g ⊢;obtain⟨Z,E,j,h0,l⟩:=g
  exact⟨Z,E,j,h0,cX h S _ l⟩
 |.iface t x,vs,g=>by
  simp only[yH]at g ⊢;obtain⟨v,j,l,m⟩:=g;refine⟨v,j,λT=> ?_,λT=>Z9 h x _ (m T)⟩;obtain⟨E,Q,R⟩:=l T
  exact⟨E,Q,Z9 h x _ R⟩
 |.bm y,vs,g=>by
  simp only[yH]at g ⊢;obtain⟨E,j,l⟩:=g
  exact⟨E,j,cX h y _ l⟩
 |.mp id,vs,g=>by
  simp only[yH]at g ⊢;obtain⟨b,j,l,m⟩:=g
  exact⟨b,(h.map id b j l).1,(h.map id b j l).2,m⟩
 |.rv id v s lo n,vs,g=>by
  simp only[yH]at g ⊢;obtain⟨A,c,j,l,m,F,G,I⟩:=g
  exact⟨A,c,j,l,m,F,G,Zzd h I⟩
 |.aZ id v off U,vs,g=>by
  simp only[yH]at g ⊢;obtain⟨b,o,j,l⟩:=g
  exact⟨b,o,j,Zze h l⟩
 |.an,_,g=>by simpa[yH] using g
theorem dY{J J':Sg}(h:ck J J'):∀(j:yL Dv)(vs:yL yh),aM J j vs->aM J' j vs
 |[],_,g=>by simpa[aM] using g
 |x::m,vs,g=>by
  simp only[aM]at g ⊢;obtain⟨l,f,y,z,A⟩:=g;exact⟨l,f,y,Z9 h x l z,dY h m f A⟩
theorem cX{J J':Sg}(h:ck J J'):∀(l:yL Dv)(vs:yL yh),aH J l vs->aH J' l vs
 |[],_,g=>by simpa[aH] using g
 |x::m,vs,g=>by
  simp only[aH]at g ⊢;obtain⟨v,f,y,⟨z,A⟩,E⟩:=g;refine⟨v,f,y,⟨λj=> ?_,λj=>Z9 h x _ (A j)⟩,cX h m f E⟩;obtain⟨F,G,I⟩:=z j;exact⟨F,G,Z9 h x _ I⟩
end
theorem Vb{J J':Sg}(h:ck J J'){d:Dv}{v:yh}(g:yJ J d v):yJ J' d v:=by
 obtain⟨j,l⟩:=g;refine⟨λf=> ?_,λf=>Z9 h d _ (l f)⟩;obtain⟨m,y,z⟩:=j f;exact⟨m,y,Z9 h d _ z⟩
def iA(J:Sg):yL (Pl×Pl)->yL MapEntry->Prop
 |[],[]=>True
 |q::r,e::f=>yJ J (.p q.1) e.key/\yJ J (.p q.2) e.val/\iA J r f
 |_,_=>False
def kl(J:Sg)(bR:yL (Pl×Pl))(es:yL MapEntry):Prop:=∃l,l.Perm bR/\(bR.map (·.1)).Nodup/\iA J l es
def na(es:Array MapEntry)(f:Nat):Prop:=
 (∀(q:Nat)g,es[q]? =ab g->g.born < f)/\∀(q j:Nat)g h,es[q]? =ab g->es[j]? =ab h->g.born=h.born->q=j
def dG(J:Sg)(a:yO Nat):aq->Prop
 |.var d _=>∃b l t,a=ab b/\J.w.heap[b]? =ab (.cells l t (0,0))/\yH J d (l.toList.take d.size)/\d.size<=l.size
 |.log s e j=>(a=ad/\j=[])\/
   ∃b f g,a=ab b/\J.w.heap[b]? =ab (.cells f e (0,0))/\f.size=g*s/\j.length<=g/\g<=maxLen/\aW s j/\
    ar J.w J.be j (f.toList.take (j.length*s))
 |.map _ bR=>∃b m h,a=ab b/\J.w.heap[b]? =ab (.map m h)/\kl J bR m.toList/\na m h
 |.row _ s _ e d=>∃N,aR d s=ab N/\((a=ad/\N=0)\/
   ∃b f g,a=ab b/\J.w.heap[b]? =ab (.cells f e (0,0))/\f.size=g*s/\N<=g/\g<=maxLen/\yH J d (f.toList.take (N*s)))
 |.gone=>True
structure Ok(J:Sg):Prop where
 len:J.m.length=J.H.length
 inj:∀(i j b:Nat),J.m[i]? =ab (ab b)->J.m[j]? =ab (ab b)->i=j
 lt:∀(i b:Nat),J.m[i]? =ab (ab b)->b < J.w.heap.size
 dD:∀(i:Nat)(e:aq)(a:Option Nat),J.H[i]? =ab e->J.m[i]? =ab a->dG J a e
 new:∀(b:Nat),J.w.heap.size<=b->J.B b
 own:∀(i b:Nat),J.m[i]? =ab (ab b)->J.B b
structure To(J J':Sg):Prop where
 leaf:ck J J'
 F:J'.F=J.F
 B:J'.B=J.B
 os:J'.w.os=J.w.os
 tape:J'.w.tape=J.w.tape
 output:J'.w.output=J.w.output
 size:J.w.heap.size<=J'.w.heap.size
 block:∀(b:Nat),b < J.w.heap.size->(∀(id:Nat),J.m[id]? ≠ab (ab b))->J'.w.heap[b]? =J.w.heap[b]?
 same:∀(id b:Nat),J'.m[id]? =ab (ab b)->J.m[id]? =ab (ab b)\/J.w.heap.size<=b
 len:J.m.length<=J'.m.length
theorem To.refl(J:Sg):To J J:=⟨ck.refl J,rfl,rfl,rfl,rfl,rfl,yl _,λ_ _ _=>rfl,λ_ _ h=>.inl h,yl _⟩
theorem To.trans{a b c:Sg}(h:To a b)(k:To b c):To a c where
 leaf:=h.leaf.trans k.leaf
 F:=k.F.trans h.F
 B:=k.B.trans h.B
 os:=k.os.trans h.os
 tape:=k.tape.trans h.tape
 output:=k.output.trans h.output
 size:=ybt h.size k.size
 block x hx hn:=(k.block x (Nat.lt_of_lt_of_le hx h.size) (λid he=>by
  rcases h.same id x he with h1|h1
  .exact hn id h1
  .omega)).trans (h.block x hx hn)
 same id x hx:=by
  rcases k.same id x hx with h1|h1
  .exact h.same id x h1
  .exact .inr (ybt h.size h1)
 len:=ybt h.len k.len
def ca(P:yg)(f:yw)(args:yL Dv)(H:yL aq)(r:Dv)(H':yL aq):Prop:=
 ∀(J:Sg)(vs:yL yh),Ok J->J.H=H->aH J args vs->
  Calls P f vs.toArray J.w λe g=>∃v J',e=.returned v/\J'.w=g/\J'.H=H'/\To J J'/\Ok J'/\yJ J' r v
structure aC(J:Sg)(ts:List Dv)(a:Act):Prop where
 size:a.tmps.size=ts.length
 at_:∀(i:Nat)(d:Dv),ts[i]? =ab d->yJ J d (a.tmps.getD i undef)
 defers:a.defers=[]
theorem aC.to{J J':Sg}{ts:yL Dv}{a:Act}(h:aC J ts a)(k:ck J J'):aC J' ts a:=
 ⟨h.size,λi d f=>Vb k (h.at_ i d f),h.defers⟩
inductive Ex where
 |normal
 |exit (id:Nat)
 |ret
 deriving DecidableEq,Inhabited
def Ex.to:Ex->Exit
 |.normal=>.normal
 |.exit id=>.exit id
 |.ret=>.ret
def Xn(P:yg)(c:Code)(ts:yL Dv)(H:yL aq)(ex:Ex)(ts':yL Dv)(H':yL aq):Prop:=
 ∀(J:Sg)(a:Act),Ok J->J.H=H->aC J ts a->
  c.wp P (λe f g=>e=ex.to/\∃J',J'.w=g/\J'.H=H'/\To J J'/\Ok J'/\aC J' ts' f) a J.w
inductive ao where
 |b (t:Bool)
 |el (x:Pl)
 |bare
 |raw
 |call (r:Dv) (H':List aq) (ids:List Nat)
 |sub (t:Nat) (d:Dv)
 |own
 |iB
 |bR (l:List (Pl×Pl))
 |arr
 |eC
 |fresh (dst:Nat)
 |jr (dst:Nat)
 |still (dst:Nat)
 |cq (yQ:List Nat) (s:Nat) (e:yc)
 |loop (mask:List Nat) (ex:Ex) (ts':List Dv) (H':List aq)
 |iC (g:yw)
 deriving Inhabited
def oI(P:yg)(t:yc)(h:String)(g:yw):Prop:=
 ∀(v:yh)(f:Array yh)(w:yr),(callMethod (.iface t v) h f).run P w=(callFunc g (#[v]++f)).run P w
def Wa(k:IntKind)(x:Int):Prop:=k.min<=x/\x<=k.max
def ZJy(P:yg)(t:yc):Nat:=
 match P.underlying t with
 |some (.slice e)=>P.cellsOf e
 |_=>0
def Xt(P:yg)(t:yc):Bool:=
 match P.underlying t with
 |some (.struct _)=>ae
 |some (.array _ _)=>ae
 |_=>af
def um(P:yg)(t:yc):yh->yO Pl
 |.int k n=>ab (.int k n)
 |.bool b=>ab (.bool b)
 |.string s=>ab (.str s)
 |.pointer ad=>ab .bW
 |.nilFunc=>ab .fn0
 |.nilIface=>ab .eE
 |.map ad=>ab .cB
 |.slice ad 0 0=>ab (.sl (ab af) (ZJy P t) [])
 |_=>ad
mutual
def oJ(P:yg):Nat->yc->yL yh->yO (Pl×yL yh)
 |0,_,_=>ad
 |yD+1,t,vs=>
  match P.underlying t with
  |some (.struct f)=>(dj P yD (f.toList.map (·.type)) vs).map λr=>(.agg r.1,r.2)
  |some (.array n e)=>(fQ P yD e n vs).map λr=>(.arr n (P.cellsOf e) r.1,r.2)
  |some _=>match vs with
   |v::r=>(um P t v).map λx=>(x,r)
   |[]=>ad
  |none=>ad
def dj(P:yg):Nat->yL yc->yL yh->yO (yL Pl×yL yh)
 |0,_,_=>ad
 |_+1,[],vs=>ab ([],vs)
 |yD+1,t::ts,vs=>
  match oJ P yD t vs with
  |some (x,r)=>(dj P yD ts r).map λq=>(x::q.1,q.2)
  |none=>ad
def fQ(P:yg):Nat->yc->Nat->yL yh->yO (yL Pl×yL yh)
 |0,_,_,_=>ad
 |_+1,_,0,vs=>ab ([],vs)
 |yD+1,e,n+1,vs=>
  match oJ P yD e vs with
  |some (x,r)=>if x.size=P.cellsOf e then(fQ P yD e n r).map λq=>(x::q.1,q.2) else ad
  |none=>ad
end
def oK(P:yg)(t:yc):yh->Dv
 |.agg j=>match oJ P 1000 t j.toList with
  |some (x,[])=>if x.isAgg then .p x else .an
  |_=>.an
 |.func (.func f) g h=>if g.size=0/\h.size=0/\f < big then .fn f [] else .an
 |v=>match um P t v with
  |some x=>.p x
  |none=>.an
def aF(P:yg)(ts:yL Dv)(t:yc):yp->Dv
 |.tmp i=>ts.getD i .an
 |.const v=>oK P t v
 |.global _=>.an
 |.func f=>if f < big then .fn f [] else .an
mutual
def Dv.bF:Dv->Bool
 |.bm _=>af
 |.an=>af
 |.agg f=>Dv.dZ f
 |.arr _ _ f=>Dv.dZ f
 |_=>ae
def Dv.dZ:yL Dv->Bool
 |[]=>ae
 |x::r=>x.bF&&Dv.dZ r
end
mutual
def Dv.rn(f:Nat->yO Nat):Dv->yO Dv
 |.p x=>ab (.p x)
 |.elem x=>ab (.elem x)
 |.ak id off j=>(f id).map λi=>.ak i off j
 |.own id m s h=>(f id).map λi=>.own i m s h
 |.view id off j s lo n=>(f id).map λi=>.view i off j s lo n
 |.agg h=>(Dv.bB f h).map .agg
 |.arr n s h=>(Dv.bB f h).map (.arr n s)
 |.fn g l=>(Dv.bB f l).map (.fn g)
 |.iface t x=>(Dv.rn f x).map (.iface t)
 |.bm h=>(Dv.bB f h).map .bm
 |.mp id=>(f id).map .mp
 |.rv id v s lo n=>(f id).map λi=>.rv i v s lo n
 |.aZ id v off j=>(f id).map λi=>.aZ i v off j
 |.an=>ab .an
def Dv.bB(f:Nat->yO Nat):yL Dv->yO (yL Dv)
 |[]=>ab []
 |x::r=>match Dv.rn f x,Dv.bB f r with
  |some y,ab g=>ab (y::g)
  |_,_=>ad
end
def aq.rn(f:Nat->yO Nat):aq->yO aq
 |.var d st=>(d.rn f).map λg=>.var g st
 |.log s e h=>ab (.log s e h)
 |.map t bR=>ab (.map t bR)
 |.row v s st e d=>(d.rn f).map λg=>.row v s st e g
 |.gone=>ab .gone
def aq.bB(f:Nat->yO Nat):yL aq->yO (yL aq)
 |[]=>ab []
 |x::r=>match aq.rn f x,aq.bB f r with
  |some y,ab g=>ab (y::g)
  |_,_=>ad
def Dv.plain:Dv->yO Pl
 |.p x=>ab x
 |.own _ f s g=>ab (.sl f s g)
 |_=>ad
mutual
def Dv.flat:Dv->yO Pl
 |.p x=>ab x
 |.own _ f s g=>ab (.sl f s g)
 |.agg h=>(Dv.aS h).map .agg
 |_=>ad
def Dv.aS:yL Dv->yO (yL Pl)
 |[]=>ab []
 |d::r=>match d.flat,Dv.aS r with
  |some x,ab f=>ab (x::f)
  |_,_=>ad
end
mutual
def Dv.owns(ids:yL Nat):Dv->Bool
 |.own id _ _ _=>ids.contains id
 |.agg f=>Dv.dH ids f
 |_=>af
def Dv.dH(ids:yL Nat):yL Dv->Bool
 |[]=>af
 |d::r=>d.owns ids || Dv.dH ids r
end
def Dv.dI(f:yL Dv):Dv:=
 match Dv.aS f with
 |some g=>.p (.agg g)
 |none=>.agg f
def jt:yL Dv->yO (yL Pl)
 |[]=>ab []
 |d::r=>match d.plain,jt r with
  |some x,ab f=>ab (x::f)
  |_,_=>ad
def qm(f:yL Dv):Dv:=
 match jt f with
 |some g=>.p (.agg g)
 |none=>.agg f
abbrev nc:=yO (yL Prop×Dv×yL ao)
abbrev uo:=yO (yL Prop×Dv×yL aq×yL ao)
def gr(k:IntKind)(x:Int):yL ao->nc
 |.bare::hs=>ab ([Wa k x],.p (.int k x),hs)
 |.raw::hs=>ab ([],.p (.int k (k.wrap x)),hs)
 |_=>ad
def up(op:BinOp)(a b:Nat):yO Nat:=
 match op with
 |.and=>ab (a&&&b)
 |.or=>ab (a|||b)
 |.xor=>ab (a^^^b)
 |_=>ad
def YP(op:BinOp)(k:IntKind)(x y:Int)(hs:yL ao):nc:=
 match op with
 |.add=>gr k (x+y) hs
 |.sub=>gr k (x - y) hs
 |.mul=>gr k (x*y) hs
 |.quo=>match hs with
  |.bare::hs'=>ab ([0<=x,0 < y,Wa k (x / y)],.p (.int k (x / y)),hs')
  |.raw::hs'=>ab ([y≠0],.p (.int k (k.wrap (x.tdiv y))),hs')
  |_=>ad
 |.rem=>match hs with
  |.bare::hs'=>ab ([0<=x,0 < y],.p (.int k (x % y)),hs')
  |.raw::hs'=>ab ([y≠0],.p (.int k (x.tmod y)),hs')
  |_=>ad
 |.and|.or|.xor=>match hs with
  |.bare::hs'=>(up op x.toNat y.toNat).map λ(r:Nat)=>([0<=x,Wa k x,0<=y,Wa k y,Wa k (r:Int)],.p (.int k (r:Int)),hs')
  |.raw::hs'=>ab ([],.p (.int k (bits op k x y)),hs')
  |_=>ad
 |.andNot=>match hs with
  |.raw::hs'=>ab ([],.p (.int k (bits op k x y)),hs')
  |_=>ad
 |.eql=>ab ([],.p (.bool (x==y)),hs)
 |.neq=>ab ([],.p (.bool (x !=y)),hs)
 |.lss=>ab ([],.p (.bool (ag (x < y))),hs)
 |.leq=>ab ([],.p (.bool (ag (x<=y))),hs)
 |.gtr=>ab ([],.p (.bool (ag (x > y))),hs)
 |.geq=>ab ([],.p (.bool (ag (x >= y))),hs)
 |_=>ad
def Wu(op:BinOp)(k:IntKind)(x y:Int)(hs:yL ao):nc:=
 match op,hs with
 |.shl,.bare::hs'=>ab ([0<=y,y.toNat < k.bits,Wa k (x*2 ^ y.toNat)],.p (.int k (x*2 ^ y.toNat)),hs')
 |.shl,.raw::hs'=>ab ([0<=y],.p (.int k (k.wrap (x*2 ^ (min y.toNat k.bits)))),hs')
 |.shr,.bare::hs'=>ab ([0<=y,y.toNat<=k.bits],.p (.int k (x / 2 ^ y.toNat)),hs')
 |.shr,.raw::hs'=>ab ([0<=y],.p (.int k (x.fdiv (2 ^ (min y.toNat k.bits)))),hs')
 |_,_=>ad
mutual
def Pl.flat:Pl->Bool
 |.int _ _=>ae
 |.bool _=>ae
 |.agg f=>Pl.aS f
 |.arr _ _ f=>Pl.aS f
 |_=>af
def Pl.aS:yL Pl->Bool
 |[]=>ae
 |x::r=>x.flat&&Pl.aS r
end
def iD(P:yg)(R:yc->Pl->Prop):yL Field->Nat->yL Pl->Prop
 |[],_,[]=>True
 |f::g,o,y::h=>f.name≠ "_" /\f.offset=o/\P.cellsOf f.type=y.size/\(P.info? f.type).isSome=ae/\(P.underlying f.type).isSome=ae/\Xt P f.type=y.isAgg/\y.size≠0/\R f.type y/\iD P R g (o+y.size) h
 |_,_,_=>False
def bt(P:yg):Nat->yc->Pl->Prop
 |0,_,_=>False
 |n+1,t,x=>match P.underlying t,x with
  |some .bool,.bool _=>True
  |some (.int k),.int g _=>g=k
  |some (.array m e),.arr h s f=>h=m/\P.cellsOf e=s/\s≠0/\(P.info? e).isSome=ae/\(P.underlying e).isSome=ae/\∀y,y∈f->bt P n e y/\y.size=s/\Xt P e=y.isAgg
  |some (.struct j),.agg f=>P.stoodInHeld t=af/\iD P (bt P n) j.toList 0 f
  |_,_=>False
def W5:yL (Pl×Pl)->Pl->yO Pl->Prop
 |[],_,r=>r=ad
 |q::l,k,r=>(k=q.1/\r=ab q.2)\/(k≠q.1/\W5 l k r)
def gu:yL (Pl×Pl)->Pl->Pl->yL (Pl×Pl)->Prop
 |[],k,v,l=>l=[(k,v)]
 |q::r,k,v,l=>(k=q.1/\l=(k,v)::r)\/(k≠q.1/\∃f,l=q::f/\gu r k v f)
def iZ(P:yg)(f:yc)(bR:yL (Pl×Pl)):Prop:=∀q,q∈bR->bt P 20 f q.1
def AN(P:yg)(t:yc):Bool:=match P.info? t with|some i=>i.zero.isSome|none=>af
def lT(P:yg)(f:yc):Bool:=
 match P.underlying f with
 |some (.int _)=>ae
 |some .bool=>ae
 |some (.array _ _)=>ae
 |some (.struct _)=>ae
 |_=>af
def ja(P:yg)(t:yc)(x y:Dv)(hs:yL ao):yO (yL Prop×Bool×yL ao):=
 match P.underlying t,x,y with
 |some .bool,.p (.bool a),.p (.bool b)=>ab ([],a==b,hs)
 |some (.pointer _),.ak _ _ _,.p .bW=>ab ([],af,hs)
 |some (.pointer _),.elem _,.p .bW=>ab ([],af,hs)
 |some (.pointer _),.aZ _ _ _ _,.p .bW=>ab ([],af,hs)
 |some (.pointer _),.p .bW,.p .bW=>ab ([],ae,hs)
 |some (.slice _),.p (.sl (ab b) _ _),.p (.sl (ab af) _ [])=>ab ([], !b,hs)
 |some (.slice _),.own _ (ab b) _ _,.p (.sl (ab af) _ [])=>ab ([], !b,hs)
 |some (.slice _),.view _ _ _ _ _ _,.p (.sl (ab af) _ [])=>ab ([],af,hs)
 |some (.slice _),.p (.sl ad _ f),.p (.sl (ab af) _ [])=>match hs with
  |.bare::hs'=>ab ([f≠[]],af,hs')
  |_=>ad
 |some (.slice _),.own _ ad _ f,.p (.sl (ab af) _ [])=>match hs with
  |.bare::hs'=>ab ([f≠[]],af,hs')
  |_=>ad
 |some (.func _ _ _),.fn _ _,.p .fn0=>ab ([],af,hs)
 |some (.func _ _ _),.p .fn0,.p .fn0=>ab ([],ae,hs)
 |some (.array _ _),.p (.arr n s f),.p (.arr m r g)=>match hs with
  |.b β::hs'=>if P.eqGuardType P.depth t=af then ab ([bt P 20 t (.arr n s f),bt P 20 t (.arr m r g),(β=ae↔Pl.arr n s f=Pl.arr m r g)],β,hs') else ad
  |_=>ad
 |some (.struct _),.p (.agg f),.p (.agg g)=>match hs with
  |.b β::hs'=>if P.eqGuardType P.depth t=af then ab ([bt P 20 t (.agg f),bt P 20 t (.agg g),(β=ae↔Pl.agg f=Pl.agg g)],β,hs') else ad
  |_=>ad
 |_,_,_=>ad
def AO:BinOp->Bool
 |.shl=>ae
 |.shr=>ae
 |_=>af
def gK(P:yg)(op:BinOp)(t:yc)(x y:Dv)(hs:yL ao):nc:=
 match x,y with
 |.p (.int k a),.p (.int f b)=>if AO op then Wu op k a b hs else if k=f then YP op k a b hs else ad
 |.p (.str a),.p (.str b)=>match op with
  |.eql=>ab ([],.p (.bool (a.data.toList==b.data.toList)),hs)
  |.neq=>ab ([],.p (.bool (!(a.data.toList==b.data.toList))),hs)
  |_=>ad
 |x,y=>match op with
  |.eql=>(ja P t x y hs).map λr=>(r.1,.p (.bool r.2.1),r.2.2)
  |.neq=>(ja P t x y hs).map λr=>(r.1,.p (.bool (!r.2.1)),r.2.2)
  |_=>ad
def ko(P:yg)(h:Array Field)(i:Nat)(g:Nat)(size:Nat)(isAgg:Bool):Bool:=
 match h[i]? with
 |some f=>f.offset==g&&P.cellsOf f.type==size&&(P.info? f.type).isSome&&Xt P f.type==isAgg&&(P.underlying f.type).isSome&&size !=0
 |none=>af
def jb(P:yg)(t:yc)(x:Dv)(i:Nat):yO Dv:=
 match P.underlying t,x with
 |some (.struct g),.p (.agg f)=>match f[i]? with
  |some y=>if ko P g i (Pl.sizes (f.take i)) y.size y.isAgg then ab (.p y) else ad
  |none=>ad
 |some (.struct g),.agg f=>match f[i]? with
  |some y=>if ko P g i (Dv.sizes (f.take i)) y.size y.isAgg then ab y else ad
  |none=>ad
 |_,_=>ad
def gv(P:yg)(ts:yL Dv):yO yp->yO (yO Int)
 |none=>ab ad
 |some x=>match aF P ts 0 x with
  |.p (.int _ i)=>ab (ab i)
  |_=>ad
def Vc{α:Type}(xs:yL α):yO Int->yO Int->yL α
 |none,ad=>xs
 |none,ab h=>xs.take h.toNat
 |some l,ad=>xs.drop l.toNat
 |some l,ab h=>(xs.take h.toNat).drop l.toNat
def YI(len:Nat):yO Int->yO Int->yL Prop
 |none,ad=>[]
 |none,ab h=>[0<=h,h<=(len:Int)]
 |some l,ad=>[0<=l,l<=(len:Int)]
 |some l,ab h=>[0<=l,l<=h,h<=(len:Int)]
def uq(g:yL Dv)(i:Nat)(d:Dv):yO (yL Dv):=
 match g[i]? with
 |some f=>if f.size=d.size then ab (g.set i d) else ad
 |none=>ad
def iE:yL Dv->yL (Nat×Dv)->yO (yL Dv)
 |f,[]=>ab f
 |f,(i,d)::r=>(uq f i d).bind λg=>iE g r
def lU(l:yL (Nat×Dv)):Bool:=l.all λq=>q.2.bF
def gR(P:yg)(ts:yL Dv)(f:Nat->yc)(parts:yL (Nat×yp)):yL (Nat×Dv):=
 parts.map λq=>(q.1,aF P ts (f q.1) q.2)
def ju(P:yg)(t:yc)(i:Nat):yc:=
 match P.underlying t with
 |some (.struct f)=>((f[i]?).map (·.type)).getD 0
 |some (.array _ e)=>e
 |some (.slice e)=>e
 |_=>0
def bf(P:yg)(t:yc):Dv:=
 match P.info? t with
 |some i=>match i.zero with
  |some v=>oK P t v
  |none=>.an
 |none=>.an
def Dv.arg:Dv->Dv
 |.own _ f s g=>.p (.sl f s g)
 |.agg h=>Dv.dI h
 |d=>d
def Dv.cr(ids:yL Nat):Dv->Dv
 |.own id g s h=>if ids.contains id then .own id g s h else .p (.sl g s h)
 |.agg f=>if Dv.dH ids f then .agg f else Dv.dI f
 |d=>d
def YJ(P:yg)(ids:yL Nat)(ts:yL Dv)(c:Call)(g:yw)(cap:yL Dv):yL Dv:=
 if g < big then((c.args.toList.zip c.argTypes.toList).map λq=>(aF P ts q.2 q.1).cr ids)++cap.map (Dv.cr ids)
 else cap.map (Dv.cr ids)++((c.args.toList.zip c.argTypes.toList).map λq=>(aF P ts q.2 q.1).cr ids)
def nf(P:yg)(g:yw):Bool:=
 ag (g < big)&&match P.funcs[g]? with
 |some fn=>fn.name== "internal/bytealg.Compare" &&fn.body.isNone&&(Extern.findNext fn).isNone
 |none=>af
def gS(b:ByteArray):yL Pl:=b.data.toList.map λx=>.int .u8 (x.toNat:Int)
def gU(P:yg)(s:Nat)(t:yc)(d:Dv):yO (yL Pl):=
 match P.underlying t,d with
 |some (.slice e),.p (.sl _ g f)=>if g=s\/f.isEmpty then ab f else ad
 |some (.slice e),.own _ _ g f=>if g=s then ab f else ad
 |some .string,.p (.str z)=>if s=1 then ab (z.data.toList.map λb=>.int .u8 (b.toNat:Int)) else ad
 |_,_=>ad
def XB(P:yg)(ts:yL Dv)(e:yc)(s:Nat)(len:Nat)(parts:yL (Nat×yp)):yO (yL Pl):=
 if parts.map (·.1)==yo len then
  match Dv.aS (parts.map λq=>aF P ts e q.2) with
  |some f=>if f.all (λx=>x.size==s) then ab f else ad
  |none=>ad
 else ad
def Zs:Nat:=140737488355328
def cu(i:TypeInfo):Bool:=
 match i.zero with
 |some z=>z.cells.size==i.size
 |none=>af
def iF(P:yg)(g:yw):Bool:=
 match P.funcs[g]? with
 |some fn=>fn.body.isSome&& !(fn.name== "runtime.NumGoroutine")
 |none=>af
def bh(P:yg)(o:yj)(ts:yL Dv)(hs:yL ao):nc:=
 match o.op with
 |.move x=>match hs with
  |.raw::hs'=>ab ([],aF P ts o.type x,hs')
  |_=>ad
 |.assign x=>match hs with
  |.raw::hs'=>ab ([],aF P ts o.type x,hs')
  |_=>ad
 |.pick c a b=>match aF P ts 0 c,hs with
  |.p (.bool t),.b β::hs'=>ab ([t=β],if β then aF P ts o.type a else aF P ts o.type b,hs')
  |_,_=>ad
 |.nilCheck x=>match aF P ts 0 x with
  |.ak i f p=>ab ([],.ak i f p,hs)
  |.aZ i v f p=>ab ([],.aZ i v f p,hs)
  |.elem y=>ab ([],.elem y,hs)
  |.fn f c=>ab ([],.fn f c,hs)
  |_=>ad
 |.binOp T t x y U=>gK P T t (aF P ts t x) (aF P ts U y) hs
 |.unOp .not _ x=>match aF P ts 0 x with
  |.p (.bool t)=>ab ([],.p (.bool (!t)),hs)
  |_=>ad
 |.unOp .neg _ x=>match aF P ts 0 x with
  |.p (.int k n)=>gr k (0 - n) hs
  |_=>ad
 |.unOp .xor _ x=>match aF P ts 0 x with
  |.p (.int k n)=>if k.signed then ad else ab ([],.p (.int k (bits .xor k k.max n)),hs)
  |_=>ad
 |.convert src dst x=>match P.underlying src,P.underlying dst,aF P ts src x with
  |some _,ab (.int k),.p (.int _ n)=>gr k n hs
  |some (.slice e),ab .string,.p (.sl _ s j)=>match hs,P.underlying e with
   |.el (.str b)::hs',ab (.int .u8)=>if s=1 then ab ([j=b.data.toList.map λx=>.int .u8 (x.toNat:Int)],.p (.str b),hs') else ad
   |_,_=>ad
  |some (.slice e),ab .string,.own _ _ s j=>match hs,P.underlying e with
   |.el (.str b)::hs',ab (.int .u8)=>if s=1 then ab ([j=b.data.toList.map λx=>.int .u8 (x.toNat:Int)],.p (.str b),hs') else ad
   |_,_=>ad
  |some .string,ab (.slice e),.p (.str b)=>match P.underlying e with
   |some (.int .u8)=>ab ([b.size<=maxLen],.p (.sl (ab ae) 1 (b.data.toList.map λx=>.int .u8 (x.toNat:Int))),hs)
   |_=>ad
  |_,_,_=>ad
 |.sliceToArrayPointer t x=>match P.underlying t,aF P ts 0 x with
  |some (.array n e),.p (.sl _ s j)=>if n !=0 then ab ([n<=j.length],.elem (.arr n s (j.take n)),hs) else ad
  |some (.array n e),.own _ _ s j=>if n !=0 then ab ([n<=j.length],.elem (.arr n s (j.take n)),hs) else ad
  |_,_=>ad
 |.makeFunc (.func f) first captured=>if first.isEmpty&&ag (f < big) then ab ([],.fn f (captured.toList.map (aF P ts 0)),hs) else if captured.isEmpty then ab ([],.fn (f+big) (first.toList.map (aF P ts 0)),hs) else ad
 |.makeInterface t x=>match P.underlying t with
  |some (.interface _)=>ad
  |some _=>ab ([],.iface t (aF P ts t x),hs)
  |none=>ad
 |.field t x i=>(jb P t (aF P ts t x) i).map λd=>([],d,hs)
 |.fieldAddr t x i=>match P.underlying t,aF P ts 0 x with
  |some (.struct G),.ak id off A=>match G[i]? with
   |some f=>if P.cellsOf f.type !=0&&(P.info? f.type).isSome then ab ([],.ak id (off+f.offset) (A++[i]),hs) else ad
   |none=>ad
  |some (.struct G),.aZ id v off A=>match G[i]? with
   |some f=>if P.cellsOf f.type !=0&&(P.info? f.type).isSome then ab ([],.aZ id v (off+f.offset) (A++[i]),hs) else ad
   |none=>ad
  |some (.struct _),.elem y=>match jb P t (.p y) i with
   |some (.p z)=>ab ([],.elem z,hs)
   |_=>ad
  |_,_=>ad
 |.indexAddr t x ix=>match P.underlying t,aF P ts t x,aF P ts 0 ix with
  |some (.slice e),.p (.sl _ s j),.p (.int _ i)=>match hs with
   |.el y::hs'=>if P.cellsOf e=s&&(P.info? e).isSome then ab ([0<=i,j[i.toNat]? =ab y],.elem y,hs') else ad
   |_=>ad
  |some (.slice e),.own _ _ s j,.p (.int _ i)=>match hs with
   |.el y::hs'=>if P.cellsOf e=s&&(P.info? e).isSome then ab ([0<=i,j[i.toNat]? =ab y],.elem y,hs') else ad
   |_=>ad
  |some (.slice e),.view id off A s lo n,.p (.int _ i)=>
   if P.cellsOf e=s&&(P.info? e).isSome then ab ([0<=i,i < (n:Int)],.ak id (off+(lo+i.toNat)*s) (A++[lo+i.toNat]),hs) else ad
  |some (.slice e),.rv id v s lo n,.p (.int _ i)=>
   if P.cellsOf e=s&&(P.info? e).isSome then ab ([0<=i,i < (n:Int)],.aZ id v ((lo+i.toNat)*s) [lo+i.toNat],hs) else ad
  |some (.array n e),.aZ id v off A,.p (.int _ i)=>
   if(P.info? e).isSome then ab ([0<=i,i < (n:Int)],.aZ id v (off+i.toNat*P.cellsOf e) (A++[i.toNat]),hs) else ad
  |some (.array n e),.ak id off A,.p (.int _ i)=>
   if(P.info? e).isSome then ab ([0<=i,i < (n:Int)],.ak id (off+i.toNat*P.cellsOf e) (A++[i.toNat]),hs) else ad
  |some (.array n e),.elem (.arr E s j),.p (.int _ i)=>match hs with
   |.el y::hs'=>if n=E&&P.cellsOf e=s&&(P.info? e).isSome then ab ([0<=i,j[i.toNat]? =ab y],.elem y,hs') else ad
   |_=>ad
  |_,_,_=>ad
 |.index t x ix=>match P.underlying t,aF P ts t x,aF P ts 0 ix with
  |some (.array n e),.p (.arr E s j),.p (.int _ i)=>match hs with
   |.el y::hs'=>if n=E&&P.cellsOf e=s&&Xt P e==y.isAgg&&(P.underlying e).isSome&&(P.info? e).isSome&&s !=0 then ab ([0<=i,j[i.toNat]? =ab y],.p y,hs') else ad
   |_=>ad
  |some .string,.p (.str s),.p (.int _ i)=>match hs with
   |.el (.int .u8 b)::hs'=>ab ([0<=i,(s.data.toList[i.toNat]?).map (λx:yB=>(x.toNat:Int))=ab b],.p (.int .u8 b),hs')
   |_=>ad
  |some (.array n e),.arr E s j,.p (.int _ i)=>match j[i.toNat]? with
   |some d=>if n=E&&P.cellsOf e=s&&Xt P e==d.isAgg&&(P.underlying e).isSome&&(P.info? e).isSome&&s !=0 then ab ([0<=i],d,hs) else ad
   |none=>ad
  |_,_,_=>ad
 |.slice t x lo Q ad=>match P.underlying t,aF P ts t x,gv P ts lo,gv P ts Q with
  |some (.slice e),.p (.sl R s j),ab l,ab h=>
   if P.cellsOf e=s&&(P.info? e).isSome then ab (YI j.length l h,.p (.sl R s (Vc j l h)),hs) else ad
  |some (.slice e),.own _ R s j,ab l,ab h=>
   if P.cellsOf e=s&&(P.info? e).isSome then ab (YI j.length l h,.p (.sl R s (Vc j l h)),hs) else ad
  |some (.slice e),.view id off A s lo n,ab l,ab h=>
   if P.cellsOf e=s&&(P.info? e).isSome then ab (YI n l h,.view id off A s (lo+(l.getD 0).toNat) ((h.getD n).toNat - (l.getD 0).toNat),hs) else ad
  |some (.slice e),.rv id v s lo n,ab l,ab h=>match hs with
   |.bare::hs'=>if P.cellsOf e=s&&(P.info? e).isSome then ab (YI n l h,.rv id v s (lo+(l.getD 0).toNat) ((h.getD n).toNat - (l.getD 0).toNat),hs') else ad
   |_=>ad
  |some (.array n e),.elem (.arr E s j),ab l,ab h=>
   if n=E&&P.cellsOf e=s&&(P.info? e).isSome&&n<=maxLen then ab (YI n l h,.p (.sl (ab ae) s (Vc j l h)),hs) else ad
  |some (.array n e),.ak id off A,ab l,ab h=>match hs with
   |.raw::hs'=>if(P.info? e).isSome&&n<=maxLen then ab (YI n l h,.view id off A (P.cellsOf e) (l.getD 0).toNat ((h.getD n).toNat - (l.getD 0).toNat),hs') else ad
   |_=>ad
  |_,_,_,_=>ad
 |.slice t x lo Q (ab W)=>match P.underlying t,aF P ts t x,gv P ts lo,gv P ts Q,gv P ts (ab W) with
  |some (.slice e),.rv _ _ _ _ n,ab (ab l),ab (ab h),ab (ab m)=>if(P.info? e).isSome then ab ([0<=l,l<=h,h<=m,m<=(n:Int)],.an,hs) else ad
  |_,_,_,_,_=>ad
 |.extract x i=>match aF P ts 0 x with
  |.bm I=>(I[i]?).map λd=>([],d,hs)
  |_=>ad
 |.load t a=>match aF P ts 0 a with
  |.elem y=>if P.cellsOf t=y.size&&Xt P t==y.isAgg&&(P.underlying t).isSome&&(P.info? t).isSome then ab ([],.p y,hs) else ad
  |_=>ad
 |.build t parts=>match P.underlying t,bf P t with
  |some (.struct G),.p (.agg zs)=>
   if lU (gR P ts (ju P t) parts.toList)&&G.size==zs.length&&(yo zs.length).all λi=>ko P G i (Pl.sizes (zs.take i)) ((zs.getD i default).size) ((zs.getD i default).isAgg) then
    (iE (zs.map .p) (gR P ts (ju P t) parts.toList)).map λI=>([],qm I,hs)
   else ad
  |some (.array _ e),.p (.arr n s zs)=>
   if lU (gR P ts (ju P t) parts.toList)&&P.cellsOf e=s&&(P.info? e).isSome then
    (iE (zs.map .p) (gR P ts (ju P t) parts.toList)).bind λI=>match jt I with
      |some j=>ab ([],.p (.arr n s j),hs)
      |none=>ab ([],.arr n s I,hs)
   else ad
  |_,_=>ad
 |.call c=>match c.callee with
  |.builtin .len=>match c.args.toList,c.argTypes.toList with
   |[x],[t]=>match P.underlying t,aF P ts t x with
    |some (.slice _),.p (.sl _ _ j)=>ab ([],.p (.int .i64 (j.length:Int)),hs)
    |some (.slice _),.own _ _ _ j=>ab ([],.p (.int .i64 (j.length:Int)),hs)
    |some (.slice _),.view _ _ _ _ _ n=>ab ([],.p (.int .i64 (n:Int)),hs)
    |some (.slice _),.rv _ _ _ _ n=>ab ([],.p (.int .i64 (n:Int)),hs)
    |some (.array n _),_=>ab ([],.p (.int .i64 (n:Int)),hs)
    |some .string,.p (.str s)=>ab ([],.p (.int .i64 (s.size:Int)),hs)
    |_,_=>ad
   |_,_=>ad
  |.builtin .max=>match c.args.toList,c.argTypes.toList with
   |[x,y],[t,u]=>match aF P ts t x,aF P ts u y with
    |.p (.int .i64 m),.p (.int .i64 n)=>ab ([],.p (.int .i64 (if n > m then n else m)),hs)
    |_,_=>ad
   |_,_=>ad
  |.builtin .min=>match c.args.toList,c.argTypes.toList with
   |[x,y],[t,u]=>match aF P ts t x,aF P ts u y with
    |.p (.int .i64 m),.p (.int .i64 n)=>ab ([],.p (.int .i64 (if n < m then n else m)),hs)
    |_,_=>ad
   |_,_=>ad
  |.builtin .append=>match c.args.toList,c.argTypes.toList,hs with
   |[x,y],[t,u],.iB::hs'=>match P.underlying t,aF P ts t x with
    |some (.slice e),.p (.sl (ab af) _ [])=>match P.info? e,gU P (P.cellsOf e) u (aF P ts u y) with
     |some i,ab M=>if cu i&&i.size !=0 then ab ([M.length*i.bytes<=Zs,M.length<=maxLen],.p (.sl ad (P.cellsOf e) M),hs') else ad
     |_,_=>ad
    |_,_=>ad
   |_,_,_=>ad
  |.value f=>match aF P ts 0 f,hs with
   |.fn g S,.call r [] []::hs'=>
    if iF P (fP g)&&c.args.size==c.argTypes.size then match Dv.bB (λ_=>ad) (YJ P [] ts c g S),r.rn (λ_=>ad) with
     |some F,ab _=>ab ([ca P (fP g) F [] r []],r,hs')
     |_,_=>ad
    else ad
   |.fn g [],.el (.str x)::.el (.str y)::hs'=>
    if nf P g&&c.args.size==c.argTypes.size then match YJ P [] ts c g [] with
     |[.p (.sl _ s j),.p (.sl _ X M)]=>if s=1/\X=1 then ab ([j=gS x,M=gS y],.p (.int .i64 (Go.Lib.compareBytes x.data.toList y.data.toList)),hs') else ad
     |_=>ad
    else ad
   |_,_=>ad
  |_=>ad
 |.buildSlice t len parts=>match hs with
  |.iB::hs'=>match P.underlying t with
   |some (.slice e)=>match P.info? e,XB P ts e (P.cellsOf e) len parts.toList with
    |some i,ab j=>if cu i&&i.size !=0&&len*i.size<=16777216 then ab ([],.p (.sl (ab ae) i.size (j.map Pl.soft)),hs') else ad
    |_,_=>ad
   |_=>ad
  |.bare::hs'=>match P.underlying t with
   |some (.slice e)=>match P.info? e,XB P ts e (P.cellsOf e) len parts.toList with
    |some i,ab j=>if cu i&&i.size !=0&&len*i.size<=16777216 then ab ([],.p (.sl (ab ae) i.size j),hs') else ad
    |_,_=>ad
   |_=>ad
  |_=>ad
 |_=>ad
def Z6:Dv->yL Nat->yL ao->yO (yL Prop×Nat×Dv×yL ao)
 |d,[],hs=>ab ([],0,d,hs)
 |.p (.agg f),i::r,hs=>match f[i]? with
  |some x=>(Z6 (.p x) r hs).map λq=>(q.1,Pl.sizes (f.take i)+q.2.1,q.2.2)
  |none=>ad
 |.p (.arr _ s f),i::r,hs=>match hs with
  |.el y::hs'=>(Z6 (.p y) r hs').map λq=>((f[i]? =ab y)::q.1,i*s+q.2.1,q.2.2)
  |_=>ad
 |.agg f,i::r,hs=>match f[i]? with
  |some x=>(Z6 x r hs).map λq=>(q.1,Dv.sizes (f.take i)+q.2.1,q.2.2)
  |none=>ad
 |.arr _ s f,i::r,hs=>match f[i]? with
  |some x=>(Z6 x r hs).map λq=>(q.1,i*s+q.2.1,q.2.2)
  |none=>ad
 |_,_,_=>ad
def X5(new:Dv):Dv->yL Nat->yL ao->yO Dv
 |_,[],_=>ab new
 |.p (.agg f),i::r,hs=>match f[i]? with
  |some x=>match X5 new (.p x) r hs with
   |some (.p y)=>ab (.p (.agg (f.set i y)))
   |some y=>ab (.agg ((f.map .p).set i y))
   |none=>ad
  |none=>ad
 |.p (.arr n s f),i::r,hs=>match hs with
  |.el y::hs'=>match X5 new (.p y) r hs' with
   |some (.p z)=>ab (.p (.arr n s (f.set i z.soft)))
   |some z=>ab (.arr n s ((f.map .p).set i z))
   |none=>ad
  |_=>ad
 |.agg f,i::r,hs=>match f[i]? with
  |some x=>(X5 new x r hs).map λy=>.agg (f.set i y)
  |none=>ad
 |.arr n s f,i::r,hs=>match f[i]? with
  |some x=>(X5 new x r hs).map λy=>.arr n s (f.set i y)
  |none=>ad
 |_,_,_=>ad
def gb(P:yg)(t:yc)(d:Dv):Bool:=
 P.cellsOf t==d.size&&Xt P t==d.isAgg&&(P.underlying t).isSome&&(P.info? t).isSome
def dE:yO aq->yO aq
 |some (.var d _)=>ab (.var d ae)
 |some (.row v s _ e d)=>ab (.row v s ae e d)
 |x=>x
def bG(P:yg)(o:yj)(ts:yL Dv)(H:yL aq)(hs:yL ao):nc:=
 match o.op with
 |.load t a=>match aF P ts 0 a with
  |.ak id off j=>match H[id]? with
   |some (.var d _)=>match Z6 d j hs with
    |some (C,f,sub,hs')=>if gb P t sub then ab (C++[f=off],sub,hs') else ad
    |none=>ad
   |_=>ad
  |.aZ id v off j=>match H[id]? with
   |some (.row z _ _ _ d)=>match Z6 d j hs with
    |some (C,f,sub,hs')=>if gb P t sub&&z==v then ab (C++[f=off],sub,hs') else ad
    |none=>ad
   |_=>ad
  |_=>ad
 |.slice t x lo G ad=>match P.underlying t,aF P ts t x,gv P ts lo,gv P ts G,hs with
  |some (.slice e),.rv id v s m n,ab l,ab (ab h),.raw::hs'=>match H[id]? with
   |some (.row z A _ _ d)=>match aR d A with
    |some N=>if P.cellsOf e=s&&(P.info? e).isSome&&z==v&&A==s&&A !=0 then ab ([0<=l.getD 0,l.getD 0<=h,m+h.toNat<=N],.rv id v s (m+(l.getD 0).toNat) (h.toNat - (l.getD 0).toNat),hs') else ad
    |none=>ad
   |_=>ad
  |some (.array n e),.ak id off j,ab l,ab h,.eC::hs'=>match H[id]? with
   |some (.var d af)=>match Z6 d j hs' with
    |some (C,f,.p (.arr I s M),y)=>
     if n=I&&P.cellsOf e=s&&(P.info? e).isSome&&n<=maxLen then ab (C++[f=off]++YI n l h,.p (.sl (ab ae) s (Vc M l h)),y) else ad
    |_=>ad
   |_=>ad
  |_,_,_,_,_=>ad
 |.lookup t x ix F=>match P.underlying t,aF P ts t x with
  |some (.map g E),.mp id=>match aF P ts g ix,H[id]?,hs with
   |.p k,ab (.map _ bR),.el v::hs'=>if lT P g then ab ([bt P 20 g k,iZ P g bR,W5 bR k (ab v)],if F then .bm [.p v,.p (.bool ae)] else .p v,hs') else ad
   |.p k,ab (.map _ bR),.raw::hs'=>if lT P g&&AN P E then
     ab ([bt P 20 g k,iZ P g bR,W5 bR k ad],if F then .bm [bf P E,.p (.bool af)] else bf P E,hs') else ad
   |_,_,_=>ad
  |_,_=>ad
 |.call c=>match c.callee with
  |.builtin .len=>match c.args.toList,c.argTypes.toList with
   |[x],[t]=>match P.underlying t,aF P ts t x with
    |some (.map _ _),.mp id=>match H[id]? with
     |some (.map _ bR)=>ab ([],.p (.int .i64 (bR.length:Int)),hs)
     |_=>ad
    |_,_=>ad
   |_,_=>ad
  |_=>ad
 |_=>ad
def bc(ids:yL Nat)(id:Nat):yO Nat:=ids.idxOf? id
def aV(ids:yL Nat)(n:Nat)(j:Nat):yO Nat:=if j < ids.length then ids[j]? else ab (n+(j - ids.length))
def aQ(H:yL aq)(all:yL Nat):yL Nat->yO (yL aq)
 |[]=>ab []
 |id::r=>match (H[id]?).bind (aq.rn (bc all)),aQ H all r with
  |some e,ab f=>ab (e::f)
  |_,_=>ad
def aw{α:Type}:yL α->yL Nat->yL α->yL α
 |H,[],Hb=>H++Hb
 |H,id::r,e::Hb=>aw (H.set id e) r Hb
 |H,_::_,[]=>H
def once:yL Nat->Bool
 |[]=>ae
 |x::r=> !r.contains x&&once r
def Dv.cS(d:Dv):Dv:=
 match d.flat with
 |some x=>.p x
 |none=>d
def jc(yQ:yL Nat)(d:Dv)(new:Dv):yO Dv:=
 match d with
 |.p _=>ab new.cS
 |_=>match yQ with
  |[]=>ab new.cS
  |_=>ab new
def oL(xs ys:yL Pl)(lo:Nat):yL Pl:=xs.take lo++(ys++xs.drop (lo+ys.length))
def iG(P:yg)(s:Nat)(t:yc)(H:yL aq)(hs:yL ao)(d:Dv):yO (yL Prop×yL Pl×yL ao):=
 match d with
 |.view id off j h lo n=>match P.underlying t,H[id]? with
  |some (.slice _),ab (.var l _)=>match Z6 l j hs with
   |some (C,g,.p (.arr N f zs),hs')=>if h=s&&f=s then ab (C++[g=off,lo+n<=N],(zs.drop lo).take n,hs') else ad
   |_=>ad
  |_,_=>ad
 |.rv id v h lo n=>match P.underlying t,H[id]? with
  |some (.slice _),ab (.row m f _ _ (.p (.arr N y zs)))=>if h=s&&f=s&&y=s&&m==v then ab ([lo+n<=N],(zs.drop lo).take n,hs) else ad
  |_,_=>ad
 |d=>(gU P s t d).map λz=>([],z,hs)
def jv(d:Dv)(H:yL aq)(hs:yL ao):uo:=
 match d with
 |.view id off m s lo n=>match H[id]? with
  |some (.var l _)=>match Z6 l m hs with
   |some (C,f,.p (.arr y h g),hs')=>if h=s then ab (C++[f=off,lo+n<=y],.p (.sl (ab ae) s ((g.drop lo).take n)),H.set id (.var l af),hs') else ad
   |_=>ad
  |_=>ad
 |.rv id v s lo n=>match H[id]? with
  |some (.row z h _ e (.p (.arr N j g)))=>if h=s&&j=s&&z==v then ab ([lo+n<=N],.p (.sl ad s ((g.drop lo).take n)),H.set id (.row v s af e (.p (.arr N s g))),hs) else ad
  |_=>ad
 |_=>ad
def Xk:Dv->yL Nat->Nat->Dv->yO Dv
 |.p (.sl (ab af) h []),[],s,f=>if h=s then ab f else ad
 |.p (.agg g),i::r,s,f=>match g[i]? with
  |some x=>(Xk (.p x) r s f).map λy=>.agg ((g.map Dv.p).set i y)
  |none=>ad
 |.agg g,i::r,s,f=>match g[i]? with
  |some x=>(Xk x r s f).map λy=>.agg (g.set i y)
  |none=>ad
 |_,_,_,_=>ad
def Yp(d:Dv)(n:Nat):yL ao->Dv×yL aq×yL ao
 |.cq g s e::hs=>match Xk d g s (.own n ad s []) with
  |some f=>((Yp f (n+1) hs).1,.log s e []::(Yp f (n+1) hs).2.1,(Yp f (n+1) hs).2.2)
  |none=>(d,[],.cq g s e::hs)
 |hs=>(d,[],hs)
def ng(d:Dv):Dv:=
 match d.plain with
 |some y=>.p y
 |none=>d
def cU(P:yg)(o:yj)(ts:yL Dv)(H:yL aq)(hs:yL ao):uo:=
 match o.op with
 |.assign x=>match hs with
  |.fresh U::hs'=>if o.dst=ab U then match P.underlying o.type,aF P ts o.type x with
    |some (.slice e),.p (.sl (ab af) _ [])=>match P.info? e with
     |some i=>if cu i&&i.size !=0 then ab ([],.own H.length ad i.size [],H++[.log i.size e []],hs') else ad
     |none=>ad
    |_,_=>ad
   else ad
  |.jr U::hs'=>if o.dst=ab U then match P.underlying o.type,aF P ts o.type x with
    |some (.slice e),.p (.sl (ab af) _ [])=>match P.info? e with
     |some i=>if cu i&&i.size !=0 then ab ([],.rv H.length 0 i.size 0 0,H++[.row 0 i.size ae e (.p (.arr 0 i.size []))],hs') else ad
     |none=>ad
    |_,_=>ad
   else ad
  |.still U::hs'=>if o.dst=ab U then jv (aF P ts o.type x) H hs' else ad
  |_=>ad
 |.move x=>match hs with
  |.still U::hs'=>if o.dst=ab U then jv (aF P ts o.type x) H hs' else ad
  |_=>ad
 |.makeSlice t l c=>match P.underlying t,aF P ts 0 l,aF P ts 0 c with
  |some (.slice e),.p (.int .i64 n),.p (.int .i64 W)=>match P.info? e,hs with
   |some i,.own::hs'=>if cu i&&i.size !=0 then ab ([n=0,0<=W,W.toNat*i.bytes<=Zs,W.toNat<=maxLen],.own H.length (ab ae) i.size [],H++[.log i.size e []],hs') else ad
   |some i,.arr::hs'=>if cu i&&i.size !=0 then ab ([n=0,0<=W,W.toNat*i.bytes<=Zs,W.toNat<=maxLen],.rv H.length 0 i.size 0 0,H++[.row 0 i.size ae e (.p (.arr 0 i.size []))],hs') else ad
   |some i,.raw::hs'=>match bf P e with
    |.p z=>if cu i&&i.size=1&&z.size=1&& !z.isAgg then ab ([W=n,0<=n,n.toNat*i.bytes<=Zs,n.toNat<=maxLen],.view H.length 0 [] 1 0 n.toNat,H++[.var (.p (.arr n.toNat 1 (yx n.toNat z))) ae],hs') else ad
    |_=>ad
   |_,_=>ad
  |_,_,_=>ad
 |.makeMap t ad=>ab ([],.mp H.length,H++[.map t []],hs)
 |.mapUpdate t m k x=>match P.underlying t,aF P ts t m with
  |some (.map kt et),.mp id=>match aF P ts kt k,(aF P ts et x).flat,H[id]?,hs with
   |.p k,ab v,ab (.map U bR),.bR l::hs'=>if lT P kt then ab ([bt P 20 kt k,iZ P kt bR,gu bR k v.soft l],.an,H.set id (.map U l),hs') else ad
   |_,_,_,_=>ad
  |_,_=>ad
 |.alloc t=>match P.info? t with
  |some i=>match (Yp (bf P t) (H.length+1) hs).2.2 with
   |.raw::hs'=>if cu i&&gb P t (bf P t)&&(bf P t).bF then ab ([],.ak H.length 0 [],H++.var (Yp (bf P t) (H.length+1) hs).1 ae::(Yp (bf P t) (H.length+1) hs).2.1,hs') else ad
   |_=>ad
  |none=>ad
 |.box t x=>
  match (Yp (ng (aF P ts t x)) (H.length+1) hs).2.2 with
  |.raw::hs'=>if(ng (aF P ts t x)).bF then ab ([],.ak H.length 0 [],H++.var (Yp (ng (aF P ts t x)) (H.length+1) hs).1 ae::(Yp (ng (aF P ts t x)) (H.length+1) hs).2.1,hs') else ad
  |_=>ad
 |.store t a x=>match aF P ts 0 a,aF P ts t x with
  |.ak id off M,v=>match H[id]? with
   |some (.var d ae)=>match Z6 d M hs with
    |some (C,E,sub,hs')=>match jc M d v with
     |some F=>match X5 F d M hs with
      |some Y=>if F.bF&&F.size==sub.size&&P.cellsOf t==F.size&&(P.info? t).isSome&&F.isAgg==sub.isAgg then(match (Yp Y H.length hs').2.2 with
       |.raw::Q=>ab (C++[E=off],.an,H.set id (.var (Yp Y H.length hs').1 ae)++(Yp Y H.length hs').2.1,Q)
       |_=>ad) else ad
      |none=>ad
     |none=>ad
    |none=>ad
   |_=>ad
  |.aZ id v off M,w=>match H[id]? with
   |some (.row X s ae e d)=>match Z6 d M hs with
    |some (C,E,sub,hs')=>match jc M d w with
     |some F=>match X5 F d M hs with
      |some Y=>if F.bF&&F.size==sub.size&&P.cellsOf t==F.size&&(P.info? t).isSome&&F.isAgg==sub.isAgg&&X==v&&aR Y s==aR d s then
        ab (C++[E=off],.an,H.set id (.row v s ae e Y),hs') else ad
      |none=>ad
     |none=>ad
    |none=>ad
   |_=>ad
  |_,_=>ad
 |.buildSlice t len parts=>match hs with
  |.fresh id::hs'=>match P.underlying t,H[id]? with
   |some (.slice e),ab (.row v s st R dd)=>match P.info? e,XB P ts e (P.cellsOf e) len parts.toList with
    |some i,ab A=>if cu i&&i.size !=0&&len*i.size<=16777216&&R==e&&s==i.size then ab ([],.rv id (v+1) i.size 0 len,H.set id (.row (v+1) i.size ae e (.p (.arr len i.size (A.map Pl.soft)))),hs') else ad
    |_,_=>ad
   |_,_=>ad
  |.arr::hs'=>match P.underlying t with
   |some (.slice e)=>match P.info? e,XB P ts e (P.cellsOf e) len parts.toList with
    |some i,ab A=>if cu i&&i.size !=0&&len*i.size<=16777216 then ab ([],.rv H.length 0 i.size 0 len,H++[.row 0 i.size ae e (.p (.arr len i.size (A.map Pl.soft)))],hs') else ad
    |_,_=>ad
   |_=>ad
  |.own::hs'=>match P.underlying t with
   |some (.slice e)=>match P.info? e,XB P ts e (P.cellsOf e) len parts.toList with
    |some i,ab A=>if cu i&&i.size !=0&&len*i.size<=16777216 then ab ([],.own H.length (ab ae) i.size (A.map Pl.soft),H++[.log i.size e (A.map Pl.soft)],hs') else ad
    |_,_=>ad
   |_=>ad
  |_=>ad
 |.slice t x lo hi ad=>match P.underlying t,aF P ts t x,gv P ts lo,gv P ts hi with
  |some (.array n e),.ak id off M,ab l,ab h=>match hs with
   |.eC::hs'=>match H[id]? with
    |some (.var d _)=>match Z6 d M hs' with
     |some (C,E,.p (.arr W s A),Q)=>
      if n=W&&P.cellsOf e=s&&(P.info? e).isSome&&n<=maxLen then ab (C++[E=off]++YI n l h,.p (.sl (ab ae) s (Vc A l h)),H.set id (.var d af),Q) else ad
     |_=>ad
    |_=>ad
   |_=>ad
  |some (.slice e),.rv id v s lo' n,ab l,ab (ab h)=>match hs with
   |.arr::hs'=>match H[id]? with
    |some (.row X I ae R (.p (.arr N s2 A)))=>if P.cellsOf e=s&&(P.info? e).isSome&&X==v&&I==s&&s2==s&&I !=0&&lo'==0&&l.getD 0==0 then
      ab ([0<=h,h.toNat<=N],.rv id v s 0 h.toNat,H.set id (.row v s ae R (.p (.arr h.toNat s (A.take h.toNat)))),hs') else ad
    |_=>ad
   |_=>ad
  |_,_,_,_=>ad
 |.call c=>match c.callee with
  |.builtin .append=>match c.args.toList,c.argTypes.toList with
   |[x,y],[t,u]=>match P.underlying t,aF P ts t x with
    |some (.slice e),.own id nn s A=>match P.info? e,iG P s u H hs (aF P ts u y),H[id]? with
     |some i,ab (C,j,hs'),ab (.log I R zs)=>if cu i&&i.size=s&&I=s&&R=e&&s !=0 then
       ab (C++[zs=A,(A.length+j.length)*i.bytes<=Zs,A.length+j.length<=maxLen],.own id ad s (A++j),H.set id (.log s e (A++j)),hs') else ad
     |_,_,_=>ad
    |some (.slice e),.p (.sl (ab af) _ [])=>match hs,P.info? e,gU P (P.cellsOf e) u (aF P ts u y) with
     |.own::hs',ab i,ab j=>if cu i&&i.size !=0 then
       ab ([j.length*i.bytes<=Zs,j.length<=maxLen],.own H.length ad i.size j,H++[.log i.size e j],hs') else ad
     |.arr::hs',ab i,ab j=>if cu i&&i.size !=0 then
       ab ([j.length*i.bytes<=Zs,j.length<=maxLen],.rv H.length 0 i.size 0 j.length,H++[.row 0 i.size ae e (.p (.arr j.length i.size j))],hs') else ad
     |_,_,_=>ad
    |some (.slice e),.rv id v s lo n=>match hs with
     |.bare::S=>match P.info? e,iG P (P.cellsOf e) u H S (aF P ts u y) with
      |some i,ab (C,j,hs')=>if cu i then ab (C++[j=[]],.rv id v s lo n,H,hs') else ad
      |_,_=>ad
     |.raw::S=>match P.info? e,iG P s u H S (aF P ts u y),H[id]? with
      |some i,ab (C,j,hs'),ab (.row X I st R (.p (.arr N T A)))=>if cu i&&i.size=s&&I=s&&T=s&&R=e&&s !=0&&X==v&&lo=0 then
        ab (C++[n<=N,(n+j.length)*i.bytes<=Zs,n+j.length<=maxLen,st=ae\/n=N],.rv id (v+1) s 0 (n+j.length),H.set id (.row (v+1) s st e (.p (.arr (n+j.length) s (A.take n++j)))),hs') else ad
      |_,_,_=>ad
     |.iB::S=>match P.info? e,iG P s u H S (aF P ts u y),H[id]? with
      |some i,ab (C,j,hs'),ab (.row X I ae R (.p (.arr N T A)))=>if cu i&&i.size=s&&I=s&&T=s&&R=e&&s !=0&&X==v&&lo=0 then
        ab (C++[0 < N,n+j.length<=N],.rv id v s 0 (n+j.length),H.set id (.row v s ae e (.p (.arr N s (A.take n++(j++A.drop (n+j.length)))))),hs') else ad
      |_,_,_=>ad
     |_=>ad
    |_,_=>ad
   |_,_=>ad
  |.builtin .clear=>match c.args.toList,c.argTypes.toList with
   |[x],[t]=>match P.underlying t,aF P ts t x with
    |some (.slice e),.rv id v s lo n=>match P.info? e,bf P e,H[id]? with
     |some i,.p z,ab (.row X I ae R (.p (.arr N T A)))=>if cu i&&i.size=s&&I=s&&T=s&&X==v&&s !=0&&z.size==s then
       ab ([n=1,lo+1<=N],.bm [],H.set id (.row v s ae R (.p (.arr N s (A.set lo z.soft)))),hs) else ad
     |_,_,_=>ad
    |_,_=>ad
   |_,_=>ad
  |.builtin .copy=>match c.args.toList,c.argTypes.toList with
   |[x,y],[t,u]=>match P.underlying t,aF P ts t x with
    |some (.slice e),.view id off M s lo n=>match gU P s u (aF P ts u y),H[id]? with
     |some j,ab (.var dd ae)=>match Z6 dd M hs with
      |some (C,E,.p (.arr N I A),hs')=>match X5 (.p (.arr N I (oL A j lo))) dd M hs with
       |some dd'=>if I=s&&P.cellsOf e=s&&(P.info? e).isSome then ab (C++[E=off,j.length<=n,lo+n<=N],.p (.int .i64 (j.length:Int)),H.set id (.var dd' ae),hs') else ad
       |none=>ad
      |_=>ad
     |_,_=>ad
    |_,_=>ad
   |_,_=>ad
  |.value f=>match aF P ts 0 f,hs with
   |.fn g cap,.call r H' ids::hs'=>
    if iF P (fP g)&&c.args.size==c.argTypes.size&&once ids&&ids.length<=H'.length then
     match Dv.bB (bc ids) (YJ P ids ts c g cap),aQ H ids ids,r.rn (aV ids H.length),aq.bB (aV ids H.length) H' with
     |some G,ab Hin,ab r',ab Hb=>ab ([ca P (fP g) G Hin r H'],r',aw H ids Hb,hs')
     |_,_,_,_=>ad
    else ad
   |_,_=>ad
  |.invoke Z name=>match aF P ts 0 Z,hs with
   |.iface t x,.iC g::.call r H' ids::hs'=>
    if iF P g&&c.args.size==c.argTypes.size&&once ids&&ids.length<=H'.length then
     match Dv.bB (bc ids) (x.cr ids::YJ P ids ts c 0 []),aQ H ids ids,r.rn (aV ids H.length),aq.bB (aV ids H.length) H' with
     |some G,ab Hin,ab r',ab Hb=>ab ([oI P t name g,ca P g G Hin r H'],r',aw H ids Hb,hs')
     |_,_,_,_=>ad
    else ad
   |_,_=>ad
  |_=>ad
 |_=>ad
def cC(P:yg)(o:yj)(ts:yL Dv)(H:yL aq)(hs:yL ao):uo:=
 match bh P o ts hs with
 |some (C,d,hs')=>ab (C,d,H,hs')
 |none=>match bG P o ts H hs with
  |some (C,d,hs')=>ab (C,d,H,hs')
  |none=>cU P o ts H hs
def fL(ts:yL Dv)(dst:yO Tmp)(d:Dv):yL Dv:=
 match dst with
 |some i=>ts.set i d
 |none=>ts
def jd(dst:yO Tmp)(d:Dv)(hs:yL ao):yL Prop×Dv×yL ao:=([],d,hs)
def dh(P:yg)(ops:Array yj)(o:yj)(ts:yL Dv)(H:yL aq)(hs:yL ao):uo:=
 match o.guard with
 |none=>(cC P o ts H hs).map λ(C,d,H',hs')=>(C++(jd o.dst d hs').1,(jd o.dst d hs').2.1,H',(jd o.dst d hs').2.2)
 |some (j,g)=>match ((ops[j]?).bind (·.dst)).map λt=>ts.getD t .an,hs with
  |some (.p (.bool t)),.b β::hs'=>
   if β=g then(cC P o ts H hs').map λ(C,d,H',f)=>((t=β)::C++(jd o.dst d f).1,(jd o.dst d f).2.1,H',(jd o.dst d f).2.2)
   else ab ([t=β],.bm [],H,hs')
  |some (.bm []),.raw::hs'=>ab ([],.bm [],H,hs')
  |_,_=>ad
def cz(P:yg)(ops:Array yj):yL yj->yL Dv->yL aq->yL ao->yO (yL Prop×yL Dv×yL aq×yL ao)
 |[],ts,H,hs=>ab ([],ts,H,hs)
 |o::h,ts,H,hs=>match dh P ops o ts H hs with
  |some (C,d,H',hs')=>match cz P ops h (fL ts o.dst d) H' hs' with
   |some (C',g,H'',f)=>ab (C++C',g,H'',f)
   |none=>ad
  |none=>ad
def looks(ops:Array yj)(o:yj):yL Nat:=
 (o.op.operands.toList.filterMap λx=>match x with|.tmp t=>ab t|_=>ad)++
 (match o.guard with|some (g,_)=>((ops[g]?).bind (·.dst)).toList|none=>[])
def aI(keep:yL Nat):Nat->yL Dv->yL Dv
 |_,[]=>[]
 |i,d::r=>(if keep.contains i then d else .an)::aI keep (i+1) r
def bM(P:yg)(o:yj)(ts:yL Dv)(H:yL aq)(hs:yL ao):Nat:=
 match o.guard,hs with
 |some (_,f),.b β::hs'=>if β=f then(if(bh P o ts hs').isSome then 0 else if(bG P o ts H hs').isSome then 1 else 2) else 0
 |some _,.raw::_=>0
 |_,hs=>if(bh P o ts hs).isSome then 0 else if(bG P o ts H hs).isSome then 1 else 2
def oM(P:yg)(o:yj)(ts:yL Dv):yO Nat:=
 match o.op with
 |.load t a=>match aF P ts 0 a with
  |.ak id _ _=>ab id
  |.aZ id _ _ _=>ab id
  |_=>ad
 |.slice t x _ _ ad=>match aF P ts t x with
  |.ak id _ _=>ab id
  |_=>ad
 |.lookup t x _ _=>match aF P ts t x with
  |.mp id=>ab id
  |_=>ad
 |_=>ad
def kp(P:yg)(o:yj)(ts:yL Dv)(hs:yL ao):yO (yL Nat):=
 match o.op with
 |.assign _=>ab []
 |.move _=>ab []
 |.makeSlice _ _ _=>ab []
 |.makeMap _ ad=>ab []
 |.alloc _=>ab []
 |.box _ _=>ab []
 |.buildSlice _ _ _=>match hs with
  |.fresh id::_=>ab [id]
  |_::_=>ab []
  |[]=>ad
 |.slice t x _ _ ad=>match aF P ts t x with
  |.rv id _ _ _ _=>ab [id]
  |_=>ab []
 |.store t x y=>match aF P ts 0 x with
  |.ak id _ _=>ab [id]
  |.aZ id _ _ _=>ab [id]
  |_=>ad
 |.call c=>match c.callee with
  |.builtin .append=>match c.args.toList,c.argTypes.toList with
   |[x,y],[t,u]=>match aF P ts t x with
    |.own id _ _ _=>ab [id]
    |.rv id _ _ _ _=>ab [id]
    |.p _=>ab []
    |_=>ad
   |_,_=>ad
  |.value _=>match hs with
   |.call _ _ ids::_=>ab ids
   |_=>ad
  |.invoke _ _=>match hs with
   |.iC _::.call _ _ ids::_=>ab ids
   |_=>ad
  |_=>ad
 |_=>ad
structure Rec where
 hs:List ao
 C:List Prop
 d:Dv
 H:List aq
 H':List aq
 hs':List ao
 bP:Nat
 rd:Option Nat
 tc:Option (List Nat)
 push:Bool
 loc:Bool
 ex:Bool
def kq(o:yj):Bool:=match o.op with
 |.slice _ _ _ _ _=>ae
 |_=>af
def nh(r:Dv)(Hn:yL aq)(ids:yL Nat):Bool:=Hn.length==ids.length&&(r.rn (λj=>ids[j]?)).isSome&&(aq.bB (λj=>ids[j]?) Hn).isSome
def kS(o:yj)(hs:yL ao):Bool:=o.guard.isNone&&match o.op with
 |.call c=>match c.callee with
  |.value _=>match hs with
   |.call r Hn ids::_=>nh r Hn ids
   |_=>af
  |.invoke _ _=>match hs with
   |.iC _::.call r Hn ids::_=>nh r Hn ids
   |_=>af
  |_=>af
 |_=>af
def je(o:yj)(hs:yL ao)(n:Nat):Bool:=o.guard.isNone&&match o.op with
 |.alloc _=>ae
 |.call c=>match c.callee with
  |.value _=>match hs with
   |.call r Hn ids::_=>ids.isEmpty&&nh r Hn [n]
   |_=>af
  |_=>af
 |_=>af
def qn(P:yg)(o:yj)(ts:yL Dv):yO Nat:=oM P o ts
def kT(P:yg)(o:yj)(ts:yL Dv)(hs:yL ao):yO (yL Nat):=if o.guard.isNone then kp P o ts hs else ad
def ni(P:yg)(ops:Array yj):yL yj->yL Dv->yL aq->yL ao->yO (yL Prop×yL Rec×yL Dv×yL aq×yL ao)
 |[],ts,H,hs=>ab ([],[],ts,H,hs)
 |o::h,ts,H,hs=>match dh P ops o (aI (looks ops o) 0 ts) H hs with
  |some (C,d,H',hs')=>match ni P ops h (fL ts o.dst d) H' hs' with
   |some (C',rs,g,H'',f)=>ab (C++C',⟨hs,C,d,H,H',hs',bM P o (aI (looks ops o) 0 ts) H hs,qn P o (aI (looks ops o) 0 ts),kT P o (aI (looks ops o) 0 ts) hs,je o hs H.length,kS o hs,kq o⟩::rs,g,H'',f)
   |none=>ad
  |none=>ad
def nj(A:yL Nat)(i:Nat)(o:yj):Nat:=
 o.after.toList.foldl (λm e=>if Region.binds .any e&&ag (e.on < i) then m|||(1 <<< e.on)|||A.getD e.on 0 else m) 0
def PW:yL yj->Nat->yL Nat->yL Nat
 |[],_,A=>A
 |o::r,i,A=>PW r (i+1) (A++[nj A i o])
def AP(ops:yL yj):yL Nat:=PW ops 0 []
def Qz(l:yL yj):Nat->Bool
 |i=>match l with
  |[]=>ae
  |o::r=>(o.after.toList.all λe=> !Region.binds .any e || decide (e.on < i))&&Qz r (i+1)
def aT(l:yL yj)(i:Nat):yO Tmp:=(l[i]?).bind (·.dst)
noncomputable def ZJz(id:Nat)(q:Rec):Bool:=@decide (dE (q.H'[id]?)=dE (q.H[id]?)) (Classical.propDecidable _)
noncomputable def lV(rs:yL Rec)(i j:Nat):Bool:=
 match rs[i]?,rs[j]? with
 |some r,ab q=>(match r.rd with
  |some id=>ag (id < q.H.length)&&ag (id < r.H.length)&&(if r.ex=ae then q.push else((match q.tc with|some l=> !l.contains id|none=>af) || ZJz id q))
  |none=>af)
 |_,_=>af
def ur(rs:yL Rec)(c:Nat)(r:Rec):Bool:=r.loc || (r.push&&r.H'.length==r.H.length+1&&(rs.take c).all λq=>ag (q.H.length<=r.H.length))
def ku(rs:yL Rec)(c i j:Nat):Bool:=((rs[c]?).map (ur rs c)).getD af&&((i==c&&ag (c < j)&&((rs[j]?).map (·.push)).getD af) || (j==c&&ag (c < i)&&((rs[i]?).map (·.push)).getD af))
noncomputable def uu(ops:Array yj)(rs:yL Rec):Bool:=
 let f:=rs.map (·.bP);let l:=ops.toList;let A:=AP l;let n:=l.length
 (f.length==n)&&Qz l 0&&
 ((yo n).all λi=>match l[i]? with|some o=>A.getD i 0==nj A i o|none=>ae)&&
 ((yo n).all λi=>(yo n).all λj=>i==j || aT l i==ad || !(aT l i==aT l j))&&
 ((yo n).all λi=>match l[i]? with
   |some o=>let k:=looks ops o
    (yo n).all λj=>match aT l j with
      |some t=>i==j || !(k.contains t) || (if j < i then(A.getD i 0).testBit j else(A.getD j 0).testBit i)
      |none=>ae
   |none=>ae)&&
 ((yo (n+1)).any λc=>(yo n).all λi=>f.getD i 0==0 || (yo n).all λj=>i==j || !(f.getD j 0==2) || (if j < i then(A.getD i 0).testBit j else(A.getD j 0).testBit i) || (f.getD i 0==1&&lV rs i j) || ku rs c i j)
noncomputable def uv(P:yg)(ops:Array yj)(ts:yL Dv)(H:yL aq)(hs:yL ao):yO (yL Prop×yL Dv×yL aq×yL ao):=
 if P.follows .mixedOrders then
  match ni P ops ops.toList ts H hs with
  |some (C,rs,f,H',hs')=>if uu ops rs then ab (C,f,H',hs') else ad
  |none=>ad
 else ad
def qo(ts:yL Dv):yL Nat->yL Dv
 |[]=>ts
 |i::r=>qo (ts.set i .an) r
abbrev ZMv:=yO (yL Prop×Ex×yL Dv×yL aq×yL ao)
noncomputable def ev(P:yg):Code->yL Dv->yL aq->yL ao->ZMv
 |.skip,ts,H,hs=>ab ([],.normal,ts,H,hs)
 |.label _,ts,H,hs=>ab ([],.normal,ts,H,hs)
 |.region _ ops h,ts,H,hs=>if h then(uv P ops ts H hs).map λ(C,f,H',hs')=>(C,.normal,f,H',hs') else(cz P ops ops.toList ts H hs).map λ(C,f,H',hs')=>(C,.normal,f,H',hs')
 |.seq x y,ts,H,hs=>match ev P x ts H hs with
  |some (C,.normal,f,H',hs')=>match ev P y f H' hs' with
   |some (C',j,l,H'',m)=>ab (C++C',j,l,H'',m)
   |none=>ad
  |r=>r
 |.cond c x y,ts,H,hs=>match aF P ts 0 c,hs with
  |.p (.bool t),.b ae::hs'=>(ev P x ts H hs').map λ(C,r)=>((t=ae)::C,r)
  |.p (.bool t),.b af::hs'=>(ev P y ts H hs').map λ(C,r)=>((t=af)::C,r)
  |_,_=>ad
 |.block id g,ts,H,hs=>match ev P g ts H hs with
  |some (C,.exit z,f,H',hs')=>ab (C,if z=id then .normal else .exit z,f,H',hs')
  |r=>r
 |.loop g,ts,H,hs=>match hs with
  |.loop A j f H'::hs'=>if j=.normal then ad else ab ([Xn P (.loop g) (qo ts A) H j f H'],j,f,H',hs')
  |_=>ad
 |.scope g,ts,H,hs=>ev P g ts H hs
 |.exit id,ts,H,hs=>ab ([],.exit id,ts,H,hs)
 |.ret,ts,H,hs=>ab ([],.ret,ts,H,hs)
 |_,_,_,_=>ad
def gx(P:yg)(ts:yL Dv)(H:yL aq):yL ResultVar->yL ao->yO (yL Prop×yL Dv)
 |[],_=>ab ([],[])
 |.tmp t::r,hs=>(gx P ts H r hs).map λq=>(q.1,ts.getD t .an::q.2)
 |.cell a g::r,hs=>match ts.getD a .an with
  |.ak id off h=>match H[id]? with
   |some (.var d _)=>match Z6 d h hs with
    |some (C,f,sub,hs')=>if gb P g sub then(gx P ts H r hs').map λq=>(C++[f=off]++q.1,sub::q.2) else ad
    |none=>ad
   |_=>ad
  |_=>ad
def kU:yL Dv->Dv
 |[d]=>d
 |f=>.bm f
def fin(P:yg)(fn:Func)(ts:yL Dv)(H:yL aq)(k:Nat)(keep:yL Nat)(hs:yL ao):yO (yL Prop×Dv×yL aq):=
 match gx P ts H fn.results.toList hs with
 |some (C,f)=>
  let L:=yo k++keep
  match once L,(kU (f.map Dv.arg)).rn (bc L),(kU f).rn (bc L),aQ H L L with
  |true,_,ab r,ab H'=>ab (C,r,H')
  |true,ab r,ad,ab H'=>ab (C,r,H')
  |_,_,_,_=>ad
 |none=>ad
def aX:yL Prop->Prop
 |[]=>True
 |p::r=>p/\aX r
end Go.Ev
end
section
namespace Go.Ev
section
variable{J:Sg}{v:yh}
theorem ZC{k:IntKind}{n:Int}(h:yJ J (.p (.int k n)) v):v=.int k n:=by simpa[yJ,Dv.isAgg,Pl.isAgg,yH,aA] using h
theorem Yh{b:Bool}(h:yJ J (.p (.bool b)) v):v=.bool b:=by simpa[yJ,Dv.isAgg,Pl.isAgg,yH,aA] using h
theorem oN{b:ByteArray}(h:yJ J (.p (.str b)) v):v=.string b:=by simpa[yJ,Dv.isAgg,Pl.isAgg,yH,aA] using h
theorem qp(h:yJ J (.p .bW) v):v=.pointer ad:=by simpa[yJ,Dv.isAgg,Pl.isAgg,yH,aA] using h
theorem AQ(h:yJ J (.p .fn0) v):v=.nilFunc:=by simpa[yJ,Dv.isAgg,Pl.isAgg,yH,aA] using h
theorem Zv(k:IntKind)(n:Int):yJ J (.p (.int k n)) (.int k n):=by simp[yJ,Dv.isAgg,Pl.isAgg,yH,aA]
theorem Yf(b:Bool):yJ J (.p (.bool b)) (.bool b):=by simp[yJ,Dv.isAgg,Pl.isAgg,yH,aA]
theorem Yk:yJ J .an v:=by simp[yJ,Dv.isAgg,yH]
theorem ZT{d:Dv}(ha:d.isAgg=ae):yJ J d v↔∃cs:Array yh,v=.agg cs/\yH J d cs.toList:=by
 simp[yJ,ha]
theorem Zh{d:Dv}(ha:d.isAgg=af):yJ J d v↔yH J d [v]:=by
 simp[yJ,ha]
theorem XS{nn:yO Bool}{s:Nat}{xs:yL Pl}(h:yJ J (.p (.sl nn s xs)) v):
 aW s xs/\∃A c,v=.slice A xs.length c/\xs.length<=c/\c<=maxLen/\iY nn A/\(A=ad->c=0)/\
  (xs≠[]->∃b o us,A=ab ⟨b,o,ad⟩/\ar J.w J.be xs us/\Wn J.w J.be b o us):=by
 rw[Zh (by rfl)]at h;simpa[yH,aA] using h
theorem Yq{nn:yO Bool}{s:Nat}{xs:yL Pl}{A:yO Addr}{c:Nat}(h1:aW s xs)(h2:xs.length<=c)(h3:c<=maxLen)(h4:iY nn A)(h5:A=ad->c=0)
 (h6:xs≠[]->∃b o us,A=ab ⟨b,o,ad⟩/\ar J.w J.be xs us/\Wn J.w J.be b o us):yJ J (.p (.sl nn s xs)) (.slice A xs.length c):=by
 rw[Zh (by rfl)];simp only[yH,aA];exact⟨h1,A,c,rfl,h2,h3,h4,h5,h6⟩
theorem QA{id s:Nat}{nn:yO Bool}{xs:yL Pl}(h:yJ J (.own id nn s xs) v):
 aW s xs/\∃A c,v=.slice A xs.length c/\xs.length<=c/\c<=maxLen/\iY nn A/\(A=ad->c=0)/\
  (xs≠[]->∃b o us,A=ab ⟨b,o,ad⟩/\ar J.w J.be xs us/\Wn J.w J.be b o us)/\di J id s xs.length A c:=by
 rw[Zh (by rfl)]at h;simpa[yH] using h
theorem QB{id s:Nat}{nn:yO Bool}{xs:yL Pl}(h:yJ J (.own id nn s xs) v):yJ J (.p (.sl nn s xs)) v:=by
 obtain⟨f,A,c,rfl,g,j,l,m,y,_⟩:=QA h;exact Yq f g j l m y
end
mutual
theorem X9{w:yr}{S:Nat->Nat->Prop}:∀(x:Pl)(vs:yL yh),aA w S x vs->vs.length=x.size
 |.int _ _,_,h=>by simp only[aA]at h;subst h;rfl
 |.bool _,_,h=>by simp only[aA]at h;subst h;rfl
 |.str _,_,h=>by simp only[aA]at h;subst h;rfl
 |.bW,_,h=>by simp only[aA]at h;subst h;rfl
 |.fn0,_,h=>by simp only[aA]at h;subst h;rfl
 |.eE,_,h=>by simp only[aA]at h;subst h;rfl
 |.cB,_,h=>by simp only[aA]at h;subst h;rfl
 |.gq _,_,h=>by simp only[aA]at h;subst h;rfl
 |.agg f,vs,h=>by
  simp only[aA]at h
  simpa[Pl.size] using aL f vs h
 |.arr n s f,vs,h=>by
  simp only[aA]at h;obtain⟨g,j,l⟩:=h;have:=aL f vs l;rw[this,Pl.size, <-g]
  exact aN j
 |.sl _ _ _,_,h=>by
  simp only[aA]at h;obtain⟨_,A,c,h,_⟩:=h
  subst h;rfl
 |.iface _ _,_,h=>by
  simp only[aA]at h;obtain⟨v,h,_⟩:=h;subst h;rfl
theorem aL{w:yr}{S:Nat->Nat->Prop}:∀(xs:yL Pl)(vs:yL yh),ar w S xs vs->vs.length=Pl.sizes xs
 |[],_,h=>by simp only[ar]at h;subst h;rfl
 |x::xs,vs,h=>by
  simp only[ar]at h;obtain⟨g,f,rfl,j,l⟩:=h;rw[ym,X9 x g j,aL xs f l,Pl.sizes]
theorem aN{s:Nat}:∀{xs:yL Pl},aW s xs->Pl.sizes xs=xs.length*s
 |[],_=>by simp[Pl.sizes]
 |x::xs,h=>by
  rw[Pl.sizes,h x (yav ..),aN (λy f=>h y (yaw _ f)),yag,ybb];omega
end
theorem Z0{w:yr}{S:Nat->Nat->Prop}{xs ys:yL Pl}{us vs:yL yh}(h:ar w S xs us)(k:ar w S ys vs):ar w S (xs++ys) (us++vs):=by
 induction xs generalizing us with
 |nil=>simp only[ar]at h;subst h;simpa using k
 |cons x xs f=>
  simp only[ar]at h;obtain⟨a,b,rfl,g,j⟩:=h;simp only[yaf,ar,yac];exact⟨a,b++vs,rfl,g,f j⟩
theorem Z1{w:yr}{S:Nat->Nat->Prop}{xs ys:yL Pl}{us:yL yh}(h:ar w S (xs++ys) us):∃a b,us=a++b/\ar w S xs a/\ar w S ys b:=by
 induction xs generalizing us with
 |nil=>exact⟨[],us,rfl,by simp[ar],h⟩
 |cons x xs f=>
  simp only[yaf,ar]at h;obtain⟨a,b,rfl,g,j⟩:=h;obtain⟨c,d,rfl,l,m⟩:=f j;exact⟨a++c,d,by simp,by simp only[ar];exact⟨a,c,rfl,g,l⟩,m⟩
theorem XW{s:Nat}{xs ys:yL Pl}(h:aW s xs)(k:aW s ys):aW s (xs++ys):=by
 intro x f;rcases ycm.1 f with h1|h1
 .exact h x h1
 .exact k x h1
theorem Vd{s:Nat}{xs:yL Pl}(h:aW s xs)(n:Nat):aW s (xs.take n):=λx f=>h x (ybr f)
theorem uw{s:Nat}{xs:yL Pl}(h:aW s xs)(n:Nat):aW s (xs.drop n):=λx f=>h x (List.mem_of_mem_drop f)
theorem Wn.append{w:yr}{S:Nat->Nat->Prop}{b o:Nat}{us vs:yL yh}(h:Wn w S b o (us++vs)):Wn w S b o us/\Wn w S b (o+us.length) vs:=by
 constructor
 .intro j u f;exact h j u (by rw[ybe (yu.1 f).1];exact f)
 .intro j u f;have:=h (us.length+j) u (by rw[yaq (by omega)];simpa using f)
  rwa [<-Nat.add_assoc]at this
theorem PX{P:yg}{t:yc}{v:yh}{x:Pl}(h:um P t v=ab x)(w:yr)(S:Nat->Nat->Prop):aA w S x [v]/\x.isAgg=af:=by
 unfold um at h
 split at h <;> first
  |(cases h;done)
  |(simp only[yn]at h;subst h;refine⟨?_,rfl⟩;simp only[aA];done)
  |(simp only[yn]at h;subst h;exact⟨by simp only[aA];exact⟨λ_ f=>(by cases f),ad,0,rfl,yl _,Nat.zero_le _,PV rfl,λ_=>rfl,λg=>absurd rfl g⟩,rfl⟩)
mutual
theorem AR{P:yg}:∀(yD:Nat)(t:yc)(vs:yL yh)(x:Pl)(r:yL yh),oJ P yD t vs=ab (x,r)->∀w S,∃us,vs=us++r/\aA w S x us
 |0,_,_,_,_,h,_,_=>by simp[oJ]at h
 |yD+1,t,vs,x,r,h,w,S=>by
  simp only[oJ]at h;split at h
  .rename_i A _;simp only[yv,yq]at h;obtain⟨⟨l,j⟩,f,rfl,rfl⟩:=h;obtain⟨us,e,g⟩:=eG yD _ _ _ _ f w S;exact⟨us,e,by simpa[aA] using g⟩
  .rename_i n e _;simp only[yv,yq]at h;obtain⟨⟨l,j⟩,f,rfl,rfl⟩:=h;obtain⟨us,m,y,z,g⟩:=fR yD _ _ _ _ _ f w S;exact⟨us,m,by simp only[aA];exact⟨y,z,g⟩⟩
  .split at h
   .rename_i v j;simp only[yv,yq]at h;obtain⟨E,f,rfl,rfl⟩:=h;exact⟨[v],rfl,(PX f w S).1⟩
   .cases h
  .cases h
theorem eG{P:yg}:∀(yD:Nat)(ts:yL yc)(vs:yL yh)(xs:yL Pl)(r:yL yh),dj P yD ts vs=ab (xs,r)->∀w S,∃us,vs=us++r/\ar w S xs us
 |0,_,_,_,_,h,_,_=>by simp[dj]at h
 |yD+1,[],vs,xs,r,h,w,S=>by
  simp only[dj,yn,yq]at h;obtain⟨rfl,rfl⟩:=h
  exact⟨[],rfl,by simp[ar]⟩
 |yD+1,t::ts,vs,xs,r,h,w,S=>by
  simp only[dj]at h;split at h
  .rename_i x F g;simp only[yv,yq]at h;obtain⟨⟨j,l⟩,m,rfl,rfl⟩:=h;obtain⟨us,y,z⟩:=AR yD _ _ _ _ g w S;obtain⟨f,A,E⟩:=eG yD _ _ _ _ m w S;subst A;exact⟨us++f,by rw[y,yac],by simp only[ar];exact⟨us,f,rfl,z,E⟩⟩
  .cases h
theorem fR{P:yg}:∀(yD:Nat)(e:yc)(n:Nat)(vs:yL yh)(xs:yL Pl)(r:yL yh),fQ P yD e n vs=ab (xs,r)->
 ∀w S,∃us,vs=us++r/\xs.length=n/\aW (P.cellsOf e) xs/\ar w S xs us
 |0,_,_,_,_,_,h,_,_=>by simp[fQ]at h
 |yD+1,e,0,vs,xs,r,h,w,S=>by
  simp only[fQ,yn,yq]at h;obtain⟨rfl,rfl⟩:=h
  exact⟨[],rfl,rfl,(λ_ j=>(by cases j)),by simp[ar]⟩
 |yD+1,e,n+1,vs,xs,r,h,w,S=>by
  simp only[fQ]at h;split at h
  .rename_i x R l;split at h
   .rename_i hs;simp only[yv,yq]at h;obtain⟨⟨m,z⟩,A,rfl,rfl⟩:=h;obtain⟨us,E,F⟩:=AR yD _ _ _ _ l w S;obtain⟨f,G,I,M,Q⟩:=fR yD _ _ _ _ _ A w S;subst G;refine⟨us++f,by rw[E,yac],by simp[I], ?_,by simp only[ar];exact⟨us,f,rfl,F,Q⟩⟩;intro y g
    cases g with
    |head=>exact hs
    |tail _ g=>exact M y g
   .cases h
  .cases h
end
theorem PY{J:Sg}{f:yw}(g:f < big):yJ J (.fn f []) (.func (.func f) #[] #[]):=by
 have e:fP f=f:=by
  unfold fP;rw[yW g]
 rw[Zh rfl];simp only[yH];exact⟨#[], #[],by rw[e],yW g,by simp[aH]⟩
theorem nq{P:yg}{t:yc}{v:yh}{J:Sg}:yJ J (oK P t v) v:=by
 unfold oK;split
 .rename_i m;split
  .rename_i x h;split
   .rename_i y;obtain⟨F,e,z⟩:=AR _ _ _ _ _ h J.w J.be;rw[ZT (by simpa[Dv.isAgg] using y)];exact⟨m,rfl,by simp only[yH];rw[e];simpa using z⟩
   .exact Yk
  .exact Yk
 .rename_i f g j;split
  .rename_i l;have A:g= #[]:=by simpa using l.1
   have E:j= #[]:=by simpa using l.2.1
   subst A;subst E;exact PY l.2.2
  .exact Yk
 .split
  .rename_i x h;have:=PX h J.w J.be;rw[Zh (by simpa[Dv.isAgg] using this.2)];simpa[yH] using this.1
  .exact Yk
theorem Zo{P:yg}{J:Sg}{ts:yL Dv}{a:Act}(h:aC J ts a)(t:yc)(x:yp):yJ J (aF P ts t x) (a.eval x):=by
 cases x with
 |tmp i=>
  simp only[aF,Act.eval]
  cases j:ts[i]? with
  |none=>simp only[List.getD,j,Option.getD_none];exact Yk
  |some d=>simp only[List.getD,j,Option.getD_some];exact h.at_ i d j
 |const v=>exact nq
 |global g=>exact Yk
 |func f=>
  simp only[aF,Act.eval];split
  .rename_i l;exact PY l
  .exact Yk
theorem ZCe{J:Sg}{d:Dv}{x:Pl}{v:yh}(h:d.plain=ab x)(f:yJ J d v):yJ J (.p x) v:=by
 unfold Dv.plain at h;split at h
 .cases h;exact f
 .cases h;exact QB f
 .cases h
mutual
theorem qq{J:Sg}:∀(d:Dv)(x:Pl)(us:yL yh),d.flat=ab x->yH J d us->aA J.w J.be x us
 |.p y,x,us,h,f=>by rw[Dv.flat]at h;cases h;simpa[yH] using f
 |.own id Q s j,x,us,h,f=>by
  rw[Dv.flat]at h;cases h;simp only[yH]at f;obtain⟨m,A,c,z,E,F,G,I,M,_⟩:=f;simp only[aA]
  exact⟨m,A,c,z,E,F,G,I,M⟩
 |.agg l,x,us,h,f=>by
  rw[Dv.flat]at h
  cases g:Dv.aS l with
  |none=>rw[g]at h;cases h
  |some j=>
   rw[g]at h;cases h;simp only[yH]at f;simp only[aA]
   exact ei l j us g f
 |.elem _,x,us,h,f=>by rw[Dv.flat]at h <;> simp_all
 |.ak _ _ _,x,us,h,f=>by rw[Dv.flat]at h <;> simp_all
 |.view _ _ _ _ _ _,x,us,h,f=>by rw[Dv.flat]at h <;> simp_all
 |.arr _ _ _,x,us,h,f=>by rw[Dv.flat]at h <;> simp_all
 |.fn _ _,x,us,h,f=>by rw[Dv.flat]at h <;> simp_all
 |.iface _ _,x,us,h,f=>by rw[Dv.flat]at h <;> simp_all
 |.bm _,x,us,h,f=>by rw[Dv.flat]at h <;> simp_all
 |.mp _,x,us,h,f=>by rw[Dv.flat]at h <;> simp_all
 |.rv _ _ _ _ _,x,us,h,f=>by rw[Dv.flat]at h <;> simp_all
 |.aZ _ _ _ _,x,us,h,f=>by rw[Dv.flat]at h <;> simp_all
 |.an,x,us,h,f=>by rw[Dv.flat]at h <;> simp_all
theorem ei{J:Sg}:∀(f:yL Dv)(xs:yL Pl)(us:yL yh),Dv.aS f=ab xs->aM J f us->ar J.w J.be xs us
 |[],xs,us,h,g=>by rw[Dv.aS]at h;cases h;simpa[aM,ar] using g
 |d::f,xs,us,h,g=>by
  rw[Dv.aS]at h;split at h
  .rename_i x j l m;cases h;simp only[aM]at g;obtain⟨a,b,rfl,y,z⟩:=g;simp only[ar];exact⟨a,b,rfl,qq d x a l y,ei f j b m z⟩
  .cases h
end
theorem AS{d:Dv}{x:Pl}(h:d.flat=ab x):x.isAgg=d.isAgg:=by
 cases d <;> first
  |(rw[Dv.flat]at h;cases h;rfl)
  |(rename_i g;rw[Dv.flat]at h;cases f:Dv.aS g with
     |none=>rw[f]at h;cases h
     |some j=>rw[f]at h;cases h;rfl)
  |(simp[Dv.flat]at h)
theorem AT{J:Sg}{d:Dv}{x:Pl}{v:yh}(h:d.flat=ab x)(f:yJ J d v):yJ J (.p x) v:=by
 have j:=AS h
 cases g:d.isAgg with
 |true=>
  rw[ZT g]at f;rw[ZT (by show x.isAgg=_;rw[j,g])];obtain⟨l,rfl,m⟩:=f
  exact⟨l,rfl,by simp only[yH];exact qq d x _ h m⟩
 |false=>
  rw[Zh g]at f;rw[Zh (by show x.isAgg=_;rw[j,g])];simp only[yH];exact qq d x _ h f
theorem PZ{J:Sg}{f:yL Dv}{v:yh}(g:yJ J (.agg f) v):yJ J (Dv.dI f) v:=by
 unfold Dv.dI
 cases h:Dv.aS f with
 |none=>exact g
 |some j=>exact AT (d:=.agg f) (by rw[Dv.flat,h];rfl) g
theorem AU{J:Sg}{d:Dv}{v:yh}(ids:yL Nat)(f:yJ J d v):yJ J (d.cr ids) v:=by
 unfold Dv.cr;split
 .split
  .exact f
  .exact QB f
 .split
  .exact f
  .exact PZ f
 .exact f
theorem ZHd{J:Sg}{d:Dv}{v:yh}(f:yJ J d v):yJ J d.arg v:=by
 unfold Dv.arg;split
 .exact QB f
 .exact PZ f
 .exact f
end Go.Ev
end
section
namespace Go.Ev
theorem nr{k:IntKind}{x:Int}(h:Wa k x):k.wrap x=x:=by
 obtain⟨f,g⟩:=h;cases k <;> simp only[IntKind.min,IntKind.max,IntKind.wrap,IntKind.signed,IntKind.bits] at* <;> simp at* <;> (try split) <;> omega
theorem Zl{A B:yL Prop}:aX (A++B)↔aX A/\aX B:=by
 induction A with
 |nil=>simp[aX]
 |cons p A f=>simp[aX,f,and_assoc]
theorem qr{k:IntKind}{x:Int}{hs hs':yL ao}{C:yL Prop}{d:Dv}(h:gr k x hs=ab (C,d,hs'))(hc:aX C)(J:Sg):yJ J d (.int k (k.wrap x)):=by
 unfold gr at h;split at h
 .cases h;rw[nr hc.1];exact Zv _ _
 .cases h;exact Zv _ _
 .cases h
theorem oO(n a:Nat)(h:a < 2 ^ n):(yca n (a:Int)).toNat=a:=by
 rw[BitVec.ofInt_natCast,BitVec.toNat_ofNat];exact Nat.mod_eq_of_lt h
theorem RA{k:IntKind}{x:Int}(h:Wa k x)(f:0<=x):x.toNat < 2 ^ k.bits:=by
 obtain⟨g,j⟩:=h;cases k <;> simp only[IntKind.min,IntKind.max,IntKind.signed,IntKind.bits] at* <;> simp at* <;> omega
theorem ux{op:BinOp}{k:IntKind}{x y:Int}{r:Nat}(f:up op x.toNat y.toNat=ab r)(l:0<=x)(z:Wa k x)(m:0<=y)(A:Wa k y)(j:Wa k (r:Int)):
 bits op k x y=(r:Int):=by
 obtain⟨a,rfl⟩:=Int.eq_ofNat_of_zero_le l;obtain⟨b,rfl⟩:=Int.eq_ofNat_of_zero_le m;have g:=RA z l;have h:=RA A m;simp only[Int.toNat_natCast]at g h f;unfold up at f;split at f
 .cases f;have e:bits .and k (a:Int) (b:Int)=k.wrap ((yca k.bits (a:Int)&&&yca k.bits (b:Int)).toNat:Int):=rfl;rw[e,BitVec.toNat_and,oO _ _ g,oO _ _ h];exact nr j
 .cases f;have e:bits .or k (a:Int) (b:Int)=k.wrap ((yca k.bits (a:Int)|||yca k.bits (b:Int)).toNat:Int):=rfl;rw[e,BitVec.toNat_or,oO _ _ g,oO _ _ h];exact nr j
 .cases f;have e:bits .xor k (a:Int) (b:Int)=k.wrap ((yca k.bits (a:Int)^^^yca k.bits (b:Int)).toNat:Int):=rfl;rw[e,BitVec.toNat_xor,oO _ _ g,oO _ _ h];exact nr j
 .cases f
theorem ZwM{P:yg}{op:BinOp}{k:IntKind}{x y:Int}{hs hs':yL ao}{C:yL Prop}{d:Dv}(h:YP op k x y hs=ab (C,d,hs'))(hc:aX C)(J:Sg)(t:yc):
 ∃v,(binOp op t (.int k x) (.int k y)).run P J.w=.ok v J.w/\yJ J d v:=by
 unfold YP at h;split at h
 .exact⟨_,by rw[binOp_add];rfl,qr h hc J⟩
 .exact⟨_,by rw[binOp_sub];rfl,qr h hc J⟩
 .exact⟨_,by rw[binOp_mul];rfl,qr h hc J⟩
 .split at h
  .cases h;obtain⟨f,g,j,_⟩:=hc;have l:y≠0:=by omega
   refine⟨_, ?_,Zv k (x / y)⟩;rw[binOp_quo];simp only[Op.intDiv,l,if_false];rw[Int.tdiv_eq_ediv_of_nonneg f,nr j];rfl
  .cases h;have l:y≠0:=hc.1;refine⟨_, ?_,Zv k _⟩;rw[binOp_quo];simp only[Op.intDiv,l,if_false];rfl
  .cases h
 .split at h
  .cases h;obtain⟨f,g,_⟩:=hc;have l:y≠0:=by omega
   refine⟨_, ?_,Zv k (x % y)⟩;rw[binOp_rem];simp only[Op.intDiv,l,if_false];rw[Int.tmod_eq_emod_of_nonneg f];rfl
  .cases h;have l:y≠0:=hc.1;refine⟨_, ?_,Zv k _⟩;rw[binOp_rem];simp only[Op.intDiv,l,if_false];rfl
  .cases h
 .split at h
  .simp only[yv,yq]at h;obtain⟨r,m,rfl,rfl,rfl⟩:=h;obtain⟨f,g,j,z,A,_⟩:=hc;refine⟨_, ?_,Zv k _⟩;rw[binOp_and,intBits_and,ux m f g j z A];rfl
  .cases h;exact⟨_,by rw[binOp_and,intBits_and];rfl,Zv k _⟩
  .cases h
 .split at h
  .simp only[yv,yq]at h;obtain⟨r,m,rfl,rfl,rfl⟩:=h;obtain⟨f,g,j,z,A,_⟩:=hc;refine⟨_, ?_,Zv k _⟩;rw[binOp_or,intBits_or,ux m f g j z A];rfl
  .cases h;exact⟨_,by rw[binOp_or,intBits_or];rfl,Zv k _⟩
  .cases h
 .split at h
  .simp only[yv,yq]at h;obtain⟨r,m,rfl,rfl,rfl⟩:=h;obtain⟨f,g,j,z,A,_⟩:=hc;refine⟨_, ?_,Zv k _⟩;rw[binOp_xor,intBits_xor,ux m f g j z A];rfl
  .cases h;exact⟨_,by rw[binOp_xor,intBits_xor];rfl,Zv k _⟩
  .cases h
 .split at h
  .cases h;exact⟨_,by rw[binOp_andNot,intBits_andNot];rfl,Zv k _⟩
  .cases h
 all_goals first
  |(cases h;done)
  |(cases h
    first
     |exact⟨_,by rw[binOp_eql];rfl,Yf _⟩
     |exact⟨_,by rw[binOp_neq];rfl,Yf _⟩
     |exact⟨_,by rw[binOp_lss];rfl,Yf _⟩
     |exact⟨_,by rw[binOp_leq];rfl,Yf _⟩
     |exact⟨_,by rw[binOp_gtr];rfl,Yf _⟩
     |exact⟨_,by rw[binOp_geq];rfl,Yf _⟩)
theorem ZsB{P:yg}{op:BinOp}{k yk:IntKind}{x y:Int}{hs hs':yL ao}{C:yL Prop}{d:Dv}(h:Wu op k x y hs=ab (C,d,hs'))(hc:aX C)(J:Sg):
 ∃v,(Op.shift op k x yk y).run P J.w=.ok v J.w/\yJ J d v:=by
 unfold Wu at h;split at h
 .cases h;obtain⟨j,g,l,_⟩:=hc;refine⟨_, ?_,Zv k _⟩;have f:¬y < 0:=by omega
  simp only[Op.shift,f,if_false];rw[yay (Nat.le_of_lt g),nr l];rfl
 .cases h;refine⟨_, ?_,Zv k _⟩;have f:¬y < 0:=by have:0<=y:=hc.1;omega
  simp only[Op.shift,f,if_false];rfl
 .cases h;obtain⟨j,g,_⟩:=hc;refine⟨_, ?_,Zv k _⟩;have f:¬y < 0:=by omega
  simp only[Op.shift,f,if_false];rw[yay g,Int.fdiv_eq_ediv_of_nonneg _ (by exact Int.le_of_lt (Int.pow_pos (by decide)))];rfl
 .cases h;refine⟨_, ?_,Zv k _⟩;have f:¬y < 0:=by have:0<=y:=hc.1;omega
  simp only[Op.shift,f,if_false];rfl
 .cases h
mutual
theorem AV{w:yr}{S:Nat->Nat->Prop}:∀(x:Pl)(vs:yL yh),aA w S x vs->∀u,u∈vs->u.oneCell'=ae
 |.int _ _,_,h,u,f=>by simp only[aA]at h;subst h;cases yba.1 f;rfl
 |.bool _,_,h,u,f=>by simp only[aA]at h;subst h;cases yba.1 f;rfl
 |.str _,_,h,u,f=>by simp only[aA]at h;subst h;cases yba.1 f;rfl
 |.bW,_,h,u,f=>by simp only[aA]at h;subst h;cases yba.1 f;rfl
 |.fn0,_,h,u,f=>by simp only[aA]at h;subst h;cases yba.1 f;rfl
 |.eE,_,h,u,f=>by simp only[aA]at h;subst h;cases yba.1 f;rfl
 |.cB,_,h,u,f=>by simp only[aA]at h;subst h;cases yba.1 f;rfl
 |.gq _,_,h,u,f=>by simp only[aA]at h;subst h;cases yba.1 f;rfl
 |.agg g,vs,h,u,f=>by
  simp only[aA]at h
  exact ce g vs h u f
 |.arr n s g,vs,h,u,f=>by
  simp only[aA]at h
  exact ce g vs h.2.2 u f
 |.sl _ _ _,_,h,u,f=>by
  simp only[aA]at h;obtain⟨_,A,c,h,_⟩:=h
  subst h;cases yba.1 f;rfl
 |.iface _ _,_,h,u,f=>by
  simp only[aA]at h;obtain⟨v,h,_⟩:=h;subst h;cases yba.1 f;rfl
theorem ce{w:yr}{S:Nat->Nat->Prop}:∀(xs:yL Pl)(vs:yL yh),ar w S xs vs->∀u,u∈vs->u.oneCell'=ae
 |[],_,h,u,f=>by simp only[ar]at h;subst h;cases f
 |x::xs,vs,h,u,f=>by
  simp only[ar]at h;obtain⟨j,g,rfl,l,m⟩:=h;rcases ycm.1 f with h3|h3
  .exact AV x j l u h3
  .exact ce xs g m u h3
end
mutual
theorem Xu{J:Sg}:∀(d:Dv)(vs:yL yh),yH J d vs->vs.length=d.size
 |.p x,vs,h=>by simp only[yH]at h;exact X9 x vs h
 |.elem _,_,h=>by simp only[yH]at h;obtain⟨b,o,y,rfl,_⟩:=h;rfl
 |.ak _ _ _,_,h=>by simp only[yH]at h;obtain⟨b,_,_,rfl⟩:=h;rfl
 |.own _ _ _ _,_,h=>by simp only[yH]at h;obtain⟨_,A,c,rfl,_⟩:=h;rfl
 |.view _ _ _ _ _ _,_,h=>by simp only[yH]at h;obtain⟨b,c,a,_,_,rfl,_⟩:=h;rfl
 |.agg f,vs,h=>by simp only[yH]at h;simpa[Dv.size] using dp f vs h
 |.arr n s f,vs,h=>by
  simp only[yH]at h;obtain⟨j,l,m⟩:=h;rw[dp f vs m,Dv.size, <-j]
  exact cY l
 |.fn _ _,_,h=>by simp only[yH]at h;obtain⟨z,g,rfl,_⟩:=h;rfl
 |.iface _ _,_,h=>by simp only[yH]at h;obtain⟨g,rfl,_⟩:=h;rfl
 |.bm _,_,h=>by simp only[yH]at h;obtain⟨g,rfl,_⟩:=h;rfl
 |.mp _,_,h=>by simp only[yH]at h;obtain⟨b,_,_,rfl⟩:=h;rfl
 |.rv _ _ _ _ _,_,h=>by simp only[yH]at h;obtain⟨A,c,rfl,_⟩:=h;rfl
 |.aZ _ _ _ _,_,h=>by simp only[yH]at h;obtain⟨b,o,rfl,_⟩:=h;rfl
 |.an,_,h=>by simpa[yH,Dv.size] using h
theorem dp{J:Sg}:∀(g:yL Dv)(vs:yL yh),aM J g vs->vs.length=Dv.sizes g
 |[],_,h=>by simp only[aM]at h;subst h;rfl
 |x::j,vs,h=>by
  simp only[aM]at h;obtain⟨l,f,rfl,m,y⟩:=h;rw[ym,Xu x l m,dp j f y,Dv.sizes]
theorem cY{s:Nat}:∀{xs:yL Dv},(∀x,x∈xs->x.size=s)->Dv.sizes xs=xs.length*s
 |[],_=>by simp[Dv.sizes]
 |x::xs,h=>by
  rw[Dv.sizes,h x (yav ..),cY (λy f=>h y (yaw _ f)),yag,ybb];omega
end
theorem kV{w:yr}{S:Nat->Nat->Prop}{xs:yL Pl}{us:yL yh}{i:Nat}{y:Pl}(h:ar w S xs us)(f:xs[i]? =ab y):
 ∃a b c,us=a++(b++c)/\a.length=Pl.sizes (xs.take i)/\aA w S y b/\b.length=y.size/\ar w S (xs.take i) a/\ar w S (xs.drop (i+1)) c:=by
 have A:i < xs.length:=(yu.1 f).1
 have m:xs=xs.take i++(y::xs.drop (i+1)):=by
  rw[<-(yu.1 f).2,List.getElem_cons_drop,ybc]
 rw[m]at h;obtain⟨a,r,rfl,g,j⟩:=Z1 h;simp only[ar]at j;obtain⟨b,c,rfl,l,z⟩:=j;exact⟨a,b,c,rfl,aL _ _ g,l,X9 _ _ l,g,z⟩
theorem qt{J:Sg}{xs ys:yL Dv}{us vs:yL yh}(h:aM J xs us)(k:aM J ys vs):aM J (xs++ys) (us++vs):=by
 induction xs generalizing us with
 |nil=>simp only[aM]at h;subst h;simpa using k
 |cons x xs f=>
  simp only[aM]at h;obtain⟨a,b,rfl,g,j⟩:=h;simp only[yaf,aM,yac];exact⟨a,b++vs,rfl,g,f j⟩
theorem ZwN{J:Sg}{xs ys:yL Dv}{us:yL yh}(h:aM J (xs++ys) us):∃a b,us=a++b/\aM J xs a/\aM J ys b:=by
 induction xs generalizing us with
 |nil=>exact⟨[],us,rfl,by simp[aM],h⟩
 |cons x xs f=>
  simp only[yaf,aM]at h;obtain⟨a,b,rfl,g,j⟩:=h;obtain⟨c,d,rfl,l,m⟩:=f j;exact⟨a++c,d,by simp,by simp only[aM];exact⟨a,c,rfl,g,l⟩,m⟩
theorem lW{J:Sg}{xs:yL Dv}{us:yL yh}{i:Nat}{y:Dv}(h:aM J xs us)(l:xs[i]? =ab y):
 ∃a b c,us=a++(b++c)/\a.length=Dv.sizes (xs.take i)/\yH J y b/\b.length=y.size/\aM J (xs.take i) a/\aM J (xs.drop (i+1)) c:=by
 have m:xs=xs.take i++(y::xs.drop (i+1)):=by
  rw[<-(yu.1 l).2,List.getElem_cons_drop,ybc]
 rw[m]at h;obtain⟨a,r,rfl,f,g⟩:=ZwN h;simp only[aM]at g;obtain⟨b,c,rfl,j,z⟩:=g;exact⟨a,b,c,rfl,dp _ _ f,j,Xu _ _ j,f,z⟩
theorem jw{J:Sg}:∀{xs:yL Pl}{us:yL yh},aM J (xs.map .p) us↔ar J.w J.be xs us
 |[],us=>by simp[aM,ar]
 |x::xs,us=>by
  simp only[yah,aM,ar,yH];constructor
  .rintro⟨a,b,rfl,f,g⟩;exact⟨a,b,rfl,f,jw.1 g⟩
  .rintro⟨a,b,rfl,f,g⟩;exact⟨a,b,rfl,f,jw.2 g⟩
theorem RB{P:yg}{t:yc}(h:(P.underlying t).isSome=ae)(w:yr):(isAgg t).run P w=.ok (Xt P t) w:=by
 cases f:P.underlying t with
 |none=>simp[f]at h
 |some d=>
  unfold isAgg Xt;rw[Sem.run_bind,run_underlying f w];cases d <;> simp[f]
theorem ZV{P:yg}{t:yc}(h:(P.info? t).isSome=ae)(w:yr):(sizeOf t).run P w=.ok (P.cellsOf t) w:=by
 cases f:P.info? t with
 |none=>simp[f]at h
 |some i=>simp[sizeOf,typeInfo,f,Program.cellsOf]
theorem kv{P:yg}{J:Sg}{t:yc}{d:Dv}{cs:Array yh}{a b c:yL yh}(hcs:cs.toList=a++(b++c))(g:yH J d b)(hs:P.cellsOf t=d.size)(hi:(P.info? t).isSome=ae)
 (hu:(P.underlying t).isSome=ae) (ha:Xt P t=d.isAgg) (hn:d.size≠0):∃v,(part t cs a.length).run P J.w=.ok v J.w/\yJ J d v:=by
 have h:b.length=d.size:=Xu _ _ g;unfold part;simp only[Sem.run_bind,RB hu,Result.andThen_ok]
 cases f:d.isAgg with
 |true=>
  rw[ha,f];simp only[if_true,Sem.run_bind,ZV hi,Result.andThen_ok,Sem.run_pure];refine⟨_,rfl, ?_⟩;rw[ZT f];refine⟨_,rfl, ?_⟩
  have:(cs.extract a.length (a.length+P.cellsOf t)).toList=b:=by
   rw[Array.toList_extract,hcs,hs, <-h,List.extract_eq_take_drop];simp
  rw[this]
  exact g
 |false=>
  rw[ha,f];simp only[Bool.false_eq_true,if_false]
  have j:d.size=1:=by
   cases d with
   |p x=>cases x <;> first|rfl|(simp[Dv.isAgg,Pl.isAgg]at f)
   |agg _=>simp[Dv.isAgg]at f
   |arr _ _ _=>simp[Dv.isAgg]at f
   |_=>rfl
  rw[j]at h
  obtain⟨v,rfl⟩:∃v,b=[v]:=by
   match b,h with
   |[v],_=>exact⟨v,rfl⟩
  have l:cs[a.length]? =ab v:=by
   rw[<-yby,hcs];simp
  rw[l];exact⟨v,rfl,(Zh f).2 g⟩
theorem ZsC{P:yg}{J:Sg}{t:yc}{x d:Dv}{i:Nat}{v:yh}(h:jb P t x i=ab d)(l:yJ J x v):
 ∃u,(Instr.field t v i).run P J.w=.ok u J.w/\yJ J d u:=by
 unfold jb at h;split at h
 .rename_i U W z;split at h
  .rename_i y A;split at h
   .rename_i g;cases h;unfold ko at g;split at g
    .rename_i f E;simp only[yi,yT,yE]at g;obtain⟨⟨⟨⟨⟨F,G⟩,I⟩,M⟩,Q⟩,R⟩:=g;rw[ZT rfl]at l;obtain⟨X,rfl,l⟩:=l;simp only[yH,aA]at l;obtain⟨a,b,c,e,S,T,_⟩:=kV l A;obtain⟨u,j,m⟩:=kv (P:=P) (J:=J) (t:=f.type) (d:=.p y) e (by simpa[yH] using T) G I Q M R;refine⟨u, ?_,m⟩;rw[S, <-F]at j;simp[Instr.field,run_underlying z,E,asAgg,j]
    .cases g
   .cases h
  .cases h
 .rename_i U W z;split at h
  .rename_i y A;split at h
   .rename_i g;cases h;unfold ko at g;split at g
    .rename_i f E;simp only[yi,yT,yE]at g;obtain⟨⟨⟨⟨⟨F,G⟩,I⟩,M⟩,Q⟩,R⟩:=g;rw[ZT rfl]at l;obtain⟨X,rfl,l⟩:=l;simp only[yH]at l;obtain⟨a,b,c,e,S,T,_⟩:=lW l A;obtain⟨u,j,m⟩:=kv (P:=P) (J:=J) (t:=f.type) (d:=d) e T G I Q M R;refine⟨u, ?_,m⟩;rw[S, <-F]at j;simp[Instr.field,run_underlying z,E,asAgg,j]
    .cases g
   .cases h
  .cases h
 .cases h
theorem Addr.bH(b o n:Nat):(⟨b,o,ad⟩:Addr).add n=⟨b,o+n,ad⟩:=Addr.add_lit b o n
theorem uz{w:yr}{S:Nat->Nat->Prop}{s:Nat}{xs:yL Pl}{us:yL yh}{b o i:Nat}{y:Pl}(hs:aW s xs)(h:ar w S xs us)(hc:Wn w S b o us)(g:xs[i]? =ab y):
 ∃f,aA w S y f/\Wn w S b (o+i*s) f:=by
 obtain⟨a,f,c,rfl,j,l,_⟩:=kV h g;have m:i < xs.length:=(yu.1 g).1
 have z:a.length=i*s:=by
  rw[j,aN (Vd hs i),yaa,yay (Nat.le_of_lt m)]
 refine⟨f,l, ?_⟩;have A:=(Wn.append (Wn.append hc).2).1
 rwa [z]at A
theorem uA{P:yg}{J:Sg}{t:yc}{d:Dv}{b o:Nat}{us:yL yh}(g:yH J d us)(hc:∀(j:Nat)(u:yh),us[j]? =ab u->J.w.cell? ⟨b,o+j,ad⟩=ab u)(hs:P.cellsOf t=d.size)
 (hi:(P.info? t).isSome=ae) (hu:(P.underlying t).isSome=ae) (ha:Xt P t=d.isAgg):∃v,(loadVar t ⟨b,o,ad⟩).run P J.w=.ok v J.w/\yJ J d v:=by
 have h:us.length=d.size:=Xu _ _ g;unfold loadVar;simp only[Sem.run_bind,RB hu,Result.andThen_ok]
 cases f:d.isAgg with
 |true=>
  rw[ha,f];have l:=run_loadCells_list (P:=P) J.w ⟨b,o,ad⟩ us (λj u hu=>by rw[Addr.bH];exact hc j u hu);rw[h, <-hs]at l;simp only[if_true,Sem.run_bind,ZV hi,Result.andThen_ok,l,Sem.run_pure]
  exact⟨_,rfl,(ZT f).2 ⟨_,rfl,by simpa using g⟩⟩
 |false=>
  rw[ha,f];simp only[Bool.false_eq_true,if_false]
  have m:d.size=1:=by
   cases d with
   |p x=>cases x <;> first|rfl|(simp[Dv.isAgg,Pl.isAgg]at f)
   |agg _=>simp[Dv.isAgg]at f
   |arr _ _ _=>simp[Dv.isAgg]at f
   |_=>rfl
  rw[m]at h
  obtain⟨v,rfl⟩:∃v,us=[v]:=by
   match us,h with
   |[v],_=>exact⟨v,rfl⟩
  have:=hc 0 v rfl;simp only[Nat.add_zero]at this;rw[run_load,this];exact⟨v,rfl,(Zh f).2 g⟩
mutual
theorem kW{f:Nat->yO Nat}:∀(d d':Dv),d.rn f=ab d'->d'.size=d.size/\d'.isAgg=d.isAgg
 |.p x,d',h=>by simp only[Dv.rn,yn]at h;subst h;exact⟨rfl,rfl⟩
 |.elem x,d',h=>by simp only[Dv.rn,yn]at h;subst h;exact⟨rfl,rfl⟩
 |.ak id off m,d',h=>by simp only[Dv.rn,yv]at h;obtain⟨i,_,rfl⟩:=h;exact⟨rfl,rfl⟩
 |.own id A s l,d',h=>by simp only[Dv.rn,yv]at h;obtain⟨i,_,rfl⟩:=h;exact⟨rfl,rfl⟩
 |.view id off m s lo n,d',h=>by simp only[Dv.rn,yv]at h;obtain⟨i,_,rfl⟩:=h;exact⟨rfl,rfl⟩
 |.agg l,d',h=>by
  simp only[Dv.rn,yv]at h;obtain⟨j,y,rfl⟩:=h
  exact⟨by simp only[Dv.size];exact fS l j y,rfl⟩
 |.arr n s l,d',h=>by simp only[Dv.rn,yv]at h;obtain⟨j,_,rfl⟩:=h;exact⟨rfl,rfl⟩
 |.fn g z,d',h=>by simp only[Dv.rn,yv]at h;obtain⟨j,_,rfl⟩:=h;exact⟨rfl,rfl⟩
 |.iface t x,d',h=>by simp only[Dv.rn,yv]at h;obtain⟨j,_,rfl⟩:=h;exact⟨rfl,rfl⟩
 |.bm l,d',h=>by simp only[Dv.rn,yv]at h;obtain⟨j,_,rfl⟩:=h;exact⟨rfl,rfl⟩
 |.mp id,d',h=>by simp only[Dv.rn,yv]at h;obtain⟨j,_,rfl⟩:=h;exact⟨rfl,rfl⟩
 |.rv id _ _ _ _,d',h=>by simp only[Dv.rn,yv]at h;obtain⟨j,_,rfl⟩:=h;exact⟨rfl,rfl⟩
 |.aZ id _ _ _,d',h=>by simp only[Dv.rn,yv]at h;obtain⟨j,_,rfl⟩:=h;exact⟨rfl,rfl⟩
 |.an,d',h=>by simp only[Dv.rn,yn]at h;subst h;exact⟨rfl,rfl⟩
theorem fS{f:Nat->yO Nat}:∀(j g:yL Dv),Dv.bB f j=ab g->Dv.sizes g=Dv.sizes j
 |[],g,h=>by simp only[Dv.bB,yn]at h;subst h;rfl
 |x::r,g,h=>by
  simp only[Dv.bB]at h;split at h
  .rename_i y l m z;cases h;simp only[Dv.sizes];rw[(kW x y m).1,fS r l z]
  .cases h
end
theorem AW{f:Nat->yO Nat}:∀{j g:yL Dv},Dv.bB f j=ab g->g.length=j.length
 |[],g,h=>by simp only[Dv.bB,yn]at h;subst h;rfl
 |x::r,g,h=>by
  simp only[Dv.bB]at h;split at h
  .rename_i y m z l;cases h;simp[AW l]
  .cases h
theorem RC{f:Nat->yO Nat}{s:Nat}:∀{l g:yL Dv},Dv.bB f l=ab g->(∀x,x∈l->x.size=s)->∀x,x∈g->x.size=s
 |[],g,h,_=>by simp only[Dv.bB,yn]at h;subst h;intro x A;cases A
 |x::r,g,h,m=>by
  simp only[Dv.bB]at h;split at h
  .rename_i y I E F;cases h;intro z j
   cases j with
   |head=>rw[(kW x y E).1];exact m x (yav ..)
   |tail _ j=>exact RC F (λw G=>m w (yaw _ G)) z j
  .cases h
structure Rn(f:Nat->Option Nat)(J J':Sg):Prop where
 w:J'.w=J.w
 be:∀(b o:Nat)(v:yh),J.w.cell? ⟨b,o,ad⟩=ab v->J.be b o->J'.be b o
 m:∀(id id':Nat),f id=ab id'->∀(a:Option Nat),J.m[id]? =ab a->J'.m[id']? =ab a
 H:∀(id id':Nat),f id=ab id'->∀(e:aq),J.H[id]? =ab e->∃e',J'.H[id']? =ab e'/\e.rn f=ab e'
theorem Rn.cells{f:Nat->yO Nat}{J J':Sg}(h:Rn f J J'):∀(b o:Nat)(v:yh),J.w.cell? ⟨b,o,ad⟩=ab v->J.be b o->J'.w.cell? ⟨b,o,ad⟩=ab v/\J'.be b o:=
 λb o v g j=>⟨by rw[h.w];exact g,h.be b o v g j⟩
theorem Rn.var{f:Nat->yO Nat}{J J':Sg}(h:Rn f J J'){id g:Nat}(l:f id=ab g)(hv:∃d st,J.H[id]? =ab (.var d st)):∃d st,J'.H[g]? =ab (.var d st):=by
 obtain⟨d,st,hv⟩:=hv;obtain⟨z,m,j⟩:=h.H id g l _ hv;simp only[aq.rn,yv]at j;obtain⟨y,_,rfl⟩:=j;exact⟨y,st,m⟩
theorem Rn.map{f:Nat->yO Nat}{J J':Sg}(h:Rn f J J'){id g:Nat}(l:f id=ab g)(hv:∃t bR,J.H[id]? =ab (.map t bR)):∃t bR,J'.H[g]? =ab (.map t bR):=by
 obtain⟨d,st,hv⟩:=hv;obtain⟨y,m,j⟩:=h.H id g l _ hv;simp only[aq.rn,yn]at j;subst j;exact⟨d,st,m⟩
theorem Rn.front{f:Nat->yO Nat}{J J':Sg}(h:Rn f J J'){id g s len c:Nat}{A:yO Addr}(j:f id=ab g)(hv:di J id s len A c):di J' g s len A c:=by
 obtain⟨e,F,G,I,M⟩:=hv;obtain⟨U,Q,E⟩:=h.H id g j _ G;simp only[aq.rn,yn]at E;subst E;refine⟨e,F,Q,I,λR=> ?_⟩;rcases M R with⟨l,y⟩|⟨b,z,l,y,S,T⟩
 .exact .inl ⟨h.m _ _ j _ l,y⟩
 .exact .inr ⟨b,z,h.m _ _ j _ l,y,by rw[h.w];exact S,T⟩
theorem Rn.row{f:Nat->yO Nat}{J J':Sg}(h:Rn f J J'){id g v s:Nat}{st:Bool}{e:yc}{d:Dv}(l:f id=ab g)(hv:J.H[id]? =ab (.row v s st e d)):∃d',J'.H[g]? =ab (.row v s st e d'):=by
 obtain⟨y,m,j⟩:=h.H id g l _ hv;simp only[aq.rn,yv]at j;obtain⟨d',_,rfl⟩:=j;exact⟨d',m⟩
theorem Rn.rowAt{f:Nat->yO Nat}{J J':Sg}(h:Rn f J J'){id g v s lo c:Nat}{A:yO Addr}(j:f id=ab g)(hv:rowAt J id v s lo A c):rowAt J' g v s lo A c:=by
 obtain⟨E,F,st,e,d,G,I,M⟩:=hv;obtain⟨Q,R⟩:=h.row j G;refine⟨E,F,st,e,Q,R,I,λhv=> ?_⟩;obtain⟨S,T⟩:=M hv;refine⟨S, ?_⟩;rcases T with⟨l,y⟩|⟨b,z,l,y,U⟩
 .exact .inl ⟨h.m _ _ j _ l,y⟩
 .exact .inr ⟨b,z,h.m _ _ j _ l,by rw[h.w];exact y,U⟩
theorem Rn.rowIs{f:Nat->yO Nat}{J J':Sg}(h:Rn f J J'){id g v b o off:Nat}(j:f id=ab g)(hv:rowIs J id v b o off):rowIs J' g v b o off:=by
 obtain⟨y,z,st,e,d,A,E,l⟩:=hv;obtain⟨F,G⟩:=h.row j A;exact⟨y,z,st,e,F,G,E,λhv=>⟨h.m _ _ j _ (l hv).1,(l hv).2⟩⟩
mutual
theorem kX{f:Nat->yO Nat}{J J':Sg}(h:Rn f J J'):∀(d d':Dv)(vs:yL yh),d.rn f=ab d'->yH J d vs->yH J' d' vs
 |.p x,d',vs,l,j=>by
  simp only[Dv.rn,yn]at l;subst l;simp only[yH]at j ⊢
  exact lS h.cells x vs j
 |.elem x,d',vs,l,j=>by
  simp only[Dv.rn,yn]at l;subst l;simp only[yH]at j ⊢;obtain⟨b,o,Q,E,F,G⟩:=j
  exact⟨b,o,Q,E,lS h.cells x Q F,G.mono h.cells⟩
 |.ak id off yQ,d',vs,l,j=>by
  simp only[Dv.rn,yv]at l;obtain⟨i,z,rfl⟩:=l;simp only[yH]at j ⊢;obtain⟨b,E,F,G⟩:=j
  exact⟨b,h.m _ _ z _ E,h.var z F,G⟩
 |.own id nn s I,d',vs,l,j=>by
  simp only[Dv.rn,yv]at l;obtain⟨i,z,rfl⟩:=l;simp only[yH]at j ⊢;obtain⟨E,A,c,F,G,S,T,U,h7,h8⟩:=j;refine⟨E,A,c,F,G,S,T,U,λW=> ?_,h.front z h8⟩;obtain⟨b,o,Q,X,Y,e3⟩:=h7 W
  exact⟨b,o,Q,X,aD h.cells I Q Y,e3.mono h.cells⟩
 |.view id off yQ s lo n,d',vs,l,j=>by
  simp only[Dv.rn,yv]at l;obtain⟨i,z,rfl⟩:=l;simp only[yH]at j ⊢;obtain⟨b,c,a,E,F,G⟩:=j
  exact⟨b,c,a,h.m _ _ z _ E,h.var z F,G⟩
 |.agg I,d',vs,l,j=>by
  simp only[Dv.rn,yv]at l;obtain⟨M,z,rfl⟩:=l;simp only[yH]at j ⊢
  exact fx h I M vs z j
 |.arr n s I,d',vs,l,j=>by
  simp only[Dv.rn,yv]at l;obtain⟨M,z,rfl⟩:=l;simp only[yH]at j ⊢
  exact⟨by rw[AW z];exact j.1,RC z j.2.1,fx h I M vs z j.2.2⟩
 |.fn g Z,d',vs,l,j=>by
  simp only[Dv.rn,yv]at l;obtain⟨M,z,rfl⟩:=l;simp only[yH]at j ⊢;obtain⟨fs,R,E,h0,F⟩:=j
  exact⟨fs,R,E,h0,dJ h Z M _ z F⟩
 |.iface t x,d',vs,l,j=>by
  simp only[Dv.rn,yv]at l;obtain⟨y,z,rfl⟩:=l;simp only[yH]at j ⊢;obtain⟨v,E,F,G⟩:=j;refine⟨v,E,λha=> ?_,λha=>kX h x y _ z (G (by rw[<-(kW x y z).2];exact ha))⟩;obtain⟨R,X,Y⟩:=F (by rw[<-(kW x y z).2];exact ha)
  exact⟨R,X,kX h x y _ z Y⟩
 |.bm I,d',vs,l,j=>by
  simp only[Dv.rn,yv]at l;obtain⟨M,z,rfl⟩:=l;simp only[yH]at j ⊢;obtain⟨R,E,F⟩:=j
  exact⟨R,E,dJ h I M _ z F⟩
 |.mp id,d',vs,l,j=>by
  simp only[Dv.rn,yv]at l;obtain⟨i,z,rfl⟩:=l;simp only[yH]at j ⊢;obtain⟨b,E,F,G⟩:=j
  exact⟨b,h.m _ _ z _ E,h.map z F,G⟩
 |.rv id v s lo n,d',vs,l,j=>by
  simp only[Dv.rn,yv]at l;obtain⟨i,z,rfl⟩:=l;simp only[yH]at j ⊢;obtain⟨A,c,E,F,G,S,T,U⟩:=j
  exact⟨A,c,E,F,G,S,T,h.rowAt z U⟩
 |.aZ id v off yQ,d',vs,l,j=>by
  simp only[Dv.rn,yv]at l;obtain⟨i,z,rfl⟩:=l;simp only[yH]at j ⊢;obtain⟨b,o,E,F⟩:=j
  exact⟨b,o,E,h.rowIs z F⟩
 |.an,d',vs,l,j=>by
  simp only[Dv.rn,yn]at l;subst l;simpa[yH] using j
theorem fx{f:Nat->yO Nat}{J J':Sg}(h:Rn f J J'):∀(z g:yL Dv)(vs:yL yh),Dv.bB f z=ab g->aM J z vs->aM J' g vs
 |[],g,vs,j,m=>by
  simp only[Dv.bB,yn]at j;subst j
  simpa[aM] using m
 |x::E,g,vs,j,m=>by
  simp only[Dv.bB]at j;split at j
  .rename_i y F G I;cases j;simp only[aM]at m ⊢;obtain⟨A,l,M,Q,R⟩:=m;exact⟨A,l,M,kX h x y A G Q,fx h E F l I R⟩
  .cases j
theorem dJ{f:Nat->yO Nat}{J J':Sg}(h:Rn f J J'):∀(E g:yL Dv)(vs:yL yh),Dv.bB f E=ab g->aH J E vs->aH J' g vs
 |[],g,vs,j,m=>by
  simp only[Dv.bB,yn]at j;subst j
  simpa[aH] using m
 |x::F,g,vs,j,m=>by
  simp only[Dv.bB]at j;split at j
  .rename_i y G z I;cases j;simp only[aH]at m ⊢;obtain⟨v,l,M,⟨Q,R⟩,S⟩:=m;refine⟨v,l,M,⟨λA=> ?_,λA=>kX h x y _ z (R (by rw[<-(kW x y z).2];exact A))⟩,dJ h F G l I S⟩;obtain⟨T,U,W⟩:=Q (by rw[<-(kW x y z).2];exact A);exact⟨T,U,kX h x y _ z W⟩
  .cases j
end
theorem kY{f:Nat->yO Nat}{J J':Sg}(h:Rn f J J'){d d':Dv}{v:yh}(hd:d.rn f=ab d')(j:yJ J d v):yJ J' d' v:=by
 obtain⟨l,m⟩:=j;refine⟨λg=> ?_,λg=>kX h d d' _ hd (m (by rw[<-(kW d d' hd).2];exact g))⟩;obtain⟨y,z,A⟩:=l (by rw[<-(kW d d' hd).2];exact g);exact⟨y,z,kX h d d' _ hd A⟩
theorem X6{w:yr}{b o:Nat}{v:yh}(h:w.cell? ⟨b,o,ad⟩=ab v):b < w.heap.size:=World.block_lt_of_cell? w ⟨b,o,ad⟩ h
theorem RD{J J':Sg}(h:ck J J'):∀(l:yL (Pl×Pl))(es:yL MapEntry),iA J l es->iA J' l es
 |[],[],_=>trivial
 |[],_::_,k=>k.elim
 |_::_,[],k=>k.elim
 |q::r,e::es,k=>⟨Vb h k.1,Vb h k.2.1,RD h r es k.2.2⟩
theorem RE{J J':Sg}(h:ck J J'){l:yL (Pl×Pl)}{es:yL MapEntry}(k:kl J l es):kl J' l es:=by
 obtain⟨f,p,g,k⟩:=k;exact⟨f,p,g,RD h _ _ k⟩
theorem nu{J J':Sg}(h:ck J J'){a:yO Nat}{e:aq}(hb:∀b,a=ab b->J'.w.heap[b]? =J.w.heap[b]?)(he:dG J a e):dG J' a e:=by
 cases e with
 |var d st=>
  obtain⟨b,E,t,rfl,f,g,j⟩:=he
  exact⟨b,E,t,rfl,(hb b rfl).trans f,Z9 h d _ g,j⟩
 |log s e F=>
  rcases he with⟨rfl,f⟩|⟨b,l,m,rfl,f,g,j,z,A,G⟩
  .exact .inl ⟨rfl,f⟩
  .exact .inr ⟨b,l,m,rfl,(hb b rfl).trans f,g,j,z,A,aD h.cells F _ G⟩
 |map t bR=>
  obtain⟨b,I,y,rfl,f,g,j⟩:=he
  exact⟨b,I,y,rfl,(hb b rfl).trans f,RE h g,j⟩
 |row v s st e d=>
  obtain⟨N,M,f⟩:=he;refine⟨N,M, ?_⟩;rcases f with f|⟨b,l,m,rfl,f,g,j,z,A⟩
  .exact .inl f
  .exact .inr ⟨b,l,m,rfl,(hb b rfl).trans f,g,j,z,Z9 h d _ A⟩
 |gone=>exact he
theorem nv{J:Sg}(ok:Ok J){w':yr}(y:J.w.grownBy w' ad):To J { J with w:=w'}/\Ok { J with w:=w'}:=by
 have j:∀b,b < J.w.heap.size->w'.heap[b]? =J.w.heap[b]? :=λb j=>y.block b j (by simp);have F:∀(id b:Nat),J.m[id]? =ab (ab b)->w'.heap[b]? =J.w.heap[b]? :=λid b h=>j b (ok.lt id b h)
 have l:ck J { J with w:=w'}:=by
  refine⟨λb o v f g=>⟨?_,g⟩,λid b f g=>⟨f,g⟩,λid s len A c f=> ?_,λid b f g=>⟨f,g⟩,λid v s st e d h=>⟨v,st,d,h,yl _,λ_=>⟨rfl,λb z j G=>⟨z,(F id b j).trans G,rfl⟩⟩⟩⟩
  .show w'.cell? ⟨b,o,ad⟩=ab v;rw[World.cell?_of_block (w:=J.w) (j b (X6 f))];exact f
  .obtain⟨e,I,g,M,Q⟩:=f;refine⟨e,I,g,M,λR=> ?_⟩;rcases Q R with E|⟨b,z,E,S,T,U⟩
   .exact .inl E
   .exact .inr ⟨b,z,E,S,(F id b E).trans T,U⟩
 refine⟨⟨l,rfl,rfl,y.os,y.tape,y.output,y.size,λb f _=>j b f,λid b h=>.inl h,yl _⟩,⟨ok.len,ok.inj,λi b h=>Nat.lt_of_lt_of_le (ok.lt i b h) y.size,λi e a f g=> ?_,λb h=>ok.new b (ybt y.size h),ok.own⟩⟩;exact nu l (λb j=>F i b (by rw[g,j])) (ok.dD i e a f g)
theorem RF{J:Sg}(ok:Ok J){b o:Nat}(h:J.B b)(hn:∀(id:Nat),J.m[id]? ≠ab (ab b)):J.be b o:=
 ⟨.inr h,λid _ f _=>absurd f (hn id)⟩
def YD(P:yg)(o:yj)(a:Act)(J:Sg)(d:Dv)(H':yL aq):Prop:=
 ∀(K:Act->yr->Prop)(Q:Exit->Act->yr->Prop),(∀v J',J'.H=H'->To J J'->Ok J'->yJ J' d v->K (a.put o.dst v) J'.w)->o.wp P a J.w K Q
theorem Zk{P:yg}{o:yj}{a:Act}{J:Sg}{d:Dv}{v:yh}(ok:Ok J)(f:(execOp a.eval o).run P J.w=.ok (.value v) J.w)(hd:yJ J d v):YD P o a J d J.H:=by
 intro K Q h;unfold Oper.wp;rw[f];exact h v J rfl (To.refl J) ok hd
theorem ZJ{P:yg}{o:yj}{a:Act}{J J':Sg}{d:Dv}{v:yh}(f:(execOp a.eval o).run P J.w=.ok (.value v) J'.w)(to:To J J')(ok:Ok J')(hd:yJ J' d v):YD P o a J d J'.H:=by
 intro K Q h;unfold Oper.wp;rw[f];exact h v J' rfl to ok hd
structure bI(x y:Pl):Prop where
 size:x.size=y.size
 agg:x.isAgg=y.isAgg
 dk:∀(w:yr)(S:Nat->Nat->Prop)(vs:List yh),aA w S x vs->aA w S y vs
structure bi(xs ys:List Pl):Prop where
 len:xs.length=ys.length
 sizes:Pl.sizes xs=Pl.sizes ys
 all:∀s,aW s xs->aW s ys
 dk:∀(w:yr)(S:Nat->Nat->Prop)(vs:List yh),ar w S xs vs->ar w S ys vs
theorem bI.refl(x:Pl):bI x x:=⟨rfl,rfl,λ_ _ _ h=>h⟩
theorem bi.refl(x:yL Pl):bi x x:=⟨rfl,rfl,λ_ h=>h,λ_ _ _ h=>h⟩
theorem bi.of_eq{x y:yL Pl}(h:x=y):bi x y:=h ▸ bi.refl x
theorem bi.nil:bi [] []:=bi.refl []
theorem bi.cons{x y:Pl}{xs ys:yL Pl}(h:bI x y)(k:bi xs ys):bi (x::xs) (y::ys) where
 len:=by simp[k.len]
 sizes:=by simp only[Pl.sizes];rw[h.size,k.sizes]
 all s ha:=by
  intro z hz;rcases List.mem_cons.1 hz with rfl|hz
  .rw[<-h.size];exact ha x (yav ..)
  .exact k.all s (λz hz=>ha z (yaw _ hz)) z hz
 dk w S vs hr:=by
  simp only[ar]at hr ⊢;obtain⟨us,us',e,h1,h2⟩:=hr;exact⟨us,us',e,h.dk w S us h1,k.dk w S us' h2⟩
theorem bi.map{α:Type}{f g:α->Pl}(h:∀x,bI (f x) (g x)):∀(l:yL α),bi (l.map f) (l.map g)
 |[]=>bi.nil
 |x::l=>bi.cons (h x) (bi.map h l)
theorem bI.jx{xs ys:yL Pl}(h:bi xs ys):bI (.agg xs) (.agg ys):=⟨h.sizes,rfl,λw S vs f=>by simp only[aA]at f ⊢;exact h.dk w S vs f⟩
theorem bI.jy{n s:Nat}{xs ys:yL Pl}(h:bi xs ys):bI (.arr n s xs) (.arr n s ys):=
 ⟨rfl,rfl,λw S vs f=>by simp only[aA]at f ⊢;exact⟨by rw[<-h.len];exact f.1,h.all s f.2.1,h.dk w S vs f.2.2⟩⟩
theorem bI.qu{nn:yO Bool}{s:Nat}{xs ys:yL Pl}(h:bi xs ys):bI (.sl nn s xs) (.sl nn s ys):=⟨rfl,rfl,λw S vs g=>by
 simp only[aA]at g ⊢;obtain⟨j,A,c,rfl,l,m,y,z,E⟩:=g;refine⟨h.all s j,A,c,by rw[h.len],by rw[<-h.len];exact l,m,y,z,λf=> ?_⟩;obtain⟨b,o,F,e,r,k⟩:=E (by intro e;subst e;exact f (ybi h.len.symm));exact⟨b,o,F,e,h.dk _ _ _ r,k⟩⟩
theorem bI.jz{t:yc}{x y:Pl}(h:bI x y):bI (.iface t x) (.iface t y):=⟨rfl,rfl,λw S vs g=>by
 simp only[aA]at g ⊢;obtain⟨v,e,j,l⟩:=g;refine⟨v,e,λf=> ?_,λf=>h.dk _ _ _ (l (by rw[h.agg];exact f))⟩;obtain⟨m,z,A⟩:=j (by rw[h.agg];exact f);exact⟨m,z,h.dk _ _ _ A⟩⟩
theorem bI.jA{nn:yO Bool}{s:Nat}{xs ys:yL Pl}(h:bi xs ys):bI (.sl nn s xs) (.sl ad s ys):=⟨rfl,rfl,λw S vs g=>by
 simp only[aA]at g ⊢;obtain⟨j,A,c,rfl,l,m,F,y,z⟩:=g;refine⟨h.all s j,A,c,by rw[h.len],by rw[<-h.len];exact l,m,Yg _,y,λf=> ?_⟩;obtain⟨b,o,E,e,r,k⟩:=z (by intro e;subst e;exact f (ybi h.len.symm));exact⟨b,o,E,e,h.dk _ _ _ r,k⟩⟩
structure Wk(d e:Dv):Prop where
 size:d.size=e.size
 agg:d.isAgg=e.isAgg
 dk:∀(J:Sg)(vs:List yh),yH J d vs->yH J e vs
theorem Wk.refl(d:Dv):Wk d d:=⟨rfl,rfl,λ_ _ h=>h⟩
theorem Wk.of_eq{x y:Dv}(h:x=y):Wk x y:=h ▸ Wk.refl x
theorem Wk.p{x y:Pl}(h:bI x y):Wk (.p x) (.p y):=⟨h.size,h.agg,λJ vs r=>by simp only[yH]at r ⊢;exact h.dk _ _ _ r⟩
theorem AX{J:Sg}{id s:Nat}{nn g:yO Bool}{xs ys:yL Pl}{vs:yL yh}(h:bi xs ys)(hn:∀A,iY nn A->iY g A)(r:yH J (.own id nn s xs) vs):yH J (.own id g s ys) vs:=by
 simp only[yH]at r ⊢;obtain⟨j,A,c,l,m,y,z,E,F,G⟩:=r;refine⟨h.all s j,A,c,by rw[<-h.len];exact l,by rw[<-h.len];exact m,y,hn A z,E,λf=> ?_,by rw[<-h.len];exact G⟩;obtain⟨b,o,I,e,r,k⟩:=F (by intro e;subst e;exact f (ybi h.len.symm));exact⟨b,o,I,e,h.dk _ _ _ r,k⟩
theorem Wk.own{id s:Nat}{nn:yO Bool}{xs ys:yL Pl}(e:xs=ys):Wk (.own id nn s xs) (.own id ad s ys):=
 ⟨rfl,rfl,λJ vs r=>AX (bi.of_eq e) (λ_ _=>Yg _) r⟩
theorem Wk.jB{id s:Nat}{nn:yO Bool}{xs ys:yL Pl}(e:bi xs ys):Wk (.own id nn s xs) (.own id ad s ys):=
 ⟨rfl,rfl,λJ vs r=>AX e (λ_ _=>Yg _) r⟩
theorem Wk.nw{id s:Nat}{nn:yO Bool}{xs ys:yL Pl}(e:bi xs ys):Wk (.own id nn s xs) (.own id nn s ys):=
 ⟨rfl,rfl,λJ vs r=>AX e (λ_ h=>h) r⟩
theorem Wk.ny{id s:Nat}{nn:yO Bool}{xs ys:yL Pl}(h:bi xs ys):Wk (.own id nn s xs) (.p (.sl ad s ys)):=by
 refine⟨rfl,rfl,λJ vs r=> ?_⟩;simp only[yH]at r ⊢;obtain⟨f,A,c,g,j,l,m,y,z,E⟩:=r;exact(bI.jA (nn:=nn) h).dk _ _ _ (by simp only[aA];exact⟨f,A,c,g,j,l,m,y,z⟩)
theorem Wk.an{d:Dv}(h:d.isAgg=af)(hs:d.size=1):Wk d .an:=⟨hs,h,λJ vs r=>by simp only[yH];rw[Xu _ _ r,hs]⟩
theorem Wk.dv{d e:Dv}(h:Wk d e){J:Sg}{v:yh}(r:yJ J d v):yJ J e v:=by
 obtain⟨g,j⟩:=r;refine⟨λf=> ?_,λf=>h.dk _ _ (j (by rw[h.agg];exact f))⟩;obtain⟨l,m,y⟩:=g (by rw[h.agg];exact f);exact⟨l,m,h.dk _ _ y⟩
inductive cP:List Dv->List Dv->Prop where
 |nil:cP [] []
 |cons {d e:Dv} {ds es:List Dv} (h:Wk d e) (k:cP ds es):cP (d::ds) (e::es)
theorem cP.refl:∀(l:yL Dv),cP l l
 |[]=>.nil
 |d::l=>.cons (Wk.refl d) (cP.refl l)
theorem cP.bm{g es:yL Dv}(h:cP g es):Wk (.bm g) (.bm es):=by
 refine⟨rfl,rfl,λJ vs r=> ?_⟩;simp only[yH]at r ⊢;obtain⟨j,e,r⟩:=r;refine⟨j,e, ?_⟩;clear e;generalize j.toList=l at r
 induction h generalizing l with
 |nil=>exact r
 |cons h k m=>
  simp only[aH]at r ⊢;obtain⟨v,f,y,z,A⟩:=r;exact⟨v,f,y,h.dv z,m _ A⟩
theorem cP.vs{g es:yL Dv}(h:cP g es){J:Sg}:∀{l:yL yh},aH J g l->aH J es l:=by
 induction h with
 |nil=>intro l r;exact r
 |cons h k j=>
  intro l r;simp only[aH]at r ⊢;obtain⟨v,f,m,y,z⟩:=r;exact⟨v,f,m,h.dv y,j z⟩
theorem cP.len{f es:yL Dv}(h:cP f es):f.length=es.length:=by
 induction h with
 |nil=>rfl
 |cons _ _ g=>simp[g]
theorem cP.get{g es:yL Dv}(h:cP g es):∀{i:Nat}{e:Dv},es[i]? =ab e->∃d,g[i]? =ab d/\Wk d e:=by
 induction h with
 |nil=>intro i e h;simp at h
 |cons h k l=>
  intro i e f
  cases i with
  |zero=>simp only[yam,yn]at f ⊢;subst f;exact⟨_,rfl,h⟩
  |succ j=>simp only[yak]at f ⊢;exact l f
theorem cP.qv{f es:yL Dv}(h:cP f es){J:Sg}{a:Act}(r:aC J f a):aC J es a:=by
 refine⟨by rw[<-h.len];exact r.size,λi e g=> ?_,r.defers⟩;obtain⟨d,j,l⟩:=h.get g;exact l.dv (r.at_ i d j)
theorem cP.agg{f es:yL Dv}(h:cP f es):Wk (.agg f) (.agg es):=by
 have hs:Dv.sizes f=Dv.sizes es:=by
  induction h with
  |nil=>rfl
  |cons h k g=>simp only[Dv.sizes];rw[h.size,g]
 refine⟨hs,rfl,λJ vs r=> ?_⟩;simp only[yH]at r ⊢;clear hs
 induction h generalizing vs with
 |nil=>exact r
 |cons h k g=>
  simp only[aM]at r ⊢;obtain⟨l,j,e,m,y⟩:=r;exact⟨l,j,e,h.dk _ _ m,g _ y⟩
inductive eI:List (Pl×Pl)->List (Pl×Pl)->Prop where
 |nil:eI [] []
 |cons {k v v':Pl} {l m:List (Pl×Pl)} (h:bI v v') (r:eI l m):eI ((k,v)::l) ((k,v')::m)
theorem eI.dk{J:Sg}{l m:yL (Pl×Pl)}(h:eI l m):∀(es:yL MapEntry),iA J l es->iA J m es:=by
 induction h with
 |nil=>intro es h;exact h
 |cons h r f=>
  intro es k
  cases es with
  |nil=>exact k
  |cons e es=>exact⟨k.1,(Wk.p h).dv k.2.1,f es k.2.2⟩
theorem eI.keys{l m:yL (Pl×Pl)}(h:eI l m):m.map (·.1)=l.map (·.1):=by
 induction h with
 |nil=>rfl
 |cons h r f=>rw[yah,yah,f]
theorem eI.perm{l j:yL (Pl×Pl)}(p:l.Perm j):∀{m:yL (Pl×Pl)},eI l m->∃m',m.Perm m'/\eI j m':=by
 induction p with
 |nil=>intro m h;exact⟨m,.refl _,h⟩
 |cons x p z=>
  intro m h
  cases h with
  |cons h r=>
   obtain⟨m',A,E⟩:=z r
   exact⟨_,A.cons _,.cons h E⟩
 |swap x y l=>
  intro m h
  cases h with
  |cons h r=>
   cases r with
   |cons F r=>exact⟨_,.swap _ _ _,.cons F (.cons h r)⟩
 |trans p q f g=>
  intro m h;obtain⟨S,G,I⟩:=f h;obtain⟨M,Q,R⟩:=g I;exact⟨M,G.trans Q,R⟩
theorem eI.any{J:Sg}{l m:yL (Pl×Pl)}(h:eI l m){es:yL MapEntry}(k:kl J l es):kl J m es:=by
 obtain⟨z,p,f,r⟩:=k;obtain⟨g,j,y⟩:=eI.perm p.symm h;exact⟨g,j.symm,by rw[h.keys];exact f,y.dk _ r⟩
inductive eN:aq->aq->Prop where
 |refl (e:aq):eN e e
 |var {d d':Dv} {st:Bool} (h:Wk d d'):eN (.var d st) (.var d' st)
 |log {s:Nat} {e:yc} {xs ys:List Pl} (h:bi xs ys):eN (.log s e xs) (.log s e ys)
 |map {t:yc} {l m:List (Pl×Pl)} (h:eI l m):eN (.map t l) (.map t m)
 |perm {t:yc} {l m:List (Pl×Pl)} (h:l.Perm m):eN (.map t l) (.map t m)
 |row {v s:Nat} {st:Bool} {e:yc} {d d':Dv} (h:Wk d d'/\aR d s=aR d' s):eN (.row v s st e d) (.row v s st e d')
 |lock {v s:Nat} {st:Bool} {e:yc} {d:Dv}:eN (.row v s st e d) (.row v s af e d)
 |eC {d:Dv} {st:Bool}:eN (.var d st) (.var d af)
 |kZ {d d':Dv} {st:Bool} (h:Wk d d'):eN (.var d st) (.var d' af)
 |shr {v s n N:Nat} {e:yc} {xs:List Pl} (h:n<=N):eN (.row v s ae e (.p (.arr N s xs))) (.row v s ae e (.p (.arr n s (xs.take n))))
inductive bX:List aq->List aq->Prop where
 |nil:bX [] []
 |cons {e f:aq} {es fs:List aq} (h:eN e f) (k:bX es fs):bX (e::es) (f::fs)
theorem bX.refl:∀(l:yL aq),bX l l
 |[]=>.nil
 |d::l=>.cons (.refl d) (bX.refl l)
theorem bX.of_eq{x y:yL aq}(h:x=y):bX x y:=h ▸ bX.refl x
theorem bX.len{f es:yL aq}(h:bX f es):f.length=es.length:=by
 induction h with
 |nil=>rfl
 |cons _ _ g=>simp[g]
theorem bX.get{g es:yL aq}(h:bX g es):∀{i:Nat}{d:aq},g[i]? =ab d->∃e,es[i]? =ab e/\eN d e:=by
 induction h with
 |nil=>intro i e h;simp at h
 |cons h k l=>
  intro i e f
  cases i with
  |zero=>simp only[yam,yn]at f ⊢;subst f;exact⟨_,rfl,h⟩
  |succ j=>simp only[yak]at f ⊢;exact l f
theorem bX.back{g es:yL aq}(h:bX g es):∀{i:Nat}{e:aq},es[i]? =ab e->∃d,g[i]? =ab d/\eN d e:=by
 induction h with
 |nil=>intro i e h;simp at h
 |cons h k l=>
  intro i e f
  cases i with
  |zero=>simp only[yam,yn]at f ⊢;subst f;exact⟨_,rfl,h⟩
  |succ j=>simp only[yak]at f ⊢;exact l f
theorem eN.bv{e f:aq}(h:eN e f)(o:Nat)(k:e.bv o):f.bv o:=by
 cases h with
 |log h=>simpa only[aq.bv,h.len] using k
 |lock=>exact⟨rfl,k.2⟩
 |row h=>exact⟨k.1,by rw[<-h.2];exact k.2⟩
 |shr _=>exact absurd k.1 (by simp)
 |eC=>rfl
 |kZ _=>rfl
 |_=>exact k
theorem RG{w:yr}{S:Nat->Nat->Prop}{s:Nat}:∀{xs:yL Pl}{vs:yL yh},(∀x,x∈xs->x.size=s)->ar w S xs vs->∀(n:Nat),n<=xs.length->ar w S (xs.take n) (vs.take (n*s))
 |[],vs,_,h,n,f=>by
  have:n=0:=by simpa using f
  subst this;simp only[ar]at h;subst h
  simp[ar]
 |x::r,vs,hs,h,0,_=>by simp[ar]
 |x::r,vs,hs,h,n+1,f=>by
  simp only[ar]at h;obtain⟨j,g,rfl,l,m⟩:=h;have z:j.length=s:=by rw[X9 _ _ l];exact hs x (yav ..)
  simp only[List.take_succ_cons,ar];refine⟨j,g.take (n*s), ?_,l,RG (λy A=>hs y (yaw _ A)) m n (by simpa using f)⟩;rw[List.take_append,z,ybb,Nat.one_mul,ycc (by omega)];congr 2;omega
theorem bX.ej:∀{l:yL aq}{i:Nat}{e f:aq},l[i]? =ab e->eN e f->bX l (l.set i f)
 |[],_,_,_,h,_=>by simp at h
 |x::l,0,e,f,h,k=>by
  simp only[yam,yn]at h;subst h
  exact .cons k (bX.refl l)
 |x::l,i+1,e,f,h,k=>by
  simp only[yak]at h;exact .cons (.refl x) (bX.ej h k)
theorem la{J:Sg}(ok:Ok J){H':yL aq}(h:bX J.H H'):To J { J with H:=H'}/\Ok { J with H:=H'}:=by
 have be:∀b o,J.be b o->({ J with H:=H'}:Sg).be b o:=λb o hs=>⟨hs.1,λid e F z=>by
  obtain⟨d,I,l⟩:=h.back z;exact l.bv o (hs.2 id d F I)⟩
 have R:ck J { J with H:=H'}:=by
  refine⟨λb o v F z=>⟨F,be b o z⟩,λid b F z=>⟨F, ?_⟩,λid s len A c F=> ?_,λid b F z=>⟨F, ?_⟩,λid v s st e d F=> ?_⟩
  .obtain⟨d,st,z⟩:=z;obtain⟨e,I,l⟩:=h.get z
   cases l with
   |refl=>exact⟨d,st,I⟩
   |var f=>exact⟨_,_,I⟩
   |eC=>exact⟨_,_,I⟩
   |kZ _=>exact⟨_,_,I⟩
  .obtain⟨e,ys,z,I⟩:=F;obtain⟨e',l,f⟩:=h.get z
   cases f with
   |refl=>exact⟨e,ys,l,I⟩
   |log W=>exact⟨_,_,l,by rw[<-W.len];exact I⟩
  .obtain⟨t,bR,z⟩:=z;obtain⟨e',l,f⟩:=h.get z
   cases f with
   |refl=>exact⟨t,bR,l⟩
   |map W=>exact⟨_,_,l⟩
   |perm W=>exact⟨_,_,l⟩
  .obtain⟨e',l,f⟩:=h.get F
   cases f with
   |refl=>exact⟨v,st,d,l,yl _,λ_=>⟨rfl,λb g _ S=>⟨g,S,rfl⟩⟩⟩
   |row W=>exact⟨v,st,_,l,yl _,λ_=>⟨rfl,λb g _ S=>⟨g,S,rfl⟩⟩⟩
   |shr _=>exact⟨v,ae,_,l,yl _,λ_=>⟨rfl,λb g _ S=>⟨g,S,rfl⟩⟩⟩
   |lock=>exact⟨v,af,_,l,yl _,λ_=>⟨rfl,λb g _ S=>⟨g,S,rfl⟩⟩⟩
 refine⟨⟨R,rfl,rfl,rfl,rfl,rfl,yl _,λ_ _ _=>rfl,λ_ _ h=>.inl h,yl _⟩,⟨by show J.m.length=H'.length;rw[ok.len,h.len],ok.inj,ok.lt,λi e a F z=> ?_,ok.new,ok.own⟩⟩;obtain⟨d,I,l⟩:=h.back F;have Q:=nu R (λb _=>rfl) (ok.dD i d a I z)
 cases l with
 |refl=>exact Q
 |var f=>
  obtain⟨b,Z,t,y,j,G,e4⟩:=Q
  exact⟨b,Z,t,y,j,by rw[<-f.size];exact f.dk _ _ G,by rw[<-f.size];exact e4⟩
 |log f=>
  rcases Q with⟨y,j⟩|⟨b,g,M,y,j,G,e4,T,X,U⟩
  .subst j;exact .inl ⟨y,ybi f.len.symm⟩
  .exact .inr ⟨b,g,M,y,j,G,by rw[<-f.len];exact e4,T,f.all _ X,by rw[<-f.len];exact f.dk _ _ _ U⟩
 |map f=>
  obtain⟨b,es,E,y,j,G,e4⟩:=Q
  exact⟨b,es,E,y,j,f.any G,e4⟩
 |perm f=>
  obtain⟨b,es,E,y,j,⟨l',p,nd,r⟩,e4⟩:=Q
  exact⟨b,es,E,y,j,⟨l',p.trans f,(f.map _).nodup_iff.1 nd,r⟩,e4⟩
 |row f=>
  obtain⟨N,y,j⟩:=Q;refine⟨N,by rw[<-f.2];exact y, ?_⟩;rcases j with j|⟨b,g,M,G,e4,T,X,U,Y⟩
  .exact .inl j
  .exact .inr ⟨b,g,M,G,e4,T,X,U,f.1.dk _ _ Y⟩
 |lock=>exact Q
 |eC=>exact Q
 |kZ f=>
  obtain⟨b,Z,t,y,j,G,e4⟩:=Q
  exact⟨b,Z,t,y,j,by rw[<-f.size];exact f.dk _ _ G,by rw[<-f.size];exact e4⟩
 |shr f=>
  obtain⟨N0,y,j⟩:=Q;simp only[aR,yW,yn]at y;subst y;refine⟨_,yW rfl, ?_⟩;rcases j with⟨j,G⟩|⟨b,g,M,G,e4,T,X,U,Y⟩
  .exact .inl ⟨j,by omega⟩
  .refine .inr ⟨b,g,M,G,e4,T,by omega,U, ?_⟩;simp only[yH,aA]at Y ⊢;obtain⟨q1,q2,q3⟩:=Y;refine⟨by rw[yaa];omega,λx hx=>q2 x (ybr hx), ?_⟩;have:=RG q2 q3 _ (show _<=_ from by rw[q1];exact f)
   rw[List.take_take,yay (ycb _ f)]at this;exact this
theorem Pl.cG:∀(xs:yL Pl),Pl.cR xs=xs.map Pl.soft
 |[]=>rfl
 |x::r=>by rw[Pl.cR,Pl.cG r];rfl
mutual
theorem lX:∀(x:Pl),bI x x.soft
 |.int _ _=>bI.refl _
 |.bool _=>bI.refl _
 |.str _=>bI.refl _
 |.bW=>bI.refl _
 |.fn0=>bI.refl _
 |.eE=>bI.refl _
 |.cB=>bI.refl _
 |.gq _=>bI.refl _
 |.agg f=>by rw[Pl.soft];exact bI.jx (cK f)
 |.arr n s f=>by rw[Pl.soft];exact bI.jy (cK f)
 |.sl g s f=>by rw[Pl.soft];exact bI.jA (bi.refl _)
 |.iface t x=>by rw[Pl.soft];exact bI.jz (lX x)
theorem cK:∀(xs:yL Pl),bi xs (Pl.cR xs)
 |[]=>bi.nil
 |x::r=>by rw[Pl.cR];exact bi.cons (lX x) (cK r)
end
theorem AY(x:Pl):x.soft.size=x.size:=(lX x).size.symm
theorem bX.append{a b c d:yL aq}(h:bX a b)(k:bX c d):bX (a++c) (b++d):=by
 induction h with
 |nil=>exact k
 |cons h _ f=>exact .cons h f
theorem bX.bE{e f:aq}:∀(l:yL aq)(i:Nat),eN e f->bX (l.set i e) (l.set i f)
 |[],_,_=>.nil
 |x::l,0,h=>.cons h (bX.refl l)
 |x::l,i+1,h=>.cons (.refl x) (bX.bE l i h)
theorem bi.bE{x y:Pl}(h:bI x y):∀(l:yL Pl)(i:Nat),bi (l.set i x) (l.set i y)
 |[],_=>.nil
 |z::l,0=>.cons h (bi.refl l)
 |z::l,i+1=>.cons (bI.refl z) (bi.bE h l i)
theorem Ve{P:yg}{o:yj}{a:Act}{J:Sg}{d d':Dv}{H1 H2:yL aq}(h:YD P o a J d H1)(hd:Wk d d')(hH:bX H1 H2):YD P o a J d' H2:=by
 intro K Q m;refine h K Q λv J1 y f g j=> ?_;obtain⟨to,l⟩:=la g (H':=H2) (by rw[y];exact hH);exact m v { J1 with H:=H2} rfl (f.trans to) l (hd.dv (Vb to.leaf j))
theorem uB{J:Sg}:∀{f:yL Dv}{vs:yL yh},aH J f vs->vs.length=f.length
 |[],vs,h=>by simp only[aH]at h;subst h;rfl
 |d::f,vs,h=>by
  simp only[aH]at h;obtain⟨v,g,rfl,_,j⟩:=h;simp[uB j]
theorem uC{J:Sg}:∀{g:yL Dv}{vs:yL yh}{i:Nat}{d:Dv},aH J g vs->g[i]? =ab d->∃v,vs[i]? =ab v/\yJ J d v
 |[],vs,i,d,_,f=>by simp at f
 |x::g,vs,i,d,h,f=>by
  simp only[aH]at h;obtain⟨v,j,rfl,l,m⟩:=h
  cases i with
  |zero=>
   simp only[yam,yn]at f;subst f
   exact⟨v,rfl,l⟩
  |succ i=>
   simp only[yak]at f ⊢;exact uC m f
theorem QC{J:Sg}:∀{f es:yL Dv}{vs us:yL yh},aH J f vs->aH J es us->aH J (f++es) (vs++us)
 |[],es,vs,us,h,k=>by simp only[aH]at h;subst h;simpa using k
 |d::f,es,vs,us,h,k=>by
  simp only[aH]at h;obtain⟨v,g,rfl,j,l⟩:=h;simp only[yaf,aH];exact⟨v,g++us,rfl,j,QC l k⟩
theorem AZ{J:Sg}{α:Type}(f:α->Dv)(g:α->yh)(h:∀x,yJ J (f x) (g x)):∀(l:yL α),aH J (l.map f) (l.map g)
 |[]=>by simp[aH]
 |x::l=>by
  simp only[yah,aH];exact⟨g x,l.map g,rfl,h x,AZ f g h l⟩
theorem uD{w:yr}{S:Nat->Nat->Prop}{s:Nat}{xs:yL Pl}{A:yO Addr}{c l h:Nat}(hs:aW s xs)(hn:xs.length<=c)(E:c<=maxLen)(f:A=ad->c=0)
 (F:xs≠[]->∃b o us,A=ab ⟨b,o,ad⟩/\ar w S xs us/\Wn w S b o us) (h1:l<=h) (h2:h<=xs.length):
 aW s ((xs.take h).drop l)/\((xs.take h).drop l).length=h - l/\h - l<=c - l/\c - l<=maxLen/\(if c=l then A else A.map (·.add (l*s))).isSome=A.isSome/\
  ((if c=l then A else A.map (·.add (l*s)))=ad->c - l=0)/\
  ((xs.take h).drop l≠[]->∃b o us,(if c=l then A else A.map (·.add (l*s)))=ab ⟨b,o,ad⟩/\ar w S ((xs.take h).drop l) us/\Wn w S b o us):=by
 have z:((xs.take h).drop l).length=h - l:=by rw[List.length_drop,yaa,yay h2]
 refine⟨uw (Vd hs _) _,z,by omega,by omega, ?_, ?_,λg=> ?_⟩
 .split
  .rfl
  .simp
 .split
  .omega
  .intro G;have j:A=ad:=by simpa using G
   have:=f j;omega
 .have I:l < h:=by
   rcases Nat.lt_or_ge l h with h3|h3
   .exact h3
   .exact absurd (ybi (by rw[z];omega)) g
  have m:xs≠[]:=by
   rintro rfl;simp at h2;omega
  obtain⟨b,o,us,rfl,h3,M⟩:=F m;have Q:¬c=l:=by omega
  rw[yX Q]
  have e:xs=xs.take l++((xs.take h).drop l++xs.drop h):=by
   have R:(xs.take h).drop l++xs.drop h=xs.drop l:=by
    have:xs.drop l=(xs.take h++xs.drop h).drop l:=by rw[ybc]
    rw[this,List.drop_append_of_le_length (by rw[yaa];omega)]
   rw[R,ybc]
  rw[e]at h3;obtain⟨T,Z,rfl,U,W⟩:=Z1 h3;obtain⟨X,u4,rfl,Y,h8⟩:=Z1 W
  have y:T.length=l*s:=by
   rw[aL _ _ U,aN (Vd hs _),yaa,yay (by omega)]
  refine⟨b,o+l*s,X,by simp[Addr.bH],Y, ?_⟩;have:=(Wn.append (Wn.append M).2).1
  rwa [y]at this
theorem nA{P:yg}{w:yr}(isSlice:Bool)(len cap:Nat)(lo hi:yO yh)(l h:yO Int)(hl:lo=ad/\l=ad\/∃k i,lo=ab (.int k i)/\l=ab i)
 (z:hi=ad/\h=ad\/∃k i,hi=ab (.int k i)/\h=ab i) (hc:aX (YI len l h)) (zW:len<=cap):
 ∃a b,(Instr.sliceBounds isSlice len cap lo hi ad).run P w=.ok (a,b,cap) w/\a<=b/\b<=len/\a=(l.getD 0).toNat/\b=(h.getD (len:Int)).toNat:=by
 rcases hl with⟨rfl,rfl⟩|⟨k,i,rfl,rfl⟩ <;> rcases z with⟨rfl,rfl⟩|⟨E,f,rfl,rfl⟩
 .exact⟨0,len,by simp[Instr.sliceBounds],Nat.zero_le _,yl _,rfl,by simp⟩
 .obtain⟨g,m,_⟩:=hc;refine⟨0,f.toNat, ?_,Nat.zero_le _,by omega,rfl,rfl⟩;have j:0<=f/\f<=(cap:Int):=⟨g,by omega⟩;simp[Instr.sliceBounds,Instr.sliceBound,asIntOf,j]
 .obtain⟨g,m,_⟩:=hc;refine⟨i.toNat,len, ?_,by omega,yl _,rfl,by simp⟩;have j:0<=i/\i<=(len:Int):=⟨g,m⟩;simp[Instr.sliceBounds,Instr.sliceBound,asIntOf,j]
 .obtain⟨g,m,F,_⟩:=hc;refine⟨i.toNat,f.toNat, ?_,by omega,by omega,rfl,rfl⟩;have j:0<=f/\f<=(cap:Int):=⟨by omega,by omega⟩;have A:0<=i/\i<=(f.toNat:Int):=⟨g,by omega⟩;have y:i<=max f 0:=by omega
  simp[Instr.sliceBounds,Instr.sliceBound,asIntOf,j,g,y]
theorem uE{α:Type}(xs:yL α)(l h:yO Int)(hc:aX (YI xs.length l h)):Vc xs l h=(xs.take ((h.getD (xs.length:Int)).toNat)).drop ((l.getD 0).toNat):=by
 cases l <;> cases h <;> simp[Vc]
theorem Yt{P:yg}{J:Sg}{ts:yL Dv}{a:Act}(f:aC J ts a){x:yO yp}{l:yO Int}(h:gv P ts x=ab l):
 x.map a.eval=ad/\l=ad\/∃k i,x.map a.eval=ab (.int k i)/\l=ab i:=by
 unfold gv at h;split at h
 .cases h;exact .inl ⟨rfl,rfl⟩
 .rename_i y;split at h
  .rename_i k i g;cases h;have:=Zo (P:=P) f 0 y;rw[g]at this;exact .inr ⟨k,i,by simp[ZC this],rfl⟩
  .cases h
end Go.Ev
end
section
namespace Go.Ev
section
variable{P:yg}{o:yj}{a:Act}{J:Sg}{ts:yL Dv}{hs hs':yL ao}{C:yL Prop}{d:Dv}
theorem RH{e:yc}{t:yc}{s:Nat}{xs:yL Pl}{A:yO Addr}{c:Nat}{k:IntKind}{i:Int}{y:Pl}(ok:Ok J)(hu:P.underlying t=ab (.slice e))(he:P.cellsOf e=s)
 (hi:(P.info? e).isSome=ae) (hs:aW s xs) (h:xs≠[]->∃b o us,A=ab ⟨b,o,ad⟩/\ar J.w J.be xs us/\Wn J.w J.be b o us) (j:0<=i) (g:xs[i.toNat]? =ab y):
 ∃v,(Instr.indexAt t (.slice A xs.length c) (.int k i)).run P J.w=.ok v J.w/\yJ J (.elem y) v:=by
 have l:i.toNat < xs.length:=(yu.1 g).1
 have f:xs≠[]:=by
  grind
 obtain⟨b,o,us,rfl,m,z⟩:=h f;obtain⟨F,G,I⟩:=uz hs m z g;refine⟨.pointer (ab ⟨b,o+i.toNat*s,ad⟩), ?_, ?_⟩
 .have E:0<=i/\i < (xs.length:Int):=⟨j,by omega⟩;simp[Instr.indexAt,asIntOf,run_underlying hu,E,ZV hi,he,Addr.bH]
 .rw[Zh (by rfl)];simp only[yH];grind
theorem qw{y:Pl}{v:yh}(h:yJ J (.elem y) v):∃b o us,v=.pointer (ab ⟨b,o,ad⟩)/\aA J.w J.be y us/\Wn J.w J.be b o us:=by
 rw[Zh (by rfl)]at h;simpa[yH] using h
theorem lc{id off:Nat}{yQ:yL Nat}{v:yh}(h:yJ J (.ak id off yQ) v):
 ∃b,J.m[id]? =ab (ab b)/\(∃d st,J.H[id]? =ab (.var d st))/\v=.pointer (ab ⟨b,off,ad⟩):=by
 rw[Zh (by rfl)]at h;simpa[yH] using h
theorem nB{id off s lo n:Nat}{yQ:yL Nat}{v:yh}(h:yJ J (.view id off yQ s lo n) v):
 ∃b c a,J.m[id]? =ab (ab b)/\(∃d st,J.H[id]? =ab (.var d st))/\v=.slice (ab a) n c/\n<=c/\c<=maxLen/\(0 < n->a=⟨b,off+lo*s,ad⟩):=by
 rw[Zh (by rfl)]at h;simpa[yH] using h
theorem jf{id v s lo n:Nat}{u:yh}(h:yJ J (.rv id v s lo n) u):
 ∃A c,u=.slice A n c/\n<=c/\c<=maxLen/\(A=ad->c=0)/\(0 < n->∃b o,A=ab ⟨b,o,ad⟩)/\rowAt J id v s lo A c:=by
 rw[Zh (by rfl)]at h;simpa[yH] using h
theorem uF{id v off:Nat}{yQ:yL Nat}{u:yh}(h:yJ J (.aZ id v off yQ) u):∃b o,u=.pointer (ab ⟨b,o,ad⟩)/\rowIs J id v b o off:=by
 rw[Zh (by rfl)]at h;simpa[yH] using h
theorem BA{id v off b o:Nat}{yQ:yL Nat}(h:rowIs J id v b o off):yJ J (.aZ id v off yQ) (.pointer (ab ⟨b,o,ad⟩)):=by
 rw[Zh (by rfl)];simp only[yH];grind
theorem BB{id v b o off k:Nat}(h:rowIs J id v b o off):rowIs J id v b (o+k) (off+k):=by
 obtain⟨j,s,st,e,d,l,m,f⟩:=h;exact⟨j,s,st,e,d,l,m,λg=>⟨(f g).1,by rw[(f g).2]⟩⟩
theorem ZDT{id v s lo c b o:Nat}(h:rowAt J id v s lo (ab ⟨b,o,ad⟩) c)(hc:0 < c):rowIs J id v b o (lo*s):=by
 obtain⟨f,g,st,e,d,j,l,m⟩:=h;refine⟨f,g,st,e,d,j,l,λy=> ?_⟩
 all_goals grind
theorem RI{id v s lo c l:Nat}{A:yO Addr}(h:rowAt J id v s lo A c)(hl:l<=c):rowAt J id v s (lo+l) (if c=l then A else A.map (·.add (l*s))) (c - l):=by
 obtain⟨m,y,st,e,d,z,E,F⟩:=h;refine⟨m,y,st,e,d,z,E,λG=> ?_⟩;obtain⟨I,M⟩:=F G;refine⟨I, ?_⟩;rcases M with⟨g,rfl,j⟩|⟨b,f,g,j,Q,R⟩
 .grind
 .refine .inr ⟨b,f,g,j,by rw[Q];congr 1;omega,λS=> ?_⟩;rw[yX (by omega),R (by omega)];simp[Addr.bH,ybb]
theorem RJ{id v s lo n c l h:Nat}{A:yO Addr}(h2:n<=c)(h3:c<=maxLen)(h4:A=ad->c=0)(h5:0 < c->∃b o,A=ab ⟨b,o,ad⟩)(h6:rowAt J id v s lo A c)(hl:l<=h)(f:h<=c):
 yJ J (.rv id v s (lo+l) (h - l)) (.slice (if c=l then A else A.map (·.add (l*s))) (h - l) (c - l)):=by
 rw[Zh (by rfl)];simp only[yH];refine⟨_,_,rfl,by omega,by omega,λg=> ?_,λj=> ?_,RI h6 (by omega)⟩
 .all_goals grind
 .obtain⟨b,o,rfl⟩:=h5 (by omega);rw[yX (by omega)];exact⟨b,o+l*s,by simp[Addr.bH]⟩
theorem uG{f:yw}{cap:yL Dv}{v:yh}(h:yJ J (.fn f cap) v):∃g cs,v=.func (.func (fP f)) g cs/\(if f < big then g else cs)= #[]/\aH J cap (g++cs).toList:=by
 rw[Zh (by rfl)]at h;simpa[yH] using h
theorem RK{f:yw}{cap:yL Dv}{v:yh}(j:f < big)(h:yJ J (.fn f cap) v):∃cs,v=.func (.func f) #[] cs/\aH J cap cs.toList:=by
 obtain⟨m,cs,l,g,y⟩:=uG h;rw[yW j]at g;subst g;unfold fP at l;grind
theorem ZwP{t:yc}{x ix:yp}(ok:Ok J)(yM:aC J ts a)(ho:o.op=.indexAddr t x ix)(h:bh P o ts hs=ab (C,d,hs'))(hc:aX C):YD P o a J d J.H:=by
 simp only[bh,ho]at h;have l:=Zo (P:=P) yM t x;have f:=Zo (P:=P) yM 0 ix
 have run:∀v,(Instr.indexAt t (a.eval x) (a.eval ix)).run P J.w=.ok v J.w->(execOp a.eval o).run P J.w=.ok (.value v) J.w:=λv F=>by
  simp[execOp,ho,F]
 split at h
 .rename_i e nn s Y k i E g j;rw[g]at l;rw[j]at f;split at h
  .rename_i y M;split at h
   .rename_i m;simp only[yi,yP]at m;cases h;obtain⟨z,A,c,F,Q,S,T,U,R⟩:=XS l;obtain⟨v,W,X⟩:=RH (k:=k) (c:=c) ok E m.1 m.2 z R hc.1 hc.2.1;exact Zk ok (run v (by rw[F,ZC f];exact W)) X
   .cases h
  .cases h
 .rename_i e id nn s Y k i E g j;rw[g]at l;rw[j]at f;split at h
  .rename_i y M;split at h
   .rename_i m;simp only[yi,yP]at m;cases h;obtain⟨z,A,c,F,Q,S,T,U,R,_⟩:=QA l;obtain⟨v,W,X⟩:=RH (k:=k) (c:=c) ok E m.1 m.2 z R hc.1 hc.2.1;exact Zk ok (run v (by rw[F,ZC f];exact W)) X
   .cases h
  .cases h
 .rename_i e id off yQ s lo n k i E g j;rw[g]at l;rw[j]at f;split at h
  .rename_i m;simp only[yi,yP]at m;cases h;obtain⟨G,z,_⟩:=hc;obtain⟨b,c,aa,Z,F,l,Q,S,T⟩:=nB l;have e1:=T (by omega);subst e1;refine Zk (v:=.pointer (ab ⟨b,off+(lo+i.toNat)*s,ad⟩)) ok (run _ ?_) ?_
   .rw[l,ZC f];have I:0<=i/\i < (n:Int):=⟨G,z⟩;simp[Instr.indexAt,asIntOf,run_underlying E,I,ZV m.2,m.1,Addr.bH,ybb,Nat.add_assoc]
   .rw[Zh (by rfl)];simp only[yH];exact⟨b,Z,F,rfl⟩
  .cases h
 .rename_i e id v s lo n k i E g j;rw[g]at l;rw[j]at f;split at h
  .rename_i m;simp only[yi,yP]at m;cases h;obtain⟨G,z,_⟩:=hc;obtain⟨A,c,l,Q,S,T,U,R⟩:=jf l;obtain⟨b,o',rfl⟩:=U (by omega);refine Zk (v:=.pointer (ab ⟨b,o'+i.toNat*s,ad⟩)) ok (run _ ?_) ?_
   .rw[l,ZC f];have I:0<=i/\i < (n:Int):=⟨G,z⟩;simp[Instr.indexAt,asIntOf,run_underlying E,I,ZV m.2,m.1,Addr.bH]
   .rw[ybb];exact BA (BB (ZDT R (by omega)))
  .cases h
 .rename_i n e id v off yQ k i E g j;rw[g]at l;rw[j]at f;split at h
  .rename_i m;cases h;obtain⟨G,z,_⟩:=hc;obtain⟨b,o',l,Q⟩:=uF l;refine Zk (v:=.pointer (ab ⟨b,o'+i.toNat*P.cellsOf e,ad⟩)) ok (run _ ?_) ?_
   .rw[l,ZC f];have I:0<=i/\i < (n:Int):=⟨G,z⟩;simp[Instr.indexAt,asIntOf,run_underlying E,I,ZV m,Instr.sureAddr,Addr.bH]
   .exact BA (BB Q)
  .cases h
 .rename_i n e id off yQ k i E g j;rw[g]at l;rw[j]at f;split at h
  .rename_i m;cases h;obtain⟨G,z,_⟩:=hc;obtain⟨b,Z,F,l⟩:=lc l;refine Zk (v:=.pointer (ab ⟨b,off+i.toNat*P.cellsOf e,ad⟩)) ok (run _ ?_) ?_
   .rw[l,ZC f];have I:0<=i/\i < (n:Int):=⟨G,z⟩;simp[Instr.indexAt,asIntOf,run_underlying E,I,ZV m,Instr.sureAddr,Addr.bH]
   .rw[Zh (by rfl)];simp only[yH];exact⟨b,Z,F,rfl⟩
  .cases h
 .rename_i n e n' s Y k i E g j;rw[g]at l;rw[j]at f;split at h
  .rename_i y M;split at h
   .rename_i m;simp only[yi,yP]at m;obtain⟨⟨rfl,m⟩,hk2⟩:=m;cases h;obtain⟨G,z,_⟩:=hc;obtain⟨b,off,us,l,Q,S⟩:=qw l;simp only[aA]at Q;obtain⟨T,U,R⟩:=Q;obtain⟨uy,W,X⟩:=uz U R S z;have hlt:i.toNat < Y.length:=(yu.1 z).1;refine Zk (v:=.pointer (ab ⟨b,off+i.toNat*s,ad⟩)) ok (run _ ?_) ?_
    .rw[l,ZC f];have I:0<=i/\i < (n:Int):=⟨G,by omega⟩;simp[Instr.indexAt,asIntOf,run_underlying E,I,ZV hk2,m,Instr.sureAddr,Addr.bH]
    .rw[Zh (by rfl)];simp only[yH];exact⟨b,_,uy,rfl,W,X⟩
   .cases h
  .cases h
 .cases h
theorem ZHe{t:yc}{x:yp}{lo hi:yO yp}(ok:Ok J)(y:aC J ts a)(ho:o.op=.slice t x lo hi ad)(h:bh P o ts hs=ab (C,d,hs'))(hc:aX C):YD P o a J d J.H:=by
 simp only[bh,ho]at h;have j:=Zo (P:=P) y t x
 have run:∀v,(Instr.sliceAt t (a.eval x) (lo.map a.eval) (hi.map a.eval) ad).run P J.w=.ok v J.w->(execOp a.eval o).run P J.w=.ok (.value v) J.w:=λv I=>by
  simp[execOp,ho,I]
 split at h
 .rename_i e nn s Q l r E g F G;rw[g]at j;split at h
  .rename_i f;simp only[yi,yP]at f;cases h;obtain⟨h1,A,c,I,z,T,M,X,U⟩:=XS j;obtain⟨p,q,m,R,W,rfl,rfl⟩:=nA (P:=P) (w:=J.w) ae Q.length c _ _ _ _ (Yt y F) (Yt y G) hc z;obtain⟨Z,S,k3,k4,k5,k6,k7⟩:=uD h1 z T X U R W;refine Zk ok (run _ (by rw[I];simp[Instr.sliceAt,Instr.slice,run_underlying E,m,ZV f.2,f.1];rfl)) ?_;rw[uE Q l r hc, <-S];exact Yq Z (by rw[S];exact k3) k4 (λb m=>by rw[k5];exact M b m) k6 k7
  .cases h
 .rename_i e id nn s Q l r E g F G;rw[g]at j;split at h
  .rename_i f;simp only[yi,yP]at f;cases h;obtain⟨h1,A,c,I,z,T,M,X,U,_⟩:=QA j;obtain⟨p,q,m,R,W,rfl,rfl⟩:=nA (P:=P) (w:=J.w) ae Q.length c _ _ _ _ (Yt y F) (Yt y G) hc z;obtain⟨Z,S,k3,k4,k5,k6,k7⟩:=uD h1 z T X U R W;refine Zk ok (run _ (by rw[I];simp[Instr.sliceAt,Instr.slice,run_underlying E,m,ZV f.2,f.1];rfl)) ?_;rw[uE Q l r hc, <-S];exact Yq Z (by rw[S];exact k3) k4 (λb m=>by rw[k5];exact M b m) k6 k7
  .cases h
 .rename_i e id off yQ s lo n l r E g F G;rw[g]at j;split at h
  .rename_i f;simp only[yi,yP]at f;cases h;obtain⟨b,c,aa,Y,I,j,z,T,M⟩:=nB j;obtain⟨p,q,m,R,W,rfl,rfl⟩:=nA (P:=P) (w:=J.w) ae n c _ _ _ _ (Yt y F) (Yt y G) hc z;refine Zk ok (run _ (by rw[j];simp[Instr.sliceAt,Instr.slice,run_underlying E,m,ZV f.2,f.1];rfl)) ?_;rw[Zh (by rfl)];simp only[yH];by_cases hcl:c=(l.getD 0).toNat
   .exact⟨b,c - (l.getD 0).toNat,aa,Y,I,by rw[yW hcl],by omega,by omega,λh0=>absurd h0 (by omega)⟩
   .refine⟨b,c - (l.getD 0).toNat,aa.add ((l.getD 0).toNat*s),Y,I,by rw[yX hcl],by omega,by omega,λh0=> ?_⟩;rw[M (by omega),Addr.bH,ybb,Nat.add_assoc]
  .cases h
 .rename_i e id v s lo n l r E g F G;rw[g]at j;split at h
  .rename_i hs'';split at h
   .rename_i f;simp only[yi,yP]at f;cases h;obtain⟨A,c,j,z,T,M,X,U⟩:=jf j;obtain⟨p,q,m,R,W,rfl,rfl⟩:=nA (P:=P) (w:=J.w) ae n c _ _ _ _ (Yt y F) (Yt y G) hc z;refine Zk ok (run _ (by rw[j];simp[Instr.sliceAt,Instr.slice,run_underlying E,m,ZV f.2,f.1];rfl)) ?_;by_cases hz:0 < (r.getD (n:Int)).toNat - (l.getD 0).toNat
    .obtain⟨b,o',rfl⟩:=X (by omega);exact RJ z T M (λ_=>⟨b,o',rfl⟩) U R (by omega)
    .rw[Zh (by rfl)];simp only[yH];refine⟨_,_,rfl,by omega,by omega,λhA=> ?_,λhp=>absurd hp hz,RI U (by omega)⟩;split at hA
     .omega
     .have hA':A=ad:=by simpa using hA
      have:=M hA';omega
   .cases h
  .cases h
 .rename_i n e n' s Q l r E g F G;rw[g]at j;split at h
  .rename_i f;simp only[yi,yP]at f;obtain⟨⟨⟨rfl,f⟩,hk2⟩,Y⟩:=f;cases h;obtain⟨b,off,us,hx',z,T⟩:=qw j;simp only[aA]at z;obtain⟨M,X,U⟩:=z;subst M;obtain⟨p,q,m,R,W,rfl,rfl⟩:=nA (P:=P) (w:=J.w) af Q.length Q.length _ _ _ _ (Yt y F) (Yt y G) hc (yl _);obtain⟨Z,S,k3,k4,k5,k6,k7⟩:=uD (A:=ab ⟨b,off,ad⟩) X (yl _) Y (λhA=>by cases hA) (λ_=>⟨b,off,us,rfl,U,T⟩) R W;refine Zk ok (run _ (by rw[hx'];simp[Instr.sliceAt,Instr.sureAddr,run_underlying E,m,ZV hk2,f];rfl)) ?_;rw[uE Q l r hc, <-S];have:=Yq (J:=J) Z (by rw[S];exact k3) k4 (Qy k5) k6 k7;rw[S]at this ⊢;simpa[apply_ite] using this
  .cases h
 .rename_i n e id off yQ l r E g F G;rw[g]at j;split at h
  .rename_i hs'';split at h
   .rename_i f;simp only[yi,yP]at f;obtain⟨f,hm'⟩:=f;cases h;obtain⟨b,Y,I,j⟩:=lc j;obtain⟨p,q,m,R,W,rfl,rfl⟩:=nA (P:=P) (w:=J.w) af n n _ _ _ _ (Yt y F) (Yt y G) hc (yl _);refine Zk ok (run _ (by rw[j];simp[Instr.sliceAt,Instr.sureAddr,run_underlying E,m,ZV f];rfl)) ?_;rw[Zh (by rfl)];simp only[yH];refine⟨b,_,_,Y,I,rfl,by omega,by omega,λh0=> ?_⟩;rw[yX (by omega),Addr.bH]
   .cases h
  .cases h
 .cases h
theorem ZwQ{P:yg}{w:yr}(isSlice:Bool)(len cap:Nat){k1 k2 k3:IntKind}{l h m:Int}(f:0<=l)(h1:l<=h)(h2:h<=m)(h3:m<=(cap:Int)):
 (Instr.sliceBounds isSlice len cap (ab (.int k1 l)) (ab (.int k2 h)) (ab (.int k3 m))).run P w=.ok (l.toNat,h.toNat,m.toNat) w:=by
 have g:0<=m/\m<=(cap:Int):=⟨by omega,h3⟩;have j:0<=h/\h<=(m.toNat:Int):=⟨by omega,by omega⟩;have y:0<=l/\l<=(h.toNat:Int):=⟨f,by omega⟩;simp[Instr.sliceBounds,Instr.sliceBound,asIntOf,g,j,y];grind
theorem ZDW{t:yc}{x:yp}{lo hi:yO yp}{j:yp}(ok:Ok J)(f:aC J ts a)(ho:o.op=.slice t x lo hi (ab j))(h:bh P o ts hs=ab (C,d,hs'))(hc:aX C):YD P o a J d J.H:=by
 simp only[bh,ho]at h;have g:=Zo (P:=P) f t x;split at h
 .rename_i e id v s l0 n l r m I y M Q R;rw[y]at g;split at h
  .rename_i z;cases h;obtain⟨S,T,U,c4,_⟩:=hc;obtain⟨A,c,g,h2,h3,_⟩:=jf g;rcases Yt f M with⟨_,q⟩|⟨W,i1,X,Y⟩
   .cases q
   rcases Yt f Q with⟨_,q⟩|⟨Z,i2,e2,q2⟩
   .cases q
   rcases Yt f R with⟨_,q⟩|⟨G,i3,e3,q3⟩
   .cases q
   cases Y;cases q2;cases q3;have hb:=ZwQ (P:=P) (w:=J.w) ae n c (k1:=W) (k2:=Z) (k3:=G) S T U (by omega:m<=(c:Int))
   have E:∃u,(Instr.sliceAt t (a.eval x) (lo.map a.eval) (hi.map a.eval) (ab (a.eval j))).run P J.w=.ok u J.w:=by
    have F:a.eval j=.int G m:=by simpa using e3
    rw[g,X,e2,F];exact⟨_,by simp[Instr.sliceAt,Instr.slice,run_underlying I,hb,ZV z];rfl⟩
   obtain⟨u,E⟩:=E;exact Zk (v:=u) ok (by simp[execOp,ho,E]) Yk
  .cases h
 .cases h
end
end Go.Ev
end
section
namespace Go.Ev
theorem RL(off:Nat):∀(vs:yL yh)(k:Nat)(cs:Array yh),off+k+vs.length<=cs.size->
 ((vs.zipIdx k).foldl (λcs q=>cs.setIfInBounds (off+q.2) q.1) cs).toList=cs.toList.take (off+k)++vs++cs.toList.drop (off+k+vs.length)
 |[],k,cs,_=>by simp
 |v::vs,k,cs,h=>by
  simp only[List.zipIdx_cons,List.foldl_cons,yag]at h ⊢;rw[RL off vs (k+1) _ (by simp;omega)];apply ybp;intro j;have A:cs.toList.length=cs.size:=yax;simp only[Array.toList_setIfInBounds,List.getElem?_append,ym,yaa,ybu,A,ycd,ybx,List.getElem?_drop,yag];by_cases z:j < off+k
  .have l:j < min (off+(k+1)) cs.size:=by omega
   have y:j < min (off+k) cs.size:=by omega
   have f:¬(off+k=j):=by omega
   have e4:j < off+(k+1):=by omega
   have m:j < min (off+(k+1)) cs.size+vs.length:=by omega
   have g:j < min (off+k) cs.size+(vs.length+1):=by omega
   simp[l,y,f,e4,m,g,z]
  .by_cases E:j=off+k
   .subst E;have l:off+k < min (off+(k+1)) cs.size:=by omega
    have y:¬(off+k < min (off+k) cs.size):=by omega
    have f:min (off+k) cs.size=off+k:=by omega
    have e4:off+k < min (off+(k+1)) cs.size+vs.length:=by omega
    have m:off+k < cs.size:=by omega
    have g:off+k < off+(k+1):=by omega
    simp[l,f,e4,m,g]
   .by_cases I:j < off+(k+1)+vs.length
    .have l:¬(j < min (off+(k+1)) cs.size):=by omega
     have y:¬(j < min (off+k) cs.size):=by omega
     have f:min (off+k) cs.size=off+k:=by omega
     have e4:min (off+(k+1)) cs.size=off+(k+1):=by omega
     have m:j < off+k+(vs.length+1):=by omega
     have g:j < off+(k+1)+vs.length:=by omega
     have F:j - (off+k)=(j - (off+(k+1)))+1:=by omega
     have G:¬(j < off+(k+1)):=by omega
     simp[f,e4,m,g,z,F,G]
    .have l:min (off+k) cs.size=off+k:=by omega
     have y:min (off+(k+1)) cs.size=off+(k+1):=by omega
     have f:¬(j < off+(k+1)+vs.length):=by omega
     have e4:¬(j < off+k+(vs.length+1)):=by omega
     have m:¬(off+k=off+(k+1)+vs.length+(j - (off+(k+1)+vs.length))):=by omega
     have g:off+(k+1)+vs.length+(j - (off+(k+1)+vs.length))=off+k+(vs.length+1)+(j - (off+k+(vs.length+1))):=by omega
     simp only[l,y,f,e4,if_false,g];rw[yX (by omega)]
theorem ZDX(off:Nat)(vs cs:Array yh)(h:off+vs.size<=cs.size):
 (vs.zipIdx.foldl (λcs(q:yh×Nat)=>cs.setIfInBounds (off+q.2) q.1) cs).toList=cs.toList.take off++vs.toList++cs.toList.drop (off+vs.size):=by
 have:=RL off vs.toList 0 cs (by simpa using h);simp only[Nat.add_zero,yax]at this;rw[<-this, <-Array.foldl_toList,Array.toList_zipIdx]
theorem oP:∀(f:yL Dv),Dv.sizes f=(f.map Dv.size).sum
 |[]=>rfl
 |d::f=>by simp[Dv.sizes,oP f]
theorem oQ:∀(f:yL Pl),Pl.sizes f=(f.map Pl.size).sum
 |[]=>rfl
 |d::f=>by simp[Pl.sizes,oQ f]
theorem RM{J:Sg}{d:Dv}{v:yh}(hd:d.isAgg=ae\/v.oneCell'=ae)(h:yJ J d v):yH J d v.cells.toList:=by
 cases f:d.isAgg with
 |true=>
  obtain⟨j,rfl,g⟩:=(ZT f).1 h
  exact g
 |false=>
  have g:=(Zh f).1 h
  have:v.cells= #[v]:=by
   rcases hd with hd|hd
   .rw[f]at hd;cases hd
   .cases v <;> first|rfl|(simp[Value.oneCell']at hd)
  rw[this];exact g
mutual
theorem qx{J:Sg}:∀(d:Dv)(vs:yL yh),d.bF=ae->yH J d vs->∀u,u∈vs->u.oneCell'=ae
 |.p x,vs,_,h,u,f=>by simp only[yH]at h;exact AV x vs h u f
 |.elem _,_,_,h,u,f=>by simp only[yH]at h;obtain⟨b,o,l,rfl,_⟩:=h;cases yba.1 f;rfl
 |.ak _ _ _,_,_,h,u,f=>by simp only[yH]at h;obtain⟨b,_,_,rfl⟩:=h;cases yba.1 f;rfl
 |.own _ _ _ _,_,_,h,u,f=>by simp only[yH]at h;obtain⟨_,A,c,rfl,_⟩:=h;cases yba.1 f;rfl
 |.view _ _ _ _ _ _,_,_,h,u,f=>by simp only[yH]at h;obtain⟨b,c,a,_,_,rfl,_⟩:=h;cases yba.1 f;rfl
 |.agg g,vs,hs,h,u,f=>by simp only[yH]at h;simp only[Dv.bF]at hs;exact ep g vs hs h u f
 |.arr n s g,vs,hs,h,u,f=>by simp only[yH]at h;simp only[Dv.bF]at hs;exact ep g vs hs h.2.2 u f
 |.fn _ _,_,_,h,u,f=>by simp only[yH]at h;obtain⟨m,j,rfl,_⟩:=h;cases yba.1 f;rfl
 |.iface _ _,_,_,h,u,f=>by simp only[yH]at h;obtain⟨j,rfl,_⟩:=h;cases yba.1 f;rfl
 |.bm _,_,hs,_,_,_=>by simp[Dv.bF]at hs
 |.mp _,_,_,h,u,f=>by simp only[yH]at h;obtain⟨b,_,_,rfl⟩:=h;cases yba.1 f;rfl
 |.rv _ _ _ _ _,_,_,h,u,f=>by simp only[yH]at h;obtain⟨A,c,rfl,_⟩:=h;cases yba.1 f;rfl
 |.aZ _ _ _ _,_,_,h,u,f=>by simp only[yH]at h;obtain⟨b,o,rfl,_⟩:=h;cases yba.1 f;rfl
 |.an,_,hs,_,_,_=>by simp[Dv.bF]at hs
theorem ep{J:Sg}:∀(j:yL Dv)(vs:yL yh),Dv.dZ j=ae->aM J j vs->∀u,u∈vs->u.oneCell'=ae
 |[],_,_,h,u,f=>by simp only[aM]at h;subst h;cases f
 |x::l,vs,hs,h,u,f=>by
  simp only[Dv.dZ,yi]at hs;simp only[aM]at h;obtain⟨m,g,rfl,y,z⟩:=h;rcases ycm.1 f with h3|h3
  .exact qx x m hs.1 y u h3
  .exact ep l g hs.2 z u h3
end
theorem W6{J:Sg}{d:Dv}{v:yh}(hs:d.bF=ae)(h:yJ J d v):yH J d v.cells.toList:=by
 cases f:d.isAgg with
 |true=>exact RM (.inl f) h
 |false=>
  have g:=(Zh f).1 h;exact RM (.inr (qx d _ hs g v (by simp))) h
theorem qy{J:Sg}{place:Nat->yO (Nat×Nat)}{sz:yL Nat}(hp:∀i s,sz[i]? =ab s->place i=ab ((sz.take i).sum,s)):
 ∀(parts:yL (Nat×Dv×yh))(A y:yL Dv)(cells:Array yh),A.map Dv.size=sz->aM J A cells.toList->(∀q,q∈parts->q.2.1.bF=ae/\yJ J q.2.1 q.2.2)->
  iE A (parts.map λq=>(q.1,q.2.1))=ab y->∃f,Instr.fill place cells (parts.map λq=>(q.1,q.2.2))=ab f/\aM J y f.toList/\y.map Dv.size=sz
 |[],A,y,cells,z,Q,_,h=>by
  simp only[List.map_nil,iE,yn]at h;subst h
  exact⟨cells,rfl,Q,z⟩
 |(i,d,v)::yK,A,y,cells,z,Q,hq,h=>by
  simp only[yah,iE,yf]at h;obtain⟨ds1,F,h2⟩:=h;unfold uq at F;split at F
  .rename_i old l;split at F
   .rename_i g;cases F;obtain⟨a,b,c,e,ha,hb,R,h3,h4⟩:=lW Q l;obtain⟨S,T⟩:=hq (i,d,v) (yav ..);have m:=W6 S T;have U:v.cells.toList.length=d.size:=Xu _ _ m;have hi:i < A.length:=(yu.1 l).1;have G:sz[i]? =ab d.size:=by rw[<-z,yao,l];simp[g]
    have W:=hp i _ G;have I:(sz.take i).sum=a.length:=by rw[ha,oP, <-z,List.map_take]
    have hcs:cells.size=a.length+(b.length+c.length):=by
     rw[<-yax,e];simp
    have M:b.length=d.size:=by rw[R,g]
    have X:v.cells.size=d.size:=by rw[<-U,yax]
    have E:=qy hp yK (A.set i d) y (v.cells.zipIdx.foldl (λcs(q:yh×Nat)=>cs.setIfInBounds (a.length+q.2) q.1) cells) (by
     rw[<-z,List.map_set,g.symm];apply ybp;intro j;rw[ybx];split
     .rename_i Y;subst Y;rw[yao,l];simp[hi]
     .rfl) (by
     rw[ZDX _ _ _ (by omega),e];have e1:(a++(b++c)).take a.length=a:=by simp
     have e2:(a++(b++c)).drop (a.length+v.cells.size)=c:=by
      rw[X, <-M, <-yac, <-ym];simp
     rw[e1,e2,yac]
     have e3:A.set i d=A.take i++(d::A.drop (i+1)):=by
      rw[List.set_eq_take_append_cons_drop,yW hi]
     rw[e3];refine qt h3 ?_;simp only[aM];exact⟨_,_,rfl,m,h4⟩) (λq Z=>hq q (yaw _ Z)) h2
    obtain⟨f,k1,k2,k3⟩:=E;refine⟨f, ?_,k2,k3⟩;simp only[yah,Instr.fill,W,I];rw[yX (by simp;omega)];exact k1
   .cases F
  .cases F
theorem BC{J:Sg}:∀{j:yL Dv}{xs:yL Pl}{us:yL yh},jt j=ab xs->aM J j us->ar J.w J.be xs us
 |[],xs,us,h,g=>by simp only[jt,yn]at h;subst h;simpa[aM,ar] using g
 |d::j,xs,us,h,g=>by
  simp only[jt]at h;split at h
  .rename_i x R f m;cases h;simp only[aM]at g;obtain⟨a,b,rfl,l,y⟩:=g;simp only[ar];refine⟨a,b,rfl, ?_,BC m y⟩;unfold Dv.plain at f;split at f
   .cases f;simpa[yH] using l
   .cases f;simp only[yH]at l;obtain⟨z,A,c,E,F,G,I,M,Q,_⟩:=l;simp only[aA];exact⟨z,A,c,E,F,G,I,M,Q⟩
   .cases f
  .cases h
theorem RN:∀{g:yL Dv}{xs:yL Pl},jt g=ab xs->xs.map Pl.size=g.map Dv.size
 |[],xs,h=>by simp only[jt,yn]at h;subst h;rfl
 |d::g,xs,h=>by
  simp only[jt]at h;split at h
  .rename_i x l f j;cases h;simp only[yah,RN j];congr 1;unfold Dv.plain at f;split at f <;> first|(cases f;rfl)|cases f
  .cases h
mutual
theorem uH:∀(d:Dv)(x:Pl),d.flat=ab x->x.size=d.size
 |.p y,x,h=>by rw[Dv.flat]at h;cases h;rfl
 |.own id l s g,x,h=>by rw[Dv.flat]at h;cases h;rfl
 |.agg j,x,h=>by
  rw[Dv.flat]at h
  cases f:Dv.aS j with
  |none=>rw[f]at h;cases h
  |some g=>
   rw[f]at h;cases h;rw[Pl.size,Dv.size]
   exact eY j g f
 |.elem _,x,h=>by simp[Dv.flat]at h
 |.ak _ _ _,x,h=>by simp[Dv.flat]at h
 |.view _ _ _ _ _ _,x,h=>by simp[Dv.flat]at h
 |.arr _ _ _,x,h=>by simp[Dv.flat]at h
 |.fn _ _,x,h=>by simp[Dv.flat]at h
 |.iface _ _,x,h=>by simp[Dv.flat]at h
 |.bm _,x,h=>by simp[Dv.flat]at h
 |.mp _,x,h=>by simp[Dv.flat]at h
 |.rv _ _ _ _ _,x,h=>by simp[Dv.flat]at h
 |.aZ _ _ _ _,x,h=>by simp[Dv.flat]at h
 |.an,x,h=>by simp[Dv.flat]at h
theorem eY:∀(f:yL Dv)(xs:yL Pl),Dv.aS f=ab xs->Pl.sizes xs=Dv.sizes f
 |[],xs,h=>by rw[Dv.aS]at h;cases h;rfl
 |d::f,xs,h=>by
  rw[Dv.aS]at h;split at h
  .rename_i x g j l;cases h;rw[Pl.sizes,Dv.sizes,uH d x j,eY f g l]
  .cases h
end
theorem RO:∀{f:yL Dv}{xs:yL Pl},Dv.aS f=ab xs->xs.map Pl.size=f.map Dv.size
 |[],xs,h=>by rw[Dv.aS]at h;cases h;rfl
 |d::f,xs,h=>by
  rw[Dv.aS]at h;split at h
  .rename_i x l g j;cases h;simp only[yah,RO j,uH d x g]
  .cases h
mutual
theorem RP:∀(d:Dv)(x:Pl),d.flat=ab x->d.bF=ae
 |.p y,x,h=>rfl
 |.own id l s f,x,h=>rfl
 |.agg g,x,h=>by
  rw[Dv.flat]at h
  cases j:Dv.aS g with
  |none=>rw[j]at h;cases h
  |some f=>rw[Dv.bF];exact eJ g f j
 |.elem _,x,h=>by simp[Dv.flat]at h
 |.ak _ _ _,x,h=>by simp[Dv.flat]at h
 |.view _ _ _ _ _ _,x,h=>by simp[Dv.flat]at h
 |.arr _ _ _,x,h=>by simp[Dv.flat]at h
 |.fn _ _,x,h=>by simp[Dv.flat]at h
 |.iface _ _,x,h=>by simp[Dv.flat]at h
 |.bm _,x,h=>by simp[Dv.flat]at h
 |.mp _,x,h=>by simp[Dv.flat]at h
 |.rv _ _ _ _ _,x,h=>by simp[Dv.flat]at h
 |.aZ _ _ _ _,x,h=>by simp[Dv.flat]at h
 |.an,x,h=>by simp[Dv.flat]at h
theorem eJ:∀(f:yL Dv)(xs:yL Pl),Dv.aS f=ab xs->Dv.dZ f=ae
 |[],xs,h=>rfl
 |d::f,xs,h=>by
  rw[Dv.aS]at h;split at h
  .rename_i x g j l;rw[Dv.dZ,RP d x j,eJ f g l];rfl
  .cases h
end
theorem RQ:∀{g:yL Dv}{xs:yL Pl},Dv.aS g=ab xs->∀d,d∈g->d.bF=ae
 |[],_,_,d,f=>by cases f
 |x::g,xs,h,d,f=>by
  rw[Dv.aS]at h;split at h
  .rename_i y m j l
   cases f with
   |head=>exact RP _ _ j
   |tail _ f=>exact RQ l d f
  .cases h
theorem ZCf{J:Sg}{f:yL Dv}{xs:yL Pl}{us:yL yh}(h:Dv.aS f=ab xs)(g:aM J f us):ar J.w J.be xs us:=ei f xs us h g
theorem ZCg{J:Sg}{f:yL Dv}{cs:Array yh}(g:aM J f cs.toList):yJ J (qm f) (.agg cs):=by
 unfold qm;split
 .rename_i j h;rw[ZT rfl];exact⟨cs,rfl,by simp only[yH,aA];exact BC h g⟩
 .rw[ZT rfl];exact⟨cs,rfl,by simp only[yH];exact g⟩
theorem BD{P:yg}{J:Sg}{t:yc}{d:Dv}(h:bf P t=d)(f:d≠ .an):∃i v,P.info? t=ab i/\i.zero=ab v/\yJ J d v:=by
 unfold bf at h;split at h
 .rename_i i g;split at h
  .rename_i v j;exact⟨i,v,g,j,by rw[<-h];exact nq⟩
  .exact absurd h.symm f
 .exact absurd h.symm f
theorem BE{P:yg}:∀(j:yL Field),(∀f,f∈j->(P.info? f.type).isSome=ae)->
 j.mapM (λf=>(P.info? f.type).map λi=>(f.offset,i.size))=ab (j.map λf=>(f.offset,P.cellsOf f.type))
 |[],_=>by simp
 |f::j,h=>by
  have m:=h f (yav ..)
  cases l:P.info? f.type with
  |none=>simp[l]at m
  |some i=>
   simp[List.mapM_cons,l,BE j (λg y=>h g (yaw _ y)),Program.cellsOf]
section
variable{P:yg}{o:yj}{a:Act}{J:Sg}{ts:yL Dv}{hs hs':yL ao}{C:yL Prop}{d:Dv}
theorem uI(j:aC J ts a)(f:Nat->yc)(parts:yL (Nat×yp))(g:lU (gR P ts f parts)=ae):
 ∃h:yL (Nat×Dv×yh),(h.map λq=>(q.1,q.2.1))=gR P ts f parts/\(h.map λq=>(q.1,q.2.2))=parts.map (λq=>(q.1,a.eval q.2))/\(∀q,q∈h->q.2.1.bF=ae/\yJ J q.2.1 q.2.2):=by
 refine⟨parts.map λq=>(q.1,aF P ts (f q.1) q.2,a.eval q.2),by simp[gR],by simp,λq l=> ?_⟩;obtain⟨x,m,rfl⟩:=ybw.1 l;refine⟨?_,Zo j _ _⟩;simp only[lU,gR,List.all_map,yal]at g;exact g x m
theorem RR(n s i:Nat)(h:i<=n):((yx n s).take i).sum=i*s:=by
 rw[List.take_replicate,yay h,List.sum_replicate_nat]
theorem ZHf{t:yc}{parts:Array (Nat×yp)}(ok:Ok J)(yM:aC J ts a)(ho:o.op=.build t parts)(h:bh P o ts hs=ab (C,d,hs')):YD P o a J d J.H:=by
 simp only[bh,ho]at h
 have run:∀cells,P.built t (parts.map λq=>(q.1,a.eval q.2)).toList=ab cells->(execOp a.eval o).run P J.w=.ok (.value (.agg cells)) J.w:=λcells hv=>by
  have:=run_build (P:=P) J.w t (parts.map λq=>(q.1,a.eval q.2)) cells hv;simp[execOp,ho,this]
 split at h
 .rename_i S zs hu hz;split at h
  .rename_i hk;simp only[yi,yT]at hk;obtain⟨⟨A,zW⟩,zU⟩:=hk;simp only[yv,yq]at h;obtain⟨ds,l,rfl,rfl,rfl⟩:=h;obtain⟨it,z,U,E,F⟩:=BD (J:=J) hz (by simp);obtain⟨cs,rfl,m⟩:=(ZT rfl).1 F;simp only[yH,aA]at m
   have hf:∀i,i < S.size->∃f z,S[i]? =ab f/\zs[i]? =ab z/\f.offset=Pl.sizes (zs.take i)/\P.cellsOf f.type=z.size/\(P.info? f.type).isSome=ae:=by
    intro i G;have T:i < zs.length:=by omega
    have I:=yal.1 zU i (List.mem_range.2 T);unfold ko at I;have hzi:zs.getD i default=zs[i]:=by simp[List.getD,T]
    rw[hzi]at I;have hfi:S[i]? =ab S[i]:=Array.getElem?_eq_getElem G;rw[hfi]at I;simp only[yi,yT]at I;obtain⟨⟨⟨⟨⟨h2,h3⟩,h4⟩,_⟩,_⟩,_⟩:=I;exact⟨S[i],zs[i],hfi,yab T,h2,h3,h4⟩
   have hmap:=BE (P:=P) S.toList (λf hf'=>by
    obtain⟨i,G,rfl⟩:=List.getElem_of_mem hf';obtain⟨f,z,I,_,_,_,h2⟩:=hf i (by simpa using G)
    have:S.toList[i]=f:=by
     have:=(Array.getElem?_eq_some_iff.1 I).2;simpa using this
    rw[this];exact h2)
   obtain⟨qs,W,X,Y⟩:=uI (P:=P) yM (ju P t) parts.toList A;rw[<-W]at l
   obtain⟨g,y,hr,_⟩:=qy (J:=J) (place:=((S.toList.map λf=>(f.offset,P.cellsOf f.type)).toArray[·]?)) (sz:=zs.map Pl.size) (by
    intro i s G;rw[yao]at G;obtain⟨z,hz1,hz2⟩:=yv.1 G;have T:i < zs.length:=(yu.1 hz1).1;obtain⟨f,z',I,h2,h3,h4,_⟩:=hf i (by omega);rw[hz1]at h2;cases h2;have:S.toList[i]? =ab f:=by simpa using I
    simp only[List.getElem?_toArray,yao,this,Option.map_some,h3,h4,hz2,oQ,List.map_take]) qs (zs.map .p) ds cs (by simp[Dv.size,Function.comp_def]) (jw.2 m) Y l
   have hb:P.built t (parts.map λq=>(q.1,a.eval q.2)).toList=ab g:=by
    unfold Program.built;rw[U,hu];simp only[E,hmap,Value.cells];rw[Array.toList_map, <-X];exact y
   exact Zk ok (run _ hb) (ZCg hr)
  .cases h
 .rename_i n e n' s zs hu hz;split at h
  .rename_i hk;simp only[yi,yP]at hk;obtain⟨⟨A,hse⟩,hie⟩:=hk;simp only[yf]at h;obtain⟨ds,l,h⟩:=h;obtain⟨it,z,U,E,F⟩:=BD (J:=J) hz (by simp);obtain⟨cs,rfl,m⟩:=(ZT rfl).1 F;simp only[yH,aA]at m;obtain⟨hzl,hzs,m⟩:=m;obtain⟨qs,W,X,Y⟩:=uI (P:=P) yM (ju P t) parts.toList A;rw[<-W]at l
   have hszs:(zs.map Dv.p).map Dv.size=yx n' s:=by
    rw[<-hzl];apply ybp;intro j;simp only[yao,List.getElem?_replicate]
    cases hj:zs[j]? with
    |none=>
     have:=List.getElem?_eq_none_iff.1 hj
     simp;omega
    |some x=>
     have I:=(yu.1 hj).1;simp[I,Dv.size,hzs x (List.mem_of_getElem? hj)]
   obtain⟨g,y,hr,M⟩:=qy (J:=J) (place:=λi=>ab (i*s,s)) (sz:=yx n' s) (by
    intro i s' G;simp only[List.getElem?_replicate]at G;split at G
    .cases G;rw[RR _ _ _ (by omega)]
    .cases G) qs (zs.map .p) ds cs hszs (jw.2 m) Y l
   have Q:ds.length=n':=by
    have:=congrArg List.length M;simpa using this
   have Z:∀x,x∈ds->x.size=s:=by
    intro x hx;have:x.size∈ds.map Dv.size:=List.mem_map_of_mem hx;rw[M]at this;exact List.eq_of_mem_replicate this
   have hb:P.built t (parts.map λq=>(q.1,a.eval q.2)).toList=ab g:=by
    unfold Program.built;rw[U,hu]
    cases R:P.info? e with
    |none=>simp[R]at hie
    |some ie=>
     have:ie.size=s:=by rw[<-hse];simp[Program.cellsOf,R]
     simp only[E,R,Value.cells,this];rw[Array.toList_map, <-X];exact y
   split at h
   .rename_i xs hxs;cases h;refine Zk ok (run _ hb) ?_;rw[ZT rfl];have hps:=RN hxs
    refine⟨g,rfl,by
     simp only[yH,aA];refine⟨?_, ?_,BC hxs hr⟩
     .have:=congrArg List.length hps;simp only[yad]at this;rw[this,Q]
     .intro x hx;have:x.size∈xs.map Pl.size:=List.mem_map_of_mem hx;rw[hps,M]at this;exact List.eq_of_mem_replicate this⟩
   .cases h;refine Zk ok (run _ hb) ?_;rw[ZT rfl];exact⟨g,rfl,by simp only[yH];exact⟨Q,Z,hr⟩⟩
  .cases h
 .cases h
end
theorem RT(s:Nat):∀(new pre post:yL Dv),post.length=new.length->(∀x,x∈post->x.size=s)->(∀x,x∈new->x.size=s)->
 iE (pre++post) ((List.range' pre.length new.length).zip new)=ab (pre++new)
 |[],pre,post,f,_,_=>by
  have:post=[]:=ybi (by simpa using f);subst this
  simp[iE]
 |d::new,pre,[],f,_,_=>by simp at f
 |d::new,pre,q::post,f,h,j=>by
  simp only[yag,List.range'_succ,List.zip_cons_cons,iE];have e:(pre++q::post)[pre.length]? =ab q:=by simp
  have hs:q.size=d.size:=by rw[h q (yav ..),j d (yav ..)]
  have l:(pre++q::post).set pre.length d=(pre++[d])++post:=by simp
  simp only[uq,e,hs,if_true,Option.bind_some,l];have:=RT s new (pre++[d]) post (by simpa using f) (λx g=>h x (yaw _ g)) (λx g=>j x (yaw _ g));simp only[ym,yag,List.length_nil,yar,yac,List.singleton_append]at this ⊢;exact this
theorem RU{α β γ:Type}(f:α->β)(g:α->γ):∀(l:yL α),l.map (λq=>(f q,g q))=(l.map f).zip (l.map g)
 |[]=>rfl
 |x::l=>by simp[RU f g l]
theorem RV{J:Sg}:∀(us:yL yh),aM J (yx us.length .an) us
 |[]=>by simp[aM]
 |u::us=>by
  simp only[yag,List.replicate_succ,aM];exact⟨[u],us,rfl,by simp[yH],RV us⟩
def oR(s:Nat):Dv:=.agg (yx s .an)
theorem RW(s:Nat):(oR s).size=s:=by
 show Dv.sizes (yx s .an)=s;rw[oP,List.map_replicate,List.sum_replicate_nat];simp[Dv.size]
theorem ZCh{J:Sg}{s:Nat}{us:yL yh}(h:us.length=s):yH J (oR s) us:=by
 subst h;show yH J (.agg (yx us.length .an)) us;simp only[yH];exact RV us
theorem RX{J:Sg}{s:Nat}:∀(n:Nat)(us:yL yh),us.length=n*s->aM J (yx n (oR s)) us
 |0,us,h=>by
  have:us=[]:=ybi (by simpa using h);subst this
  simp[aM]
 |n+1,us,h=>by
  rw[ybb,Nat.one_mul]at h;simp only[List.replicate_succ,aM];exact⟨us.take s,us.drop s,(ybc s us).symm,ZCh (by rw[yaa];omega),RX n _ (by rw[List.length_drop];omega)⟩
section
variable{P:yg}{o:yj}{a:Act}{J:Sg}{ts:yL Dv}{hs hs':yL ao}{C:yL Prop}{d:Dv}
theorem ZCi(U:aC J ts a){e:yc}{s len:Nat}{parts:yL (Nat×yp)}{xs:yL Pl}(h:XB P ts e s len parts=ab xs)(Z:Array yh)(W:Z.size=len*s):
 ∃cells:Array yh,Instr.fill (λi=>ab (i*s,s)) Z (parts.map λq=>(q.1,a.eval q.2))=ab cells/\ar J.w J.be xs cells.toList/\xs.length=len/\aW s xs:=by
 unfold XB at h;split at h
 .rename_i X;have m:parts.map (·.1)=yo len:=by simpa using X
  split at h
  .rename_i Y G;split at h
   .rename_i zU;cases h
    have z:∀x,x∈xs->x.size=s:=by
     intro x g;have:=yal.1 zU x g;simpa using this
    have A:=RO G
    have j:(parts.map λq=>aF P ts e q.2).length=len:=by
     have:=congrArg List.length m;simpa using this
    have I:∀x,x∈(parts.map λq=>aF P ts e q.2)->x.size=s:=by
     intro x g;have E:x.size∈(parts.map λq=>aF P ts e q.2).map Dv.size:=List.mem_map_of_mem g;rw[<-A]at E;obtain⟨y,hy,he⟩:=ybw.1 E;rw[<-he];exact z y hy
    have M:xs.length=len:=by
     have:=congrArg List.length A;simp only[yad]at this;rw[this];simpa using j
    obtain⟨qs,Q,R,S⟩:=uI (P:=P) U (λ_=>e) parts (by
     simp only[lU,gR,List.all_map,yal];intro q hq;exact RQ G _ (List.mem_map_of_mem hq))
    have f:iE (yx len (oR s)) (gR P ts (λ_=>e) parts)=ab (parts.map λq=>aF P ts e q.2):=by
     have E:=RT s (parts.map λq=>aF P ts e q.2) [] (yx len (oR s)) (by simpa using j.symm) (λx g=>by rw[List.eq_of_mem_replicate g,RW]) I;simp only[List.nil_append,List.length_nil]at E
     have h2:gR P ts (λ_=>e) parts=(List.range' 0 (parts.map λq=>aF P ts e q.2).length).zip (parts.map λq=>aF P ts e q.2):=by
      rw[j, <-List.range_eq_range', <-m];exact RU _ _ parts
     rw[h2];exact E
    rw[<-Q]at f
    obtain⟨cells,l,T,_⟩:=qy (J:=J) (place:=λi=>ab (i*s,s)) (sz:=yx len s) (by
     intro i s' F;simp only[List.getElem?_replicate]at F;split at F
     .cases F;rw[RR _ _ _ (by omega)]
     .cases F) qs (yx len (oR s)) _ Z (by simp[RW]) (RX len _ (by simpa using W)) S f
    refine⟨cells, ?_,ZCf G T,M,λx g=>z x g⟩;rw[<-R];exact l
   .cases h
  .cases h
 .cases h
theorem Zqi{e t:yc}{i:TypeInfo}{len:Nat}{parts:Array (Nat×yh)}{Q:Array yh->Prop}(w:yr)(hu:P.underlying t=ab (.slice e))(hi:P.info? e=ab i)(hz:cu i=ae)
 (hsz:len*i.size<=16777216) (f:∀Z:Array yh,Z.size=len*i.size->∃cells,Instr.fill (λj=>ab (j*i.size,i.size)) Z parts.toList=ab cells/\Q cells):
 ∃cells,(Instr.buildSlice t len parts).run P w=.ok (.slice (ab ⟨w.heap.size,0,ad⟩) len len) (w.alloc (.cells cells e))/\Q cells:=by
 unfold cu at hz;split at hz
 .rename_i z h;have y:¬(16777216 < len*i.size):=by omega
  by_cases l:len*i.size=0
  .obtain⟨cells,g,m⟩:=f ((Array.range (len*i.size)).map (#[][· % (#[]:Array yh).size]!)) (by simp);refine⟨cells, ?_,m⟩;simp only[l]at g;simp[Instr.buildSlice,run_underlying hu,sizeOf,typeInfo,hi,l,newRow];simp at g;simp[g]
  .obtain⟨cells,g,m⟩:=f ((Array.range (len*i.size)).map (z.cells[· % z.cells.size]!)) (by simp);exact⟨cells,by simp[Instr.buildSlice,run_underlying hu,sizeOf,typeInfo,zeroValue,hi,h,y,l,newRow,g],m⟩
 .cases hz
end
theorem cH{α:Type}{l:yL α}{i j:Nat}{x:α}(h:i≠j):(l.set i x)[j]? =l[j]? :=by
 rw[ybx,yX h]
theorem aj{α:Type}{l:yL α}{i:Nat}{x y:α}(h:l[i]? =ab y):(l.set i x)[i]? =ab x:=by
 rw[ybx,yW rfl,yW (yu.1 h).1]
theorem YF{J J':Sg}(ok:Ok J){id:Nat}{mi mi':yO Nat}{Y I:aq}(hH:J.H[id]? =ab Y)(hm:J.m[id]? =ab mi)
 (eF:J'.F=J.F) (Z:J'.B=J.B) (eH:J'.H=J.H.set id I) (em:J'.m=J.m.set id mi')
 (hos:J'.w.os=J.w.os) (htape:J'.w.tape=J.w.tape) (hout:J'.w.output=J.w.output) (hsize:J.w.heap.size<=J'.w.heap.size)
 (zV:∀b,b < J.w.heap.size->mi≠ab b->J'.w.heap[b]? =J.w.heap[b]?)
 (hown:∀b o v,mi=ab b->Y.bv o->J.w.cell? ⟨b,o,ad⟩=ab v->J'.w.cell? ⟨b,o,ad⟩=ab v)
 (hunl:∀o,mi'=mi->Y.bv o->I.bv o)
 (hmi:mi'=mi\/∃b',mi'=ab b'/\J.w.heap.size<=b'/\b' < J'.w.heap.size)
 (hvar:(∃d st,Y=.var d st)->mi'=mi/\∃d st,I=.var d st)
 (hmap:(∃t bR,Y=.map t bR)->mi'=mi/\∃t bR,I=.map t bR)
 (hlog:∀s e xs,Y=.log s e xs->∃T,I=.log s e T/\xs.length<=T.length/\(T.length=xs.length->mi'=mi/\∀b,b < J.w.heap.size->J'.w.heap[b]? =J.w.heap[b]?))
 (hent:ck J J'->dG J' mi' I)
 (hrow:∀v s st e d,Y=.row v s st e d->∃v' M d',I=.row v' s M e d'/\v<=v'/\(v'=v->mi'=mi/\∀b cur,mi=ab b->J.w.heap[b]? =ab (.cells cur e (0,0))->∃cur',J'.w.heap[b]? =ab (.cells cur' e (0,0))/\cur'.size=cur.size):=by
   intro _ _ _ _ _ h;cases h):To J J'/\Ok J':=by
 have hlt:∀b,mi=ab b->b < J.w.heap.size:=λb h=>ok.lt id b (by rw[hm,h]);have y:∀j,j≠id->J'.m[j]? =J.m[j]? :=λj G=>by rw[em,cH (Ne.symm G)]
 have g:J'.m[id]? =ab mi':=by rw[em];exact aj hm
 have Hset:∀j,j≠id->J'.H[j]? =J.H[j]? :=λj G=>by rw[eH,cH (Ne.symm G)]
 have Hself:J'.H[id]? =ab I:=by rw[eH];exact aj hH
 have hob:∀j b,j≠id->J.m[j]? =ab (ab b)->J'.w.heap[b]? =J.w.heap[b]? :=λj b G h=>
  zV b (ok.lt j b h) (λS=>G (ok.inj j id b h (by rw[hm,S])))
 have U:ck J J':=by
  refine⟨λb o v l z=>⟨?_, ?_, ?_⟩,λj b l z=> ?_,λj s len A c l=> ?_,λj b l z=> ?_,λj v s st e d l=> ?_⟩
  .by_cases R:mi=ab b
   .exact hown b o v R (z.2 id Y (by rw[hm,R]) hH) l
   .rw[World.cell?_of_block (w:=J.w) (zV b (X6 l) R)];exact l
  .rcases z.1 with h3|h3
   .exact .inl (by rw[eF];exact h3)
   .exact .inr (by rw[Z];exact h3)
  .intro j e G S;by_cases f:j=id
   .subst f;rw[g]at G;rw[Hself]at S;cases S;have Q:mi'=ab b:=by simpa using G
    rcases hmi with h3|⟨b',h3,X,_⟩
    .have hmb:mi=ab b:=by rw[<-h3,Q]
     exact hunl o h3 (z.2 j Y (by rw[hm,hmb]) hH)
    .have:b'=b:=by rw[h3]at Q;exact ybl Q
     have:=X6 l;omega
   .rw[y j f]at G;rw[Hset j f]at S;exact z.2 j e G S
  .by_cases f:j=id
   .subst f;obtain⟨d,st,z⟩:=z;rw[hH]at z;obtain⟨h3,d',M,X⟩:=hvar ⟨d,st,ybl z⟩;rw[hm]at l;exact⟨by rw[g,h3];exact l,d',M,by rw[Hself,X]⟩
   .exact⟨by rw[y j f];exact l,by rw[Hset j f];exact z⟩
  .obtain⟨e,ys,z,h3,X⟩:=l;by_cases f:j=id
   .subst f;rw[hH]at z;obtain⟨T,k1,k2,k3⟩:=hlog s e ys (ybl z);refine⟨e,T,by rw[Hself,k1],by omega,λhl=> ?_⟩;obtain⟨k4,k5⟩:=k3 (by omega);rcases X (by omega) with⟨W,h6⟩|⟨b,cur,W,h6,h7,h8⟩
    .exact .inl ⟨by rw[g,k4, <-hm];exact W,h6⟩
    .exact .inr ⟨b,cur,by rw[g,k4, <-hm];exact W,h6,(k5 b (ok.lt j b W)).trans h7,h8⟩
   .refine⟨e,ys,by rw[Hset j f];exact z,h3,λhl=> ?_⟩;rcases X hl with⟨W,h6⟩|⟨b,cur,W,h6,h7,h8⟩
    .exact .inl ⟨by rw[y j f];exact W,h6⟩
    .exact .inr ⟨b,cur,by rw[y j f];exact W,h6,(hob j b f W).trans h7,h8⟩
  .by_cases f:j=id
   .subst f;obtain⟨d,st,z⟩:=z;rw[hH]at z;obtain⟨h3,d',M,X⟩:=hmap ⟨d,st,ybl z⟩;rw[hm]at l;exact⟨by rw[g,h3];exact l,d',M,by rw[Hself,X]⟩
   .exact⟨by rw[y j f];exact l,by rw[Hset j f];exact z⟩
  .by_cases f:j=id
   .subst f;rw[hH]at l;obtain⟨v',M,d',k1,k2,k3⟩:=hrow v s st e d (ybl l);refine⟨v',M,d',by rw[Hself,k1],k2,λhv=> ?_⟩;obtain⟨k4,k5⟩:=k3 hv;exact⟨by rw[g,k4, <-hm],λb cur R hc=>k5 b cur (by rw[hm]at R;exact ybl R) hc⟩
   .exact⟨v,st,d,by rw[Hset j f];exact l,yl _,λ_=>⟨y j f,λb cur R hc=>⟨cur,(hob j b f R).trans hc,rfl⟩⟩⟩
 have E:∀j b,J'.m[j]? =ab (ab b)->(J.m[j]? =ab (ab b)/\(j=id->mi'=mi))\/(j=id/\J.w.heap.size<=b/\b < J'.w.heap.size):=by
  intro j b G;by_cases f:j=id
  .subst f;rw[g]at G;have Q:mi'=ab b:=by simpa using G
   rcases hmi with h3|⟨b',h3,X,W⟩
   .exact .inl ⟨by rw[hm, <-h3,Q],λ_=>h3⟩
   .have:b'=b:=by rw[h3]at Q;exact ybl Q
    subst this;exact .inr ⟨rfl,X,W⟩
  .rw[y j f]at G;exact .inl ⟨G,λh=>absurd h f⟩
 refine⟨⟨U,eF,Z,hos,htape,hout,hsize,λb R hn=>zV b R (λS=>hn id (by rw[hm,S])),λj b G=> ?_,by rw[em,ybu];exact yl _⟩, ?_, ?_, ?_, ?_, ?_, ?_⟩
 .rcases E j b G with⟨h,_⟩|⟨_,h,_⟩
  .exact .inl h
  .exact .inr h
 .rw[em,eH,ybu,ybu];exact ok.len
 .intro i j b hi G;rcases E i b hi with⟨l,_⟩|⟨l,z,_⟩ <;> rcases E j b G with⟨h3,_⟩|⟨h3,X,_⟩
  .exact ok.inj i j b l h3
  .have:=ok.lt i b l;omega
  .have:=ok.lt j b h3;omega
  .rw[l,h3]
 .intro i b hi;rcases E i b hi with⟨l,_⟩|⟨_,_,z⟩
  .exact Nat.lt_of_lt_of_le (ok.lt i b l) hsize
  .exact z
 .intro i e a S ha;by_cases f:i=id
  .subst f;rw[g]at ha;rw[Hself]at S;cases S;cases ha;exact hent U
  .rw[y i f]at ha;rw[Hset i f]at S;exact nu U (λb R=>hob i b f (by rw[ha,R])) (ok.dD i e a S ha)
 .intro b R;rw[Z];exact ok.new b (ybt hsize R)
 .intro i b hi;rw[Z];rcases E i b hi with⟨l,_⟩|⟨_,l,_⟩
  .exact ok.own i b l
  .exact ok.new b l
theorem Wv{J J':Sg}(ok:Ok J){mi:yO Nat}{en:aq}(eF:J'.F=J.F)(I:J'.B=J.B)(eH:J'.H=J.H++[en])(em:J'.m=J.m++[mi])
 (T:J.w.grownBy J'.w ad) (hmi:mi=ad\/∃b,mi=ab b/\J.w.heap.size<=b/\b < J'.w.heap.size) (X:ck J J'->dG J' mi en):To J J'/\Ok J':=by
 have Y:∀b,b < J.w.heap.size->J'.w.heap[b]? =J.w.heap[b]? :=λb M=>T.block b M (by simp)
 have Q:∀j a,J.m[j]? =ab a->J'.m[j]? =ab a:=λj a h=>by
  rw[em,ybe (yu.1 h).1];exact h
 have R:∀j e,J.H[j]? =ab e->J'.H[j]? =ab e:=λj a h=>by
  rw[eH,ybe (yu.1 h).1];exact h
 have l:∀j a,J'.m[j]? =ab a->J.m[j]? =ab a\/(j=J.m.length/\a=mi):=λj a h=>by
  rw[em]at h;rcases Nat.lt_or_ge j J.m.length with h1|h1
  .rw[ybe h1]at h;exact .inl h
  .rw[yaq h1]at h;have S:j - J.m.length < 1:=(yu.1 h).1;have:j=J.m.length:=by omega
   subst this;simp at h;exact .inr ⟨rfl,h.symm⟩
 have Z:∀j e,J'.H[j]? =ab e->J.H[j]? =ab e\/(j=J.H.length/\e=en):=λj a h=>by
  rw[eH]at h;rcases Nat.lt_or_ge j J.H.length with h1|h1
  .rw[ybe h1]at h;exact .inl h
  .rw[yaq h1]at h;have S:j - J.H.length < 1:=(yu.1 h).1;have:j=J.H.length:=by omega
   subst this;simp at h;exact .inr ⟨rfl,h.symm⟩
 have G:ck J J':=by
  refine⟨λb o v h1 g=>⟨?_, ?_, ?_⟩,λj b h1 g=> ?_,λj s len A c h1=> ?_,λj b h1 g=> ?_,λj v s st e d h1=>⟨v,st,d,R _ _ h1,yl _,λ_=>⟨?_,λb U M hc=>⟨U,(Y b (ok.lt j b M)).trans hc,rfl⟩⟩⟩⟩
  .rw[World.cell?_of_block (w:=J.w) (Y b (X6 h1))];exact h1
  .rcases g.1 with h3|h3
   .exact .inl (by rw[eF];exact h3)
   .exact .inr (by rw[I];exact h3)
  .intro j e S he;rcases l j _ S with h3|⟨h3,W⟩
   .rcases Z j _ he with f|⟨f,_⟩
    .exact g.2 j e h3 f
    .have:=(yu.1 h3).1;have:=ok.len;omega
   .rcases hmi with f|⟨b',f,E,_⟩
    .rw[f]at W;cases W
    .rw[f]at W;have:=X6 h1;cases W;omega
  .obtain⟨d,st,g⟩:=g;exact⟨Q _ _ h1,d,st,R _ _ g⟩
  .obtain⟨e,ys,g,h3,W⟩:=h1;refine⟨e,ys,R _ _ g,h3,λhl=> ?_⟩;rcases W hl with⟨f,E⟩|⟨b,U,f,E,h7,h8⟩
   .exact .inl ⟨Q _ _ f,E⟩
   .exact .inr ⟨b,U,Q _ _ f,E,(Y b (ok.lt j b f)).trans h7,h8⟩
  .obtain⟨d,st,g⟩:=g;exact⟨Q _ _ h1,d,st,R _ _ g⟩
  .have S:j < J.m.length:=by rw[ok.len];exact(yu.1 h1).1
   rw[em,ybe S]
 refine⟨⟨G,eF,I,T.os,T.tape,T.output,T.size,λb M _=>Y b M,λj b S=> ?_,by rw[em,ym];omega⟩, ?_, ?_, ?_, ?_, ?_, ?_⟩
 .rcases l j _ S with h|⟨_,h⟩
  .exact .inl h
  .rcases hmi with f|⟨b',f,E,_⟩
   .rw[f]at h;cases h
   .rw[f]at h;cases h;exact .inr E
 .rw[em,eH,ym,ym,ok.len];rfl
 .intro i j b hi S;rcases l i _ hi with h1|⟨h1,y⟩ <;> rcases l j _ S with g|⟨g,z⟩
  .exact ok.inj i j b h1 g
  .have:=ok.lt i b h1;rcases hmi with f|⟨b',f,E,_⟩
   .rw[f]at z;cases z
   .rw[f]at z;cases z;omega
  .have:=ok.lt j b g;rcases hmi with f|⟨b',f,E,_⟩
   .rw[f]at y;cases y
   .rw[f]at y;cases y;omega
  .rw[h1,g]
 .intro i b hi;rcases l i _ hi with h1|⟨_,h1⟩
  .exact Nat.lt_of_lt_of_le (ok.lt i b h1) T.size
  .rcases hmi with f|⟨b',f,_,E⟩
   .rw[f]at h1;cases h1
   .rw[f]at h1;cases h1;exact E
 .intro i e a he ha;rcases Z i _ he with h1|⟨h1,y⟩ <;> rcases l i _ ha with g|⟨g,z⟩
  .exact nu G (λb M=>Y b (ok.lt i b (by rw[g,M]))) (ok.dD i e a h1 g)
  .have:=(yu.1 h1).1;have:=ok.len;omega
  .have:=(yu.1 g).1;have:=ok.len;omega
  .rw[y,z];exact X G
 .intro b M;rw[I];exact ok.new b (ybt T.size M)
 .intro i b hi;rw[I];rcases l i _ hi with h1|⟨_,h1⟩
  .exact ok.own i b h1
  .rcases hmi with f|⟨b',f,E,_⟩
   .rw[f]at h1;cases h1
   .rw[f]at h1;cases h1;exact ok.new b E
end Go.Ev
end
section
namespace Go.Ev
section
variable{P:yg}{o:yj}{a:Act}{J:Sg}{ts:yL Dv}{hs hs':yL ao}{C:yL Prop}{d:Dv}
theorem lf{i:TypeInfo}(h:cu i=ae):∃z,i.zero=ab z/\z.cells.size=i.size:=by
 unfold cu at h;split at h
 .rename_i z f;exact⟨z,f,by simpa using h⟩
 .cases h
structure Src(P:yg)(w:yr)(u:yc)(size:Nat)(S:yh)(m:Nat)(zX:List yh):Prop where
 ty:(∃e',P.underlying u=ab (.slice e'))\/P.underlying u=ab .string
 len:∀w',(Builtin.lenOf S).run P w'=.ok m w'
 first:(Builtin.firstCells size m S).run P w=.ok zX.toArray w
 BF:(Builtin.firstCells size m S).run P w.drew=.ok zX.toArray w.drew
 cells:zX.length=m*size
theorem RY{w:yr}{S:Nat->Nat->Prop}{u E:yc}{s f:Nat}{xs:yL Pl}{A:yO Addr}{c:Nat}(hu:P.underlying u=ab (.slice E))(hs:f=s\/xs=[])(hsz:aW f xs)
 (F:xs≠[]->∃b o us,A=ab ⟨b,o,ad⟩/\ar w S xs us/\Wn w S b o us):
 ∃zX,Src P w u s (.slice A xs.length c) xs.length zX/\ar w S xs zX:=by
 rcases xs with _|⟨x,xs⟩
 .refine⟨[],⟨.inl ⟨_,hu⟩,λG=>rfl, ?_, ?_,by simp⟩,by simp[ar]⟩
  .cases A <;> simp[Builtin.firstCells,loadCells,loadCellsFrom]
  .cases A <;> simp[Builtin.firstCells,loadCells,loadCellsFrom]
 .have g:f=s:=by
   rcases hs with h|h
   .exact h
   .cases h
  subst g;obtain⟨b,o,us,rfl,y,z⟩:=F (by simp);have l:us.length=(x::xs).length*f:=by rw[aL _ _ y,aN hsz]
  refine⟨us,⟨.inl ⟨_,hu⟩,λG=>rfl, ?_, ?_,l⟩,y⟩
  .exact run_firstCells_some w f _ ⟨b,o,ad⟩ _ c us l (λj v m=>by rw[Addr.bH];exact(z j v m).1)
  .exact run_firstCells_some w.drew f _ ⟨b,o,ad⟩ _ c us l (λj v m=>by rw[Addr.bH];exact(z j v m).1)
theorem Zqj{w:yr}{t u ty e:yc}{i:TypeInfo}{S:yh}{zX:yL yh}(ht:P.underlying t=ab (.slice e))(hi:P.info? e=ab i)(g:Src P w u i.size S 0 zX):
 (Builtin.append_ #[t,u] ty #[.slice ad 0 0,S]).run P w=.ok (.slice ad 0 0) w:=by
 obtain⟨f,h,j,l,y⟩:=g
 rcases f with⟨m,hu⟩|hu <;>
  (simp[Builtin.append_,run_underlying ht,run_underlying hu,sizeOf,typeInfo,hi,h,j])
theorem BG{w:yr}{t u ty e z:yc}{i:TypeInfo}{S:yh}{m:Nat}{zX:yL yh}(ht:P.underlying t=ab (.slice e))(hi:P.info? e=ab i)(A:Src P w u i.size S m zX)
 (h1:∀v,v∈zX->v.oneCell'=ae) {g n cap:Nat} {cur:Array yh} (E:w.heap[g]? =ab (.cells cur z (0,0))) (f:n+m<=cap) (h:cur.size=cap*i.size):
 (Builtin.append_ #[t,u] ty #[.slice (ab ⟨g,0,ad⟩) n cap,S]).run P w=
   .ok (.slice (ab ⟨g,0,ad⟩) (n+m) cap) (w.setRow g (cur.toList.take (n*i.size)++zX++cur.toList.drop (n*i.size+zX.length)).toArray):=by
 obtain⟨y,F,G,I,M⟩:=A;have j:n*i.size+zX.length<=cur.size:=by rw[M,h, <-ybb];exact ycb _ f
 have l:=run_storeCells_at P g (n*i.size) z zX 0 cur w E (by simpa using j) h1;simp only[Nat.add_zero]at l
 rcases y with⟨Q,hu⟩|hu <;>
  (simp[Builtin.append_,run_underlying ht,run_underlying hu,sizeOf,typeInfo,hi,F,f,G,Addr.add_lit,l])
theorem BH{w:yr}{t u ty e:yc}{i:TypeInfo}{z:yh}{S:yh}{m:Nat}{zX olds:yL yh}(ht:P.underlying t=ab (.slice e))(hi:P.info? e=ab i)(hz:i.zero=ab z)
 (G:Src P w u i.size S m zX) {A:yO Addr} {n cap:Nat} (g:(Builtin.firstCells i.size n (.slice A n cap)).run P w.drew=.ok olds.toArray w.drew) (f:cap < n+m)
 (l:n+m<=maxLen) (hb:(n+m)*i.bytes<=Zs):
 (Builtin.append_ #[t,u] ty #[.slice A n cap,S]).run P w=
   .ok (.slice (ab ⟨w.heap.size,0,ad⟩) (n+m) (grownCap w (n+m) cap e)) (w.drew.alloc (.cells (olds.toArray++zX.toArray++Builtin.zeroCells z.cells (grownCap w (n+m) cap e - (n+m))) e)):=by
 obtain⟨y,I,R,E,T⟩:=G;have M:¬(n+m<=cap):=by omega
 have h:¬(9223372036854775807 < ((n:Int)+(m:Int))):=by
  simp only[maxLen]at l;omega
 have F:=growslice_fits (old:=cap) f (by simpa[Zs] using hb);have j:¬(281474976710656 < Builtin.nextslicecap (n+m) cap*i.bytes):=by omega
 rcases y with⟨Q,hu⟩|hu <;>
  (simp[Builtin.append_,run_underlying ht,run_underlying hu,sizeOf,typeInfo,zeroValue,hi,hz,I,M,h,j,Question.forced,E,g,newRow,grownCap]
   congr 2;apply Array.ext';simp[yac])
theorem YR(w:yr)(f:Obj)(row:yO Nat):w.grownBy (w.drew.alloc f) row:=
 let h:=World.grownBy_alloc w.drew f row
 ⟨h.os,h.tape,h.output,h.size,h.block⟩
theorem oS(S:aC J ts a){s:Nat}{u ut:yc}{x:yp}{ys:yL Pl}(h:gU P s u (aF P ts ut x)=ab ys):
 ∃zX,Src P J.w u s (a.eval x) ys.length zX/\ar J.w J.be ys zX/\(ys≠[]->aW s ys):=by
 have f:=Zo (P:=P) S ut x;unfold gU at h;split at h
 .rename_i e T R U g j;split at h
  .rename_i hc;cases h;rw[j]at f;obtain⟨m,A,c,E,W,X,Y,Z,F⟩:=XS f;rw[E]
   have y:R=s\/ys=[]:=by
    rcases hc with hc|hc
    .exact .inl hc
    .exact .inr (by simpa using hc)
   obtain⟨zX,G,I⟩:=RY (P:=P) (w:=J.w) (c:=c) g y m F;refine⟨zX,G,I,λM=> ?_⟩;rcases y with hc|hc
   .exact hc ▸ m
   .exact absurd hc M
  .cases h
 .rename_i e id T R U g j;split at h
  .rename_i hc;cases h;rw[j]at f;obtain⟨m,A,c,E,W,X,Y,Z,F,_⟩:=QA f;rw[E];obtain⟨zX,G,I⟩:=RY (P:=P) (w:=J.w) (c:=c) g (.inl hc) m F;exact⟨zX,G,I,λ_=>hc ▸ m⟩
  .cases h
 .rename_i z g j;split at h
  .rename_i hc;cases h;subst hc;rw[j]at f;rw[oN f];have Q:(z.data.toList.map λb=>Pl.int .u8 (b.toNat:Int)).length=z.size:=by rw[yad,yax];rfl
   refine⟨z.data.toList.map λb=>Value.int .u8 (b.toNat:Int),⟨.inr g,λw'=>by rw[Q];rfl, ?_, ?_,by simp⟩, ?_,λ_=> ?_⟩
   .rw[Q];have:=Go.Lib.run_firstCells_string (P:=P) J.w 1 z;exact this
   .rw[Q];have:=Go.Lib.run_firstCells_string (P:=P) J.w.drew 1 z;exact this
   .generalize z.data.toList=l
    induction l with
    |nil=>simp[ar]
    |cons b r ih=>simp only[yah,ar];exact⟨[.int .u8 b.toNat],_,rfl,by simp[aA],ih⟩
   .intro q hq;obtain⟨b,_,rfl⟩:=ybw.1 hq;rfl
  .cases h
 .cases h
def lY(P:yg)(J:Sg)(s:Nat)(u:yc)(S:yh)(ys:yL Pl):Prop:=∃f,Src P J.w u s S ys.length f/\ar J.w J.be ys f/\(ys≠[]->aW s ys)
theorem uJ(ok:Ok J)(R:aC J ts a){t u ty e:yc}{i:TypeInfo}{y:yp}{ys:yL Pl}(ht:P.underlying t=ab (.slice e))(hi:P.info? e=ab i)(hz:cu i=ae)(G:i.size≠0)
 (f:lY P J (P.cellsOf e) u (a.eval y) ys) (hb:ys.length*i.bytes<=Zs) (hm:ys.length<=maxLen):
 (ys=[]/\(Builtin.append_ #[t,u] ty #[.slice ad 0 0,a.eval y]).run P J.w=.ok (.slice ad 0 0) J.w)\/
 ∃zX yK,ys≠[]/\aW i.size ys/\ar J.w J.be ys zX/\ys.length<=grownCap J.w ys.length 0 e/\grownCap J.w ys.length 0 e<=maxLen/\
  (zX.toArray++yK:Array yh).size=grownCap J.w ys.length 0 e*i.size/\
  (Builtin.append_ #[t,u] ty #[.slice ad 0 0,a.eval y]).run P J.w=.ok (.slice (ab ⟨J.w.heap.size,0,ad⟩) ys.length (grownCap J.w ys.length 0 e)) (J.w.drew.alloc (.cells (zX.toArray++yK) e)):=by
 have j:P.cellsOf e=i.size:=by simp[Program.cellsOf,hi]
 rw[j]at f;obtain⟨zX,h,I,M⟩:=f;rcases Nat.eq_zero_or_pos ys.length with h0|h0
 .refine .inl ⟨ybi h0, ?_⟩;rw[h0]at h;exact Zqj ht hi h
 .have g:ys≠[]:=by
   rintro rfl;simp at h0
  obtain⟨z,l,m⟩:=lf hz;have F:=BH (P:=P) (ty:=ty) (A:=ad) (n:=0) (cap:=0) (olds:=[]) ht hi l h (by simp[Builtin.firstCells]) (by omega) (by omega) (by simpa using hb);simp only[yar]at F;have E:=grownCap_ge J.w ys.length 0 e;refine .inr ⟨zX,Builtin.zeroCells z.cells (grownCap J.w ys.length 0 e - ys.length),g,M g,I,E,grownCap_le_maxLen J.w ys.length 0 e hm, ?_,by simpa using F⟩;have Q:=h.cells;simp only[Array.size_append,List.size_toArray,size_zeroCells,m,Q, <-ybb];congr 1;omega
theorem nC{J':Sg}{b:Nat}{cells:yL yh}{cs:Array yh}{t:yc}(hb:J'.w.heap[b]? =ab (.cells cs t (0,0)))(f:∀o,o < cells.length->J'.be b o)(hp:cs.toList.take cells.length=cells):Wn J'.w J'.be b 0 cells:=by
 intro j u g;have h:j < cells.length:=(yu.1 g).1;rw[yar];refine⟨?_,f j h⟩;rw[cell_of_row J'.w b j cs t (0,0) hb, <-yby];rw[<-hp,ycd,yW h]at g;exact g
theorem RZ{J':Sg}{s:Nat}{xs:yL Pl}{b c:Nat}{cells:yL yh}{cs:Array yh}{t:yc}{nn:yO Bool}(g:iY nn (ab ⟨b,0,ad⟩))(ok:Ok J')(j:aW s xs)(l:ar J'.w J'.be xs cells)(hb:J'.w.heap[b]? =ab (.cells cs t (0,0)))
 (f:J'.B b) (h:∀(id:Nat),J'.m[id]? ≠ab (ab b)) (hp:cs.toList.take cells.length=cells) (hc:xs.length<=c) (hm:c<=maxLen):yJ J' (.p (.sl nn s xs)) (.slice (ab ⟨b,0,ad⟩) xs.length c):=
 Yq j hc hm g (by simp) (λ_=>⟨b,0,cells,rfl,l,nC hb (λo _=>RF ok f h) hp⟩)
theorem nD{s:Nat}{v:yh}(h:yJ J (.p (.sl (ab af) s [])) v):v=.slice ad 0 0:=by
 obtain⟨_,A,c,rfl,_,_,f,g,_⟩:=XS h;have:A=ad:=by simpa using f af rfl
 grind
theorem Yj{x y:yp}{t u:yc}{c:Call}(ho:o.op=.call c)(hc:c.callee=.builtin .append)(g:c.args.toList=[x,y])(f:c.argTypes.toList=[t,u]){v:yh}{w':yr}
 (h:(Builtin.append_ #[t,u] o.type #[a.eval x,a.eval y]).run P J.w=.ok v w'):(execOp a.eval o).run P J.w=.ok (.value v) w':=by
 have j:c.args= #[x,y]:=by rw[<-ycf (xs:=c.args),g]
 have l:c.argTypes= #[t,u]:=by rw[<-ycf (xs:=c.argTypes),f]
 simp[execOp,ho,resolve,hc,j,l,invoke,builtin,h]
theorem nE{x:yp}{t:yc}{c:Call}(ho:o.op=.call c)(hc:c.callee=.builtin .len)(g:c.args.toList=[x])(f:c.argTypes.toList=[t]){v:yh}
 (h:(Builtin.len_ #[t] o.type #[a.eval x]).run P J.w=.ok v J.w):(execOp a.eval o).run P J.w=.ok (.value v) J.w:=by
 have j:c.args= #[x]:=by rw[<-ycf (xs:=c.args),g]
 have l:c.argTypes= #[t]:=by rw[<-ycf (xs:=c.argTypes),f]
 simp[execOp,ho,resolve,hc,j,l,invoke,builtin,h]
theorem ZDZ{x y:yp}{t u:yc}{c:Call}(ho:o.op=.call c)(hc:c.callee=.builtin .max)(g:c.args.toList=[x,y])(f:c.argTypes.toList=[t,u]){v:yh}
 (h:(Builtin.max_ #[t,u] o.type #[a.eval x,a.eval y]).run P J.w=.ok v J.w):(execOp a.eval o).run P J.w=.ok (.value v) J.w:=by
 have j:c.args= #[x,y]:=by rw[<-ycf (xs:=c.args),g]
 have l:c.argTypes= #[t,u]:=by rw[<-ycf (xs:=c.argTypes),f]
 simp[execOp,ho,resolve,hc,j,l,invoke,builtin,h]
theorem ZD0{x y:yp}{t u:yc}{c:Call}(ho:o.op=.call c)(hc:c.callee=.builtin .min)(g:c.args.toList=[x,y])(f:c.argTypes.toList=[t,u]){v:yh}
 (h:(Builtin.min_ #[t,u] o.type #[a.eval x,a.eval y]).run P J.w=.ok v J.w):(execOp a.eval o).run P J.w=.ok (.value v) J.w:=by
 have j:c.args= #[x,y]:=by rw[<-ycf (xs:=c.args),g]
 have l:c.argTypes= #[t,u]:=by rw[<-ycf (xs:=c.argTypes),f]
 simp[execOp,ho,resolve,hc,j,l,invoke,builtin,h]
theorem BI(ok:Ok J)(id:Nat):J.m[id]? ≠ab (ab J.w.heap.size):=λh=>by
 have:=ok.lt id _ h;omega
theorem ZsD(ok:Ok J)(A:aC J ts a){c:Call}{x y:yp}{t u e:yc}{i:TypeInfo}{ys:yL Pl}(ho:o.op=.call c)(R:c.callee=.builtin .append)(S:c.args.toList=[x,y])
 (f:c.argTypes.toList=[t,u]) (ht:P.underlying t=ab (.slice e)) {s:Nat} (E:aF P ts t x=.p (.sl (ab af) s [])) (hi:P.info? e=ab i) (hz:cu i=ae) (F:i.size≠0)
 (g:gU P (P.cellsOf e) u (aF P ts u y)=ab ys) (hb:ys.length*i.bytes<=Zs) (hm:ys.length<=maxLen):YD P o a J (.p (.sl ad (P.cellsOf e) ys)) J.H:=by
 have j:=Zo (P:=P) A t x;rw[E]at j;have l:=nD j;have G:P.cellsOf e=i.size:=by simp[Program.cellsOf,hi]
 rcases uJ (P:=P) (ty:=o.type) ok A ht hi hz F (oS (P:=P) A g) hb hm with⟨rfl,I⟩|⟨z,T,X,U,W,M,Q,Y,I⟩
 .refine Zk ok (Yj ho R S f (by rw[l];exact I)) ?_;exact Yq (λ_ E=>by cases E) (yl _) (by simp[maxLen]) (Yg _) (λ_=>rfl) (λh=>absurd rfl h)
 .obtain⟨to,m⟩:=nv ok (YR J.w (.cells (z.toArray++T) e) ad);refine ZJ (J':={ J with w:=J.w.drew.alloc (.cells (z.toArray++T) e)}) (Yj ho R S f (by rw[l];exact I)) to m ?_;rw[G];have Z:z.length=ys.length*i.size:=by rw[aL _ _ W,aN U]
  refine RZ (Yg _) m U (aD to.leaf.cells _ _ W) (b:=J.w.heap.size) (cells:=z) (heap_alloc_new J.w.drew _) (ok.new _ (yl _)) (BI ok) (by simp) M Q
theorem ZuR(ok:Ok J)(Q:aC J ts a){c:Call}{x y:yp}{t u e:yc}{i:TypeInfo}{ys:yL Pl}(ho:o.op=.call c)(zL:c.callee=.builtin .append)(yR:c.args.toList=[x,y])
 (j:c.argTypes.toList=[t,u]) (ht:P.underlying t=ab (.slice e)) {s:Nat} (R:aF P ts t x=.p (.sl (ab af) s [])) (hi:P.info? e=ab i) (hz:cu i=ae) (S:i.size≠0)
 (l:gU P (P.cellsOf e) u (aF P ts u y)=ab ys) (hb:ys.length*i.bytes<=Zs) (hm:ys.length<=maxLen):YD P o a J (.own J.H.length ad i.size ys) (J.H++[.log i.size e ys]):=by
 have z:=Zo (P:=P) Q t x;rw[R]at z;have A:=nD z;rcases uJ (P:=P) (ty:=o.type) ok Q ht hi hz S (oS (P:=P) Q l) hb hm with⟨rfl,T⟩|⟨E,U,W,X,Y,F,G,I,T⟩
 .obtain⟨to,g⟩:=Wv (J':={ J with m:=J.m++[ad],H:=J.H++[.log i.size e []]}) ok rfl rfl rfl rfl (World.grownBy.refl J.w ad) (.inl rfl) (λ_=>.inl ⟨rfl,rfl⟩);refine ZJ (J':={ J with m:=J.m++[ad],H:=J.H++[.log i.size e []]}) (Yj ho zL yR j (by rw[A];exact T)) to g ?_;rw[Zh rfl];simp only[yH];refine⟨λ_ R=>(by cases R),ad,0,rfl,yl _,by simp[maxLen],Yg _,λ_=>rfl,λh=>absurd rfl h,e,[],by simp,yl _,λ_=>.inl ⟨?_,rfl,rfl⟩⟩;rw[yaq (by rw[ok.len];exact yl _),ok.len];simp
 .let J':Sg:={ J with m:=J.m++[ab J.w.heap.size],H:=J.H++[.log i.size e ys],w:=J.w.drew.alloc (.cells (E.toArray++U) e)};have zW:E.length=ys.length*i.size:=by rw[aL _ _ Y,aN X]
  have Z:J'.w.heap[J.w.heap.size]? =ab (.cells (E.toArray++U) e (0,0)):=heap_alloc_new J.w.drew _
  have f:J'.m[J.H.length]? =ab (ab J.w.heap.size):=by
   show(J.m++[ab J.w.heap.size])[J.H.length]? =_;rw[yaq (by rw[ok.len];exact yl _),ok.len];simp
  obtain⟨to,g⟩:=Wv (J':=J') ok rfl rfl rfl rfl (YR J.w (.cells (E.toArray++U) e) ad) (.inr ⟨_,rfl,yl _,by simp[J']⟩)
   (λM=>.inr ⟨J.w.heap.size,_,grownCap J.w ys.length 0 e,rfl,Z,I,F,G,X,by
     rw[<-zW];simpa using aD M.cells _ _ Y⟩)
  refine ZJ (J':=J') (Yj ho zL yR j (by rw[A];exact T)) to g ?_;have hemp:(!ys.isEmpty)=ae:=by cases ys <;> first|exact absurd rfl W|rfl
  rw[Zh rfl];simp only[yH]
  refine⟨X,_,_,rfl,F,G,Yg _,λh=>(by cases h),λ_=>⟨J.w.heap.size,0,E,rfl,aD to.leaf.cells _ _ Y,nC Z (λo ho=>⟨.inr (ok.new _ (yl _)),λid e' h1 h2=> ?_⟩) (by simp)⟩,
   e,ys,by simp[J'],yl _,λ_=>.inr ⟨_,_,f,rfl,Z,I⟩⟩
  have:id=J.H.length:=g.inj id J.H.length _ h1 f;subst this;have h3:J'.H[J.H.length]? =ab (.log i.size e ys):=by simp[J']
  rw[h3]at h2;cases h2;show o < ys.length*i.size;omega
theorem ZuS(ok:Ok J)(yM:aC J ts a){c:Call}{x y:yp}{t u e:yc}{i:TypeInfo}{xs ys:yL Pl}{id s:Nat}{nn:yO Bool}(ho:o.op=.call c)(zL:c.callee=.builtin .append)
 (yR:c.args.toList=[x,y]) (X:c.argTypes.toList=[t,u]) (ht:P.underlying t=ab (.slice e)) (hx:aF P ts t x=.own id nn s xs) (hi:P.info? e=ab i) (hz:cu i=ae) (hs:i.size=s) (hne:s≠0)
 (hsrc:lY P J s u (a.eval y) ys) (hH:J.H[id]? =ab (.log s e xs)) (hb:(xs.length+ys.length)*i.bytes<=Zs) (hm:xs.length+ys.length<=maxLen):
 YD P o a J (.own id ad s (xs++ys)) (J.H.set id (.log s e (xs++ys))):=by
 subst hs;have hxv:=Zo (P:=P) yM t x;rw[hx]at hxv;obtain⟨h1,A,cp,hv,h2,h3,h4,h5,h6,e0,ys0,h7,h8,h9⟩:=QA hxv;rw[hH]at h7;cases h7;have hsrc2:=hsrc;obtain⟨Y,hS,hr,zU⟩:=hsrc2;obtain⟨z,hzz,hzs⟩:=lf hz;have hH':=hH;have hidlt:id < J.m.length:=by rw[ok.len];exact(yu.1 hH).1
 have F:J.m[id]? =ab J.m[id]:=yab hidlt;have hent:=ok.dD id _ _ hH F
 have R:aW i.size (xs++ys):=by
  by_cases hy:ys=[]
  .grind
  .exact XW h1 (zU hy)
 have hnl:Y.length=ys.length*i.size:=hS.cells;have hone:∀v,v∈Y->v.oneCell'=ae:=ce _ _ hr;have zW:(xs++ys).length=xs.length+ys.length:=ym;rcases h9 rfl with⟨k1,rfl,rfl⟩|⟨b,g,k1,rfl,k3,k4⟩
 . 
  have hxs:xs=[]:=by
   all_goals grind
  subst hxs;have hmn:J.m[id]=ad:=by rw[F]at k1;exact ybl k1
  skip
  skip
  rcases uJ (P:=P) (ty:=o.type) (u:=u) (y:=y) (ys:=ys) ok yM ht hi hz hne (by simpa[Program.cellsOf,hi] using hsrc) (by simpa using hb) (by simpa using hm) with⟨rfl,zB⟩|⟨G,yK,hys,W,hr2,hge,hcm,hcs,zB⟩
  .obtain⟨to,Q⟩:=YF (J':={ J with m:=J.m.set id ad,H:=J.H.set id (.log i.size e ([]++[]))}) (mi:=ad) (mi':=ad) ok hH (by rw[F,hmn]) rfl rfl rfl rfl rfl rfl rfl (yl _)
    (λ_ _ _=>rfl) (λb o v h=>by cases h) (λo _ h=>h) (.inl rfl) (λ⟨d,st,h⟩=>by cases h) (λ⟨d,st,h⟩=>by cases h) (λs e' xs h=>⟨[],by cases h;rfl,by cases h;exact yl _,λ_=>⟨rfl,λ_ _=>rfl⟩⟩) (λ_=>.inl ⟨rfl,rfl⟩)
   refine ZJ (J':={ J with m:=J.m.set id ad,H:=J.H.set id (.log i.size e ([]++[]))}) (Yj ho zL yR X (by rw[hv];exact zB)) to Q ?_;rw[Zh rfl];simp only[yH];exact⟨λ_ hx=>(by cases hx),ad,0,rfl,yl _,by simp[maxLen],Yg _,λ_=>rfl,λh=>absurd rfl h,e,[],aj hH,yl _,λ_=>.inl ⟨aj F,rfl,rfl⟩⟩
  .let J':Sg:={ J with m:=J.m.set id (ab J.w.heap.size),H:=J.H.set id (.log i.size e ([]++ys)),w:=J.w.drew.alloc (.cells (G.toArray++yK) e)};have hl2:G.length=ys.length*i.size:=by rw[aL _ _ hr2,aN W]
   have Z:J'.w.heap[J.w.heap.size]? =ab (.cells (G.toArray++yK) e (0,0)):=heap_alloc_new J.w.drew _;have hg:=YR J.w (.cells (G.toArray++yK) e) ad;have S:∀b,b < J.w.heap.size->J'.w.heap[b]? =J.w.heap[b]? :=λb hb=>hg.block b hb (by simp);have l:J'.m[id]? =ab (ab J.w.heap.size):=aj F;have E:J'.H[id]? =ab (.log i.size e ([]++ys)):=aj hH
   obtain⟨to,Q⟩:=YF (J':=J') (mi:=ad) (mi':=ab J.w.heap.size) ok hH (by rw[F,hmn]) rfl rfl rfl rfl rfl rfl rfl hg.size
    (λb hb _=>S b hb) (λb o v h=>by cases h) (λo h _=>by cases h) (.inr ⟨_,rfl,yl _,by simp[J']⟩) (λ⟨d,st,h⟩=>by cases h) (λ⟨d,st,h⟩=>by cases h)
    (λs' e' xs' h=>⟨ys,by cases h;rfl,by cases h;exact Nat.zero_le _,λhh=>by
      cases h;exact absurd (ybi (by simpa using hh)) hys⟩)
    (λI=>.inr ⟨J.w.heap.size,_,grownCap J.w ys.length 0 e,rfl,Z,hcs,hge,hcm,W,by
      show ar J'.w J'.be ([]++ys) _;rw[List.nil_append, <-hl2];simpa using aD I.cells _ _ hr2⟩)
   refine ZJ (J':=J') (Yj ho zL yR X (by rw[hv];exact zB)) to Q ?_;have hemp:(!ys.isEmpty)=ae:=by cases ys <;> first|exact absurd rfl hys|rfl
   rw[Zh rfl];simp only[yH]
   refine⟨W,_,_,rfl,hge,hcm,Yg _,λh=>(by cases h),λ_=>⟨J.w.heap.size,0,G,rfl,aD to.leaf.cells _ _ hr2,nC Z (λo ho=>⟨.inr (ok.new _ (yl _)),λj e' g1 g2=> ?_⟩) (by simp)⟩,
    e,_,E,yl _,λ_=>.inr ⟨_,_,l,rfl,Z,hcs⟩⟩
   have:j=id:=Q.inj j id _ g1 l;subst this;rw[E]at g2;cases g2;show o < ([]++ys).length*i.size;grind
 .have hmb:J.m[id]=ab b:=by rw[F]at k1;exact ybl k1
  rcases hent with⟨h,_⟩|⟨b',cur',cap,h,g3,g4,g5,g6,g7,g8⟩
  .grind
  .rw[hmb]at h;cases h;rw[k3]at g3;cases g3
   have hcap:cp=cap:=by
    have:cp*i.size=cap*i.size:=by rw[<-k4, <-g4]
    exact Nat.eq_of_mul_eq_mul_right (Nat.pos_of_ne_zero hne) this
   subst hcap;have hus:(g.toList.take (xs.length*i.size)).length=xs.length*i.size:=by rw[aL _ _ g8,aN h1]
   skip
   skip
   by_cases T:xs.length+ys.length<=cp
   . 
    have zB:=BG (P:=P) (ty:=o.type) ht hi hS hone k3 T g4;let f:Array yh:=(g.toList.take (xs.length*i.size)++Y++g.toList.drop (xs.length*i.size+Y.length)).toArray;let J':Sg:={ J with m:=J.m.set id (ab b),H:=J.H.set id (.log i.size e (xs++ys)),w:=J.w.setRow b f};have hfit:xs.length*i.size+Y.length<=g.size:=by rw[hnl,g4, <-ybb];exact ycb _ T
    have U:f.size=cp*i.size:=by
     grind
    have Z:J'.w.heap[b]? =ab (.cells f e (0,0)):=setRow_heap J.w b g _ e _ k3;have hoth:∀j,b≠j->J'.w.heap[j]? =J.w.heap[j]? :=λj hj=>setRow_other J.w b j _ (Ne.symm hj);have l:J'.m[id]? =ab (ab b):=aj F;have E:J'.H[id]? =ab (.log i.size e (xs++ys)):=aj hH
    have hpre:∀o,o < xs.length*i.size->f[o]? =g[o]? :=by
     grind
    have hcl:(g.toList.take (xs.length*i.size)++Y).length=(xs++ys).length*i.size:=by
     grind
    have htk:f.toList.take ((xs++ys).length*i.size)=g.toList.take (xs.length*i.size)++Y:=by
     grind
    have hbl:ys.length=0->f=g:=by
     intro h0;have:Y=[]:=ybi (by rw[hnl,h0];simp);grind
    obtain⟨to,Q⟩:=YF (J':=J') (mi:=ab b) (mi':=ab b) ok hH (by rw[F,hmb]) rfl rfl rfl rfl rfl rfl rfl (by simp[J'])
     (λj hj hne=>hoth j (λhh=>hne (by rw[hh]))) (λb' o v hb' hu M=>by
       cases hb';rw[cell_of_row J.w b o g e (0,0) k3]at M;show(J.w.setRow b f).cell? ⟨b,o,ad⟩=ab v;rw[cell_of_row _ b o f e (0,0) Z,hpre o hu];exact M)
     (λo _ hu=>by
       have hu':o < xs.length*i.size:=hu;show o < (xs++ys).length*i.size;rw[zW,ybb];omega) (.inl rfl) (λ⟨d,st,h⟩=>by cases h) (λ⟨d,st,h⟩=>by cases h)
     (λs' e' xs' h=>⟨xs++ys,by cases h;rfl,by cases h;simp,λhh=>by
       cases h;refine⟨rfl,λj _=> ?_⟩;have h0:ys.length=0:=by rw[zW]at hh;omega
       by_cases hj:b=j
       .subst hj;rw[Z,k3,hbl h0]
       .exact hoth j hj⟩)
     (λI=>.inr ⟨b,f,cp,rfl,Z,U,by rw[zW];exact T,h3,R,by
       rw[htk];exact Z0 (aD I.cells _ _ g8) (aD I.cells _ _ hr)⟩)
    refine ZJ (J':=J') (Yj ho zL yR X (by rw[hv];exact zB)) to Q ?_;rw[Zh rfl];simp only[yH,Bool.true_or]
    refine⟨R,ab ⟨b,0,ad⟩,cp,by rw[zW],by rw[zW];exact T,h3,Yg _,λh=>(by cases h),λ_=>⟨b,0,g.toList.take (xs.length*i.size)++Y,rfl,
     Z0 (aD to.leaf.cells _ _ g8) (aD to.leaf.cells _ _ hr),nC Z (λo ho=> ?_) ?_⟩,e,_,E,yl _,λ_=>.inr ⟨b,f,l,rfl,Z,U⟩⟩
    .refine⟨.inr (ok.own id b k1),λj e' g1 g2=> ?_⟩;have:j=id:=Q.inj j id _ g1 l;subst this;rw[E]at g2;cases g2;show o < (xs++ys).length*i.size;grind
    grind
   . 
    have hgr:cp < xs.length+ys.length:=by omega
    have hold:(Builtin.firstCells i.size xs.length (.slice (ab ⟨b,0,ad⟩) xs.length cp)).run P J.w.drew=.ok (g.toList.take (xs.length*i.size)).toArray J.w.drew:=
     run_firstCells_some J.w.drew i.size _ ⟨b,0,ad⟩ _ cp _ hus (λj v hj=>by
      rw[Addr.bH,yar];show J.w.cell? ⟨b,j,ad⟩=ab v
      have hj2:j < xs.length*i.size:=by
       grind
      rw[cell_of_row J.w b j g e (0,0) k3];rw[ycd,yW hj2]at hj;simpa using hj)
    have zB:=BH (P:=P) (ty:=o.type) ht hi hzz hS hold hgr hm hb;have hge:=grownCap_ge J.w (xs.length+ys.length) cp e;have hcm:=grownCap_le_maxLen J.w (xs.length+ys.length) cp e hm;let q:Nat:=grownCap J.w (xs.length+ys.length) cp e;let yK:Array yh:=Builtin.zeroCells z.cells (q - (xs.length+ys.length));let f:Array yh:=(g.toList.take (xs.length*i.size)).toArray++Y.toArray++yK;let J':Sg:={ J with m:=J.m.set id (ab J.w.heap.size),H:=J.H.set id (.log i.size e (xs++ys)),w:=J.w.drew.alloc (.cells f e)}
    have hcl:(g.toList.take (xs.length*i.size)++Y).length=(xs++ys).length*i.size:=by
     grind
    have U:f.size=q*i.size:=by
     simp only[f,yK,Array.size_append,List.size_toArray,size_zeroCells,hzs,hus,hnl, <-ybb];congr 1;omega
    have htk:f.toList.take ((xs++ys).length*i.size)=g.toList.take (xs.length*i.size)++Y:=by
     grind
    have Z:J'.w.heap[J.w.heap.size]? =ab (.cells f e (0,0)):=heap_alloc_new J.w.drew _;have hg:=YR J.w (.cells f e) ad;have S:∀b,b < J.w.heap.size->J'.w.heap[b]? =J.w.heap[b]? :=λb hb=>hg.block b hb (by simp);have l:J'.m[id]? =ab (ab J.w.heap.size):=aj F;have E:J'.H[id]? =ab (.log i.size e (xs++ys)):=aj hH
    obtain⟨to,Q⟩:=YF (J':=J') (mi:=ab b) (mi':=ab J.w.heap.size) ok hH (by rw[F,hmb]) rfl rfl rfl rfl rfl rfl rfl hg.size
     (λb hb _=>S b hb) (λb' o v hb' _ M=>by
       rw[World.cell?_of_block (w:=J.w) (S b' (X6 M))];exact M)
     (λo h _=>by
       have:=ok.lt id b k1;cases h;omega) (.inr ⟨_,rfl,yl _,by simp[J']⟩) (λ⟨d,st,h⟩=>by cases h) (λ⟨d,st,h⟩=>by cases h)
     (λs' e' xs' h=>⟨xs++ys,by cases h;rfl,by cases h;simp,λhh=>by
       cases h;rw[zW]at hh;omega⟩)
     (λI=>.inr ⟨J.w.heap.size,f,q,rfl,Z,U,by rw[zW];exact hge,hcm,R,by
       rw[htk];exact Z0 (aD I.cells _ _ g8) (aD I.cells _ _ hr)⟩)
    refine ZJ (J':=J') (Yj ho zL yR X (by rw[hv];exact zB)) to Q ?_;rw[Zh rfl];simp only[yH,Bool.true_or]
    refine⟨R,ab ⟨J.w.heap.size,0,ad⟩,q,by rw[zW],by rw[zW];exact hge,hcm,Yg _,λh=>(by cases h),λ_=>⟨J.w.heap.size,0,g.toList.take (xs.length*i.size)++Y,rfl,
     Z0 (aD to.leaf.cells _ _ g8) (aD to.leaf.cells _ _ hr),nC Z (λo ho=> ?_) ?_⟩,e,_,E,yl _,λ_=>.inr ⟨_,f,l,rfl,Z,U⟩⟩
    .refine⟨.inr (ok.new _ (yl _)),λj e' g1 g2=> ?_⟩;have:j=id:=Q.inj j id _ g1 l;subst this;rw[E]at g2;cases g2;show o < (xs++ys).length*i.size;grind
    grind
theorem qz{t:yc}{len:Nat}{parts:Array (Nat×yp)}(ho:o.op=.buildSlice t len parts){v:yh}{w':yr}
 (h:(Instr.buildSlice t len (parts.map λq=>(q.1,a.eval q.2))).run P J.w=.ok v w'):(execOp a.eval o).run P J.w=.ok (.value v) w':=by
 simp[execOp,ho,h]
theorem qA(l:aC J ts a){t e:yc}{i:TypeInfo}{len:Nat}{parts:Array (Nat×yp)}{xs:yL Pl}(hu:P.underlying t=ab (.slice e))(hi:P.info? e=ab i)(hz:cu i=ae)
 (hsz:len*i.size<=16777216) (hl:XB P ts e (P.cellsOf e) len parts.toList=ab xs):
 ∃cells:Array yh,(Instr.buildSlice t len (parts.map λq=>(q.1,a.eval q.2))).run P J.w=.ok (.slice (ab ⟨J.w.heap.size,0,ad⟩) len len) (J.w.alloc (.cells cells e))/\
  ar J.w J.be xs cells.toList/\xs.length=len/\aW i.size xs/\cells.size=len*i.size:=by
 have f:P.cellsOf e=i.size:=by simp[Program.cellsOf,hi]
 rw[f]at hl
 obtain⟨cells,m,g,h,j⟩:=Zqi (P:=P) (t:=t) (parts:=parts.map λq=>(q.1,a.eval q.2)) (Q:=λcells=>ar J.w J.be xs cells.toList/\xs.length=len/\aW i.size xs) J.w hu hi hz hsz (λZ y=>by
  obtain⟨cells,z,A⟩:=ZCi (P:=P) l hl Z y;exact⟨cells,by rw[Array.toList_map];exact z,A⟩)
 exact⟨cells,m,g,h,j,by rw[<-yax,aL _ _ g,aN j,h]⟩
theorem SA(ok:Ok J)(l:aC J ts a){t e:yc}{i:TypeInfo}{len:Nat}{parts:Array (Nat×yp)}{xs:yL Pl}(ho:o.op=.buildSlice t len parts)(hu:P.underlying t=ab (.slice e))
 (hi:P.info? e=ab i) (hz:cu i=ae) (g:i.size≠0) (hsz:len*i.size<=16777216) (hl:XB P ts e (P.cellsOf e) len parts.toList=ab xs):YD P o a J (.p (.sl (ab ae) i.size xs)) J.H:=by
 obtain⟨cells,m,y,j,z,A⟩:=qA (P:=P) l hu hi hz hsz hl;obtain⟨to,f⟩:=nv ok (World.grownBy_alloc J.w (.cells cells e) ad)
 have h:len<=maxLen:=by
  have:=Nat.le_mul_of_pos_right len (Nat.pos_of_ne_zero g);simp only[maxLen];omega
 refine ZJ (J':={ J with w:=J.w.alloc (.cells cells e)}) (qz ho m) to f ?_;rw[<-j];exact RZ (Qy rfl) f z (aD to.leaf.cells _ _ y) (b:=J.w.heap.size) (heap_alloc_new J.w _) (ok.new _ (yl _)) (BI ok) (ycc (yl _)) (yl _) (by rw[j];exact h)
theorem ZCj(ok:Ok J)(Q:aC J ts a){t e:yc}{i:TypeInfo}{len:Nat}{parts:Array (Nat×yp)}{xs:yL Pl}(ho:o.op=.buildSlice t len parts)(hu:P.underlying t=ab (.slice e))
 (hi:P.info? e=ab i) (hz:cu i=ae) (A:i.size≠0) (hsz:len*i.size<=16777216) (hl:XB P ts e (P.cellsOf e) len parts.toList=ab xs):
 YD P o a J (.own J.H.length (ab ae) i.size xs) (J.H++[.log i.size e xs]):=by
 obtain⟨cells,R,G,z,I,g⟩:=qA (P:=P) Q hu hi hz hsz hl
 have j:len<=maxLen:=by
  have:=Nat.le_mul_of_pos_right len (Nat.pos_of_ne_zero A);simp only[maxLen];omega
 let J':Sg:={ J with m:=J.m++[ab J.w.heap.size],H:=J.H++[.log i.size e xs],w:=J.w.alloc (.cells cells e)};have E:J'.w.heap[J.w.heap.size]? =ab (.cells cells e (0,0)):=heap_alloc_new J.w _
 have f:J'.m[J.H.length]? =ab (ab J.w.heap.size):=by
  show(J.m++[ab J.w.heap.size])[J.H.length]? =_;rw[yaq (by rw[ok.len];exact yl _),ok.len];simp
 have F:cells.toList.take (xs.length*i.size)=cells.toList:=ycc (by rw[z, <-g];simp)
 obtain⟨to,l⟩:=Wv (J':=J') ok rfl rfl rfl rfl (World.grownBy_alloc J.w (.cells cells e) ad) (.inr ⟨_,rfl,yl _,by simp[J']⟩)
  (λy=>.inr ⟨J.w.heap.size,cells,len,rfl,E,g,by rw[z];exact yl _,j,I,by rw[F];exact aD y.cells _ _ G⟩)
 refine ZJ (J':=J') (qz ho R) to l ?_;rw[Zh rfl];simp only[yH]
 refine⟨I,ab ⟨J.w.heap.size,0,ad⟩,len,by rw[z],by rw[z];exact yl _,j,Qy rfl,λh=>(by cases h),λ_=>⟨J.w.heap.size,0,cells.toList,rfl,aD to.leaf.cells _ _ G,nC E (λS T=>⟨.inr (ok.new _ (yl _)),λid X U M=> ?_⟩) (ycc (yl _))⟩,
  e,xs,by simp[J'],yl _,λ_=>.inr ⟨_,cells,f,rfl,E,g⟩⟩
 have:id=J.H.length:=l.inj id J.H.length _ U f;subst this;have W:J'.H[J.H.length]? =ab (.log i.size e xs):=by simp[J']
 rw[W]at M;cases M;show S < xs.length*i.size;grind
theorem SB(ok:Ok J){t:yc}{dd:Dv}{v:yh}{st:Bool}(g:dd.bF=ae)(z:yJ J dd v)(A:(execOp a.eval o).run P J.w=.ok (.value (.pointer (ab ⟨J.w.heap.size,0,ad⟩))) (J.w.alloc (.cells v.cells t))):
 YD P o a J (.ak J.H.length 0 []) (J.H++[.var dd st]):=by
 have f:=W6 g z;let J':Sg:={ J with m:=J.m++[ab J.w.heap.size],H:=J.H++[.var dd st],w:=J.w.alloc (.cells v.cells t)};have E:J'.w.heap[J.w.heap.size]? =ab (.cells v.cells t (0,0)):=heap_alloc_new J.w _;have h:=Xu _ _ f
 have l:J'.m[J.H.length]? =ab (ab J.w.heap.size):=by
  show(J.m++[ab J.w.heap.size])[J.H.length]? =_;rw[yaq (by rw[ok.len];exact yl _),ok.len];simp
 obtain⟨to,y⟩:=Wv (J':=J') ok rfl rfl rfl rfl (World.grownBy_alloc J.w (.cells v.cells t) ad) (.inr ⟨_,rfl,yl _,by simp[J']⟩)
  (λj=>⟨J.w.heap.size,v.cells,t,rfl,E,by rw[<-h,ycc (yl _)];exact Z9 j dd _ f,by rw[<-h];simp⟩)
 refine ZJ (J':=J') A to y ?_;rw[Zh rfl];simp only[yH];grind
theorem ZJA(ok:Ok J){t:yc}{dd:Dv}{v:yh}{st:Bool}{id:Nat}(hid:J.H[id]? =ab .gone)(g:dd.bF=ae)(Q:yJ J dd v)(R:(execOp a.eval o).run P J.w=.ok (.value (.pointer (ab ⟨J.w.heap.size,0,ad⟩))) (J.w.alloc (.cells v.cells t))):
 YD P o a J (.ak id 0 []) (J.H.set id (.var dd st)):=by
 have f:=W6 g Q;have F:id < J.m.length:=by rw[ok.len];exact(yu.1 hid).1
 have z:J.m[id]? =ab J.m[id]:=yab F;let J':Sg:={ J with m:=J.m.set id (ab J.w.heap.size),H:=J.H.set id (.var dd st),w:=J.w.alloc (.cells v.cells t)};have S:J'.w.heap[J.w.heap.size]? =ab (.cells v.cells t (0,0)):=heap_alloc_new J.w _;have G:=World.grownBy_alloc J.w (.cells v.cells t) ad;have l:=Xu _ _ f;have I:J'.m[id]? =ab (ab J.w.heap.size):=aj z;have A:J'.H[id]? =ab (.var dd st):=aj hid
 obtain⟨to,M⟩:=YF (J':=J') (mi:=J.m[id]) (mi':=ab J.w.heap.size) ok hid z rfl rfl rfl rfl rfl rfl rfl G.size
  (λj E _=>G.block j E (by simp)) (λb o v T _ U=>by
    have E:=ok.lt id b (by rw[z,T]);rw[World.cell?_of_block (w:=J.w) (G.block b E (by simp))];exact U) (λo W X=>by
    have E:=ok.lt id _ (by rw[z, <-W]);omega) (.inr ⟨_,rfl,yl _,by simp[J']⟩) (λ⟨d,st,h⟩=>by cases h) (λ⟨d,st,h⟩=>by cases h) (λs e Y h=>by cases h)
  (λy=>⟨J.w.heap.size,v.cells,t,rfl,S,by rw[<-l,ycc (yl _)];exact Z9 y dd _ f,by rw[<-l];simp⟩)
  (λv s st e d h=>by cases h)
 refine ZJ (J':=J') R to M ?_;rw[Zh rfl];simp only[yH];grind
theorem BJ(ok:Ok J){t:yc}{i:TypeInfo}{id:Nat}(hid:J.H[id]? =ab .gone)(ho:o.op=.alloc t)(hi:P.info? t=ab i)(hz:i.zero.isSome=ae)(j:gb P t (bf P t)=ae)(g:(bf P t).bF=ae):
 YD P o a J (.ak id 0 []) (J.H.set id (.var (bf P t) ae)):=by
 cases f:i.zero with
 |none=>simp[f]at hz
 |some z=>
  have h:yJ J (bf P t) z:=by
   unfold bf;rw[hi];simp only[f];exact nq
  refine ZJA (v:=z) (t:=t) ok hid g h ?_;simp[execOp,ho,Instr.alloc,zeroValue,typeInfo,hi,f,newVar,newRow]
theorem ZHg(ok:Ok J){t:yc}{i:TypeInfo}(ho:o.op=.alloc t)(hi:P.info? t=ab i)(hz:i.zero.isSome=ae)(j:gb P t (bf P t)=ae)(g:(bf P t).bF=ae):
 YD P o a J (.ak J.H.length 0 []) (J.H++[.var (bf P t) ae]):=by
 cases f:i.zero with
 |none=>simp[f]at hz
 |some z=>
  have h:yJ J (bf P t) z:=by
   unfold bf;rw[hi];simp only[f];exact nq
  refine SB (v:=z) (t:=t) ok g h ?_;simp[execOp,ho,Instr.alloc,zeroValue,typeInfo,hi,f,newVar,newRow]
theorem ZLm(ok:Ok J){t:yc}{x:yp}{dd:Dv}(ho:o.op=.box t x)(f:dd.bF=ae)(g:yJ J dd (a.eval x)):YD P o a J (.ak J.H.length 0 []) (J.H++[.var dd ae]):=by
 refine SB (v:=a.eval x) (t:=t) ok f g ?_;simp[execOp,ho,Instr.box,newVar,newRow]
theorem oT{J:Sg}:∀(yQ:yL Nat)(dd:Dv)(hs hs':yL ao)(C:yL Prop)(off:Nat)(sub:Dv)(us:yL yh),Z6 dd yQ hs=ab (C,off,sub,hs')->aX C->yH J dd us->
 ∃x y z,us=x++(y++z)/\x.length=off/\yH J sub y
 |[],dd,hs,hs',C,off,sub,us,h,A,f=>by
  simp only[Z6,yn,yq]at h;obtain⟨rfl,rfl,rfl,rfl⟩:=h
  exact⟨[],us,[],by simp,rfl,f⟩
 |i::yQ,dd,hs,hs',C,off,sub,us,h,A,f=>by
  cases dd with
  |p q=>
   cases q with
   |agg X=>
    simp only[Z6]at h;split at h
    .rename_i x l;simp only[yv,yq]at h;obtain⟨⟨C1,g,j,m⟩,E,rfl,rfl,rfl,rfl⟩:=h;simp only[yH,aA]at f;obtain⟨F,G,I,rfl,M,Q,_⟩:=kV f l;obtain⟨R,S,T,rfl,U,W⟩:=oT yQ (.p x) _ _ _ _ _ G E A (by simpa[yH] using Q);exact⟨F++R,S,T++I,by simp,by rw[ym,M,U],W⟩
    .cases h
   |arr n s X=>
    simp only[Z6]at h;split at h
    .rename_i y m;simp only[yv,yq]at h;obtain⟨⟨C1,g,j,m⟩,E,rfl,rfl,rfl,rfl⟩:=h;obtain⟨l,A⟩:=A;simp only[yH,aA]at f;obtain⟨hl,Y,f⟩:=f;obtain⟨F,G,I,rfl,M,Q,_⟩:=kV f l;obtain⟨R,S,T,rfl,U,W⟩:=oT yQ (.p y) _ _ _ _ _ G E A (by simpa[yH] using Q);have Z:i < X.length:=(yu.1 l).1;exact⟨F++R,S,T++I,by simp,by rw[ym,M,U,aN (Vd Y i),yaa,yay (Nat.le_of_lt Z)],W⟩
    .cases h
   |_=>simp[Z6]at h
  |agg X=>
   simp only[Z6]at h;split at h
   .rename_i x l;simp only[yv,yq]at h;obtain⟨⟨C1,g,j,m⟩,E,rfl,rfl,rfl,rfl⟩:=h;simp only[yH]at f;obtain⟨F,G,I,rfl,M,Q,_⟩:=lW f l;obtain⟨R,S,T,rfl,U,W⟩:=oT yQ x _ _ _ _ _ G E A Q;exact⟨F++R,S,T++I,by simp,by rw[ym,M,U],W⟩
   .cases h
  |arr n s X=>
   simp only[Z6]at h;split at h
   .rename_i x l;simp only[yv,yq]at h;obtain⟨⟨C1,g,j,m⟩,E,rfl,rfl,rfl,rfl⟩:=h;simp only[yH]at f;obtain⟨hl,Y,f⟩:=f;obtain⟨F,G,I,rfl,M,Q,_⟩:=lW f l;obtain⟨R,S,T,rfl,U,W⟩:=oT yQ x _ _ _ _ _ G E A Q;have Z:i < X.length:=(yu.1 l).1;exact⟨F++R,S,T++I,by simp,by rw[ym,M,U,cY (λy hy=>Y y (ybr hy)),yaa,yay (Nat.le_of_lt Z)],W⟩
   .cases h
  |_=>simp[Z6]at h
theorem uK(ok:Ok J){id off:Nat}{yQ:yL Nat}{dd sub:Dv}{st:Bool}{b:Nat}{C:yL Prop}{off':Nat}(hm:J.m[id]? =ab (ab b))(hH:J.H[id]? =ab (.var dd st))(A:Z6 dd yQ hs=ab (C,off',sub,hs'))(hc:aX C)(he:off'=off):
 ∃cs t x y z,J.w.heap[b]? =ab (.cells cs t (0,0))/\dd.size<=cs.size/\cs.toList.take dd.size=x++(y++z)/\x.length=off/\yH J sub y/\yH J dd (cs.toList.take dd.size)/\
  (∀(j:Nat)(u:yh),y[j]? =ab u->J.w.cell? ⟨b,off+j,ad⟩=ab u):=by
 obtain⟨Q,cs,t,E,f,g,F⟩:=ok.dD id _ _ hH hm;cases E;obtain⟨x,y,z,h,l,G⟩:=oT yQ dd hs hs' C off' sub _ A hc g;subst he;refine⟨cs,t,x,y,z,f,F,h,l,G,g,λj u I=> ?_⟩;rw[cell_of_row J.w b _ cs t (0,0) f, <-yby, <-l];have R:j < y.length:=(yu.1 I).1
 have M:x.length+j < dd.size:=by
  have:=congrArg List.length h;grind
 have S:(cs.toList.take dd.size)[x.length+j]? =ab u:=by
  grind
 grind
theorem SC{d:Dv}{s N:Nat}(h:aR d s=ab N):d.size=N*s:=by
 unfold aR at h;split at h
 .split at h
  .rename_i e;cases h;rw[e];rfl
  .cases h
 .split at h
  .rename_i e;cases h;rw[e];rfl
  .cases h
 .cases h
theorem ZCk(ok:Ok J){id off v s N:Nat}{yQ:yL Nat}{dd sub:Dv}{st:Bool}{e:yc}{b:Nat}{C:yL Prop}{off':Nat}(hm:J.m[id]? =ab (ab b))(hH:J.H[id]? =ab (.row v s st e dd))(E:aR dd s=ab N)
 (R:Z6 dd yQ hs=ab (C,off',sub,hs')) (hc:aX C) (he:off'=off):
 ∃cs cap x y z,J.w.heap[b]? =ab (.cells cs e (0,0))/\cs.size=cap*s/\N<=cap/\cap<=maxLen/\dd.size<=cs.size/\cs.toList.take dd.size=x++(y++z)/\x.length=off/\yH J sub y/\yH J dd (cs.toList.take dd.size)/\
  (∀(j:Nat)(u:yh),y[j]? =ab u->J.w.cell? ⟨b,off+j,ad⟩=ab u):=by
 obtain⟨N',f,h⟩:=ok.dD id _ _ hH hm;rw[E]at f;cases f;rcases h with⟨h,_⟩|⟨Y,cs,cap,S,F,G,I,T,l⟩
 .cases h
 cases S;have g:=SC E;rw[<-g]at l;have A:dd.size<=cs.size:=by rw[g,G];exact ycb _ I
 obtain⟨x,y,z,M,Q,U⟩:=oT yQ dd hs hs' C off' sub _ R hc l;subst he;refine⟨cs,cap,x,y,z,F,G,I,T,A,M,Q,U,l,λj u W=> ?_⟩;rw[cell_of_row J.w b _ cs e (0,0) F, <-yby, <-Q];have Z:j < y.length:=(yu.1 W).1
 have X:x.length+j < dd.size:=by
  have:=congrArg List.length M;grind
 have h8:(cs.toList.take dd.size)[x.length+j]? =ab u:=by
  grind
 grind
theorem ZHh(ok:Ok J){id v s b:Nat}{st:Bool}{e:yc}{dd:Dv}(hm:J.m[id]? =ab (ab b))(hH:J.H[id]? =ab (.row v s st e dd)):∃N,aR dd s=ab N:=by
 obtain⟨N',f,_⟩:=ok.dD id _ _ hH hm;grind
theorem SD{id v off f s:Nat}{yQ:yL Nat}{st:Bool}{e:yc}{dd:Dv}{u:yh}(g:yJ J (.aZ id v off yQ) u)(hH:J.H[id]? =ab (.row f s st e dd))(hv:f=v):∃b,u=.pointer (ab ⟨b,off,ad⟩)/\J.m[id]? =ab (ab b):=by
 obtain⟨b,j,l,y,z,h,A,d2,E,F,G⟩:=uF g;grind
theorem ZJB(ok:Ok J)(X:aC J ts a){t:yc}{x:yp}(ho:o.op=.load t x)(h:bG P o ts J.H hs=ab (C,d,hs'))(hc:aX C):YD P o a J d J.H:=by
 simp only[bG,ho]at h;have f:=Zo (P:=P) X 0 x;split at h
 .rename_i id off Y A;rw[A]at f;split at h
  .rename_i Z st m;split at h
   .rename_i C1 y sub E F;split at h
    .rename_i g;cases h;unfold gb at g;simp only[yi,yT]at g;obtain⟨⟨⟨G,I⟩,M⟩,Q⟩:=g;obtain⟨j,l⟩:=Zl.1 hc;obtain⟨b,z,W,f⟩:=lc f;obtain⟨cs,t',p1,p2,p3,_,_,_,_,R,_,S⟩:=uK ok z m F j l.1;obtain⟨v,T,U⟩:=uA (P:=P) R S G Q M I;exact Zk ok (by simp[execOp,ho,f,Instr.loadAt,Instr.sureAddr,T]) U
    .cases h
   .cases h
  .cases h
 .rename_i id v off Y A;rw[A]at f;split at h
  .rename_i v' s' st e Z m;split at h
   .rename_i C1 y sub E F;split at h
    .rename_i g;cases h;unfold gb at g;simp only[yi,yT]at g;obtain⟨⟨⟨⟨G,I⟩,M⟩,Q⟩,W⟩:=g;obtain⟨j,l⟩:=Zl.1 hc;obtain⟨b,f,z⟩:=SD f m W;obtain⟨N,hN⟩:=ZHh ok z m;obtain⟨cs,cap,p1,p2,p3,_,_,_,_,_,_,_,R,_,S⟩:=ZCk ok z m hN F j l.1;obtain⟨v,T,U⟩:=uA (P:=P) R S G Q M I;exact Zk ok (by simp[execOp,ho,f,Instr.loadAt,Instr.sureAddr,T]) U
    .cases h
   .cases h
  .cases h
 .cases h
end
end Go.Ev
end
