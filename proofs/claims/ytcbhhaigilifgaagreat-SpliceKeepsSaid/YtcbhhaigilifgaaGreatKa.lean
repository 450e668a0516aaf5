/- Parts of the proof, in one file. -/
import Derived.WalkKit
import Derived.Lib.Bytealg
import Derived.Maps.AppendAt
import Derived.Lib.AppendStr
import Derived.Laws.Externs
import Derived.KernelRfl
import Derived.Lib.SlBytesRow
import Derived.Lib.BufferRead
import Derived.Lib.ConvBytes
import Derived.Lib.BytesEntry
import Derived.ChangeKeysEq
import Derived.Laws.StructEq
import Derived.MapKept
import Derived.WideKeyRuns
import Derived.Scope
import Derived.Test.YtcbhhaigilifgaaGreatProg
import Derived.Lib.Walk
import Derived.Lib.SliceRun
import Derived.Lib.AppendZerosOnto
import Derived.Lib.Overlaps
import Derived.Laws.CopyRow
import Derived.Shelf.RegionOpenPlain
import Derived.Below
import Derived.ChangeSame
import Derived.ChangeCalls
import Derived.ChangeStays
import Derived.OpenShut
import Derived.ProofKit
import Derived.JoinedCond
import Derived.RangeFuncOwn
import Derived.RangeFuncLeaves
import Derived.RangeFuncRecord
import Derived.TacticsIn
import Derived.OwnWalkIn
import Derived.OrdersIn
import Derived.Shelf.Abstract
import Derived.Laws.NewBlocks
import Derived.Test.YtcbhhaigilifgaaGreatRows
open Option renaming some → ab, none → ad
open Bool renaming true → ae, false → af
open Decidable renaming decide → ag
abbrev yL.{u}(α:Type u):=List α
abbrev yO.{u}(α:Type u):=Option α
abbrev yU:=UInt64
abbrev yB:=UInt8
abbrev yV:=UInt32
theorem zP:True:=trivial
theorem yW.{u}{c:Prop}{h:Decidable c}(hc:c){α:Sort u}{t e:α}:(ite c t e)=t:=if_pos hc
theorem yX.{u}{c:Prop}{h:Decidable c}(hc:¬c){α:Sort u}{t e:α}:(ite c t e)=e:=if_neg hc
theorem yY{p:Prop}[f:Decidable p](h:p):decide p=ae:=decide_eq_true h
theorem yZ{p:Prop}[f:Decidable p](h:¬p):decide p=af:=decide_eq_false h
theorem yP{p:Prop}[Decidable p]:(decide p=ae)=p:=decide_eq_true_eq
theorem yN{p:Prop}[Decidable p]:decide p=ae↔p:=decide_eq_true_iff
theorem yT.{u}{α:Type u}[BEq α][LawfulBEq α]{a b:α}:(a==b)=ae↔a=b:=beq_iff_eq
theorem yE.{u}{α:Type u}[BEq α][LawfulBEq α]{a b:α}:(a != b)=ae↔a≠b:=bne_iff_ne
theorem yF{p:Prop}[f:Decidable p](h:decide p=ae):p:=of_decide_eq_true h
open Array renaming length_toList → yax, getElem?_toList → yby, toArray_toList → ycf
open BitVec renaming ofInt → yca
open Bool renaming and_eq_true → yi
open Go renaming TypeId → yc, Program → yg, Value → yh, Oper → yj, Operand → yp, World → yr, FuncId → yw
open List renaming length_append → yl, range → yo, getElem?_eq_some_iff → yu, replicate → yx, length_take → yaa, getElem?_eq_getElem → yab, append_assoc → yac, length_map → yad, length_cons → yaf, cons_append → yag, map_cons → yah, getElem?_cons_succ → yak, all_eq_true → yal, getElem?_cons_zero → yam, getElem?_map → yao, getElem?_append_right → yaq, mem_cons_self → yau, mem_cons_of_mem → yav, take_append_drop → ybb, mem_singleton → ybc, getElem?_append_left → ybe, eq_nil_of_length_eq_zero → ybj, ext_getElem? → ybq, mem_of_mem_take → ybs, length_set → ybu, mem_map → ybw, getElem?_set → ybx, take_of_length_le → ycc, getElem?_take → ycd, mem_append → ycm
open Nat renaming le_refl → ym, zero_add → yar, min_eq_left → yay, add_mul → yba, le_trans → ybt, mul_le_mul_right → ycb
open Option renaming bind_eq_some_iff → yf, map_eq_some_iff → yv
open Option.some renaming injEq → yn, inj → ybl
open Prod.mk renaming injEq → yq
set_option linter.unusedVariables false
set_option linter.unusedSimpArgs false
namespace Go.Ev
abbrev dt:yL yB:=[0,0,0,0,0,0,0,0,0,0,0,0,0,0,0,0,0,0,0,0,0,0,0,0,0,0,0,0,0,0,0,0]
theorem dj {c:Prop} [Decidable c] (h:¬c):¬decide c=ae:=by simpa using h
theorem aw:True:=trivial
end Go.Ev
section
namespace Go.Ev
inductive Pl where
 |int (k:IntKind) (n:Int)
 |bool (b:Bool)
 |str (s:ByteArray)
 |bX|fn0|eG|cC
 |gx (f:yw)
 |agg (xs:List Pl)
 |arr (n s:Nat) (xs:List Pl)
 |sl (nn:Option Bool) (s:Nat) (xs:List Pl)
 |iface (t:yc) (x:Pl)
 deriving Inhabited
mutual
def Pl.size:Pl->Nat
 |.agg f=>Pl.sizes f
 |.arr n s _=>n*s
 |_=>1
def Pl.sizes:yL Pl->Nat
 |[]=>0
 |x::r=>x.size+Pl.sizes r
end
def Pl.isAgg:Pl->Bool
 |.agg _=>ae
 |.arr _ _ _=>ae
 |_=>af
def aW(s:Nat)(xs:yL Pl):Prop:=∀x,x∈xs->x.size=s
def jb(nn:yO Bool)(A:yO Addr):Prop:=∀b,nn=ab b->A.isSome=b
theorem Ym(A:yO Addr):jb ad A:=λb h=>by cases h
theorem QT{A:yO Addr}(h:A.isSome=ae):jb (ab ae) A:=λb e=>by cases e;exact h
theorem RZ{A:yO Addr}(h:A=ad):jb (ab af) A:=λb e=>by cases e;rw[h];rfl
def Ww(w:yr)(S:Nat->Nat->Prop)(b o:Nat)(us:yL yh):Prop:=
 ∀j u,us[j]? =ab u->w.cell? ⟨b,o+j,ad⟩=ab u/\S b (o+j)
mutual
def aB(w:yr)(S:Nat->Nat->Prop):Pl->yL yh->Prop
 |.int k n,vs=>vs=[.int k n]
 |.bool b,vs=>vs=[.bool b]
 |.str s,vs=>vs=[.string s]
 |.bX,vs=>vs=[.pointer ad]
 |.fn0,vs=>vs=[.nilFunc]
 |.eG,vs=>vs=[.nilIface]
 |.cC,vs=>vs=[.map ad]
 |.gx f,vs=>vs=[.func (.func f) #[] #[]]
 |.agg g,vs=>ar w S g vs
 |.arr n s g,vs=>g.length=n/\aW s g/\ar w S g vs
 |.sl l s g,vs=>aW s g/\∃A c,vs=[.slice A g.length c]/\g.length<=c/\c<=maxLen/\jb l A/\(A=ad->c=0)/\
   (g≠[]->∃b o h,A=ab ⟨b,o,ad⟩/\ar w S g h/\Ww w S b o h)
 |.iface t x,vs=>∃v,vs=[.iface t v]/\(x.isAgg=ae->∃j:Array yh,v=.agg j/\aB w S x j.toList)/\(x.isAgg=af->aB w S x [v])
def ar(w:yr)(S:Nat->Nat->Prop):yL Pl->yL yh->Prop
 |[],vs=>vs=[]
 |x::h,vs=>∃g f,vs=g++f/\aB w S x g/\ar w S h f
end
mutual
def Pl.soft:Pl->Pl
 |.agg f=>.agg (Pl.cV f)
 |.arr n s f=>.arr n s (Pl.cV f)
 |.sl _ s f=>.sl ad s f
 |.iface t x=>.iface t (Pl.soft x)
 |x=>x
def Pl.cV:yL Pl->yL Pl
 |[]=>[]
 |x::r=>x.soft::Pl.cV r
end
inductive Dv where
 |p (x:Pl)
 |elem (x:Pl)
 |aj (id off:Nat) (yQ:List Nat)
 |own (id:Nat) (nn:Option Bool) (s:Nat) (xs:List Pl)
 |view (id off:Nat) (yQ:List Nat) (s lo n:Nat)
 |agg (xs:List Dv)
 |arr (n s:Nat) (xs:List Dv)
 |fn (f:yw) (cap:List Dv)
 |iface (t:yc) (x:Dv)
 |bp (xs:List Dv)
 |mp (id:Nat)
 |rv (id v s lo n:Nat)
 |aZ (id v off:Nat) (yQ:List Nat)
 |an
 deriving Inhabited
mutual
def Dv.size:Dv->Nat
 |.p x=>x.size
 |.agg f=>Dv.sizes f
 |.arr n s _=>n*s
 |_=>1
def Dv.sizes:yL Dv->Nat
 |[]=>0
 |x::r=>x.size+Dv.sizes r
end
def Dv.isAgg:Dv->Bool
 |.p x=>x.isAgg
 |.agg _=>ae
 |.arr _ _ _=>ae
 |_=>af
inductive aq where
 |var (d:Dv) (st:Bool)
 |log (s:Nat) (e:yc) (xs:List Pl)
 |map (t:yc) (bS:List (Pl×Pl))
 |row (v s:Nat) (st:Bool) (e:yc) (d:Dv)
 |gone
 deriving Inhabited
structure Sg where
 F:Nat->Nat->Prop
 B:Nat->Prop
 m:List (Option Nat)
 H:List aq
 w:yr
def aR:Dv->Nat->yO Nat
 |.p (.arr n f _),s=>if f=s then ab n else ad
 |.arr n f _,s=>if f=s then ab n else ad
 |_,_=>ad
def aq.bB:aq->Nat->Prop
 |.var _ st,_=>st=af
 |.log s _ f,o=>o < f.length*s
 |.map _ _,_=>False
 |.row _ s st _ d,o=>st=af/\∃N,aR d s=ab N/\o < N*s
 |.gone,_=>True
def Sg.bf(σ:Sg)(b o:Nat):Prop:=
 (σ.F b o\/σ.B b)/\∀(id:Nat)(e:aq),σ.m[id]? =ab (ab b)->σ.H[id]? =ab e->e.bB o
def dn(σ:Sg)(id s:Nat)(len:Nat)(A:yO Addr)(c:Nat):Prop:=
 ∃e g,σ.H[id]? =ab (.log s e g)/\len<=g.length/\(g.length=len->
  (σ.m[id]? =ab ad/\A=ad/\c=0)\/
  ∃b f,σ.m[id]? =ab (ab b)/\A=ab ⟨b,0,ad⟩/\σ.w.heap[b]? =ab (.cells f e (0,0))/\f.size=c*s)
def rowAt(σ:Sg)(id v s lo:Nat)(A:yO Addr)(c:Nat):Prop:=
 ∃g h st e d,σ.H[id]? =ab (.row g h st e d)/\v<=g/\(g=v->h=s/\
  ((σ.m[id]? =ab ad/\A=ad/\lo+c=0)\/∃b f,σ.m[id]? =ab (ab b)/\σ.w.heap[b]? =ab (.cells f e (0,0))/\f.size=(lo+c)*s/\(0 < c->A=ab ⟨b,lo*s,ad⟩)))
def rowIs(σ:Sg)(id v b o off:Nat):Prop:=∃f s st e d,σ.H[id]? =ab (.row f s st e d)/\v<=f/\(f=v->σ.m[id]? =ab (ab b)/\o=off)
def big:Nat:=4294967296
def fV(f:yw):yw:=if f < big then f else f - big
mutual
def yH(σ:Sg):Dv->yL yh->Prop
 |.p x,vs=>aB σ.w σ.bf x vs
 |.elem x,vs=>∃b o j,vs=[.pointer (ab ⟨b,o,ad⟩)]/\aB σ.w σ.bf x j/\Ww σ.w σ.bf b o j
 |.aj id off _,vs=>∃b,σ.m[id]? =ab (ab b)/\(∃d st,σ.H[id]? =ab (.var d st))/\vs=[.pointer (ab ⟨b,off,ad⟩)]
 |.own id z s g,vs=>aW s g/\∃A c,vs=[.slice A g.length c]/\g.length<=c/\c<=maxLen/\jb z A/\(A=ad->c=0)/\
   (g≠[]->∃b o j,A=ab ⟨b,o,ad⟩/\ar σ.w σ.bf g j/\Ww σ.w σ.bf b o j)/\dn σ id s g.length A c
 |.view id off _ s lo n,vs=>∃b c a,σ.m[id]? =ab (ab b)/\(∃d st,σ.H[id]? =ab (.var d st))/\vs=[.slice (ab a) n c]/\n<=c/\c<=maxLen/\
   (0 < n->a=⟨b,off+lo*s,ad⟩)
 |.agg g,vs=>aM σ g vs
 |.arr n s g,vs=>g.length=n/\(∀x,x∈g->x.size=s)/\aM σ g vs
 |.fn f l,vs=>∃y h,vs=[.func (.func (fV f)) y h]/\(if f < big then y else h)= #[]/\aH σ l (y++h).toList
 |.iface t x,vs=>∃v,vs=[.iface t v]/\(x.isAgg=ae->∃h:Array yh,v=.agg h/\yH σ x h.toList)/\(x.isAgg=af->yH σ x [v])
 |.bp g,vs=>∃h,vs=[.tuple h]/\aH σ g h.toList
 |.mp id,vs=>∃b,σ.m[id]? =ab (ab b)/\(∃t bS,σ.H[id]? =ab (.map t bS))/\vs=[.map (ab b)]
 |.rv id v s lo n,vs=>∃A c,vs=[.slice A n c]/\n<=c/\c<=maxLen/\(A=ad->c=0)/\(0 < n->∃b o,A=ab ⟨b,o,ad⟩)/\rowAt σ id v s lo A c
 |.aZ id v off _,vs=>∃b o,vs=[.pointer (ab ⟨b,o,ad⟩)]/\rowIs σ id v b o off
 |.an,vs=>vs.length=1
def aM(σ:Sg):yL Dv->yL yh->Prop
 |[],vs=>vs=[]
 |x::h,vs=>∃g f,vs=g++f/\yH σ x g/\aM σ h f
def aH(σ:Sg):yL Dv->yL yh->Prop
 |[],vs=>vs=[]
 |x::h,vs=>∃v f,vs=v::f/\((x.isAgg=ae->∃g:Array yh,v=.agg g/\yH σ x g.toList)/\(x.isAgg=af->yH σ x [v]))/\aH σ h f
end
def yJ(σ:Sg)(d:Dv)(v:yh):Prop:=
 (d.isAgg=ae->∃f:Array yh,v=.agg f/\yH σ d f.toList)/\(d.isAgg=af->yH σ d [v])
theorem Ww.mono{w w':yr}{S S':Nat->Nat->Prop}(h:∀(b o:Nat)(v:yh),w.cell? ⟨b,o,ad⟩=ab v->S b o->w'.cell? ⟨b,o,ad⟩=ab v/\S' b o)
 {b o:Nat} {us:yL yh} (hc:Ww w S b o us):Ww w' S' b o us:=
 λj u f=>let ⟨g,l⟩:=hc j u f;h _ _ _ g l
mutual
theorem lY{w w':yr}{S S':Nat->Nat->Prop}(h:∀(b o:Nat)(v:yh),w.cell? ⟨b,o,ad⟩=ab v->S b o->w'.cell? ⟨b,o,ad⟩=ab v/\S' b o):∀(x:Pl)(vs:yL yh),aB w S x vs->aB w' S' x vs
 |.int _ _,_,f=>by simpa[aB] using f
 |.bool _,_,f=>by simpa[aB] using f
 |.str _,_,f=>by simpa[aB] using f
 |.bX,_,f=>by simpa[aB] using f
 |.fn0,_,f=>by simpa[aB] using f
 |.eG,_,f=>by simpa[aB] using f
 |.cC,_,f=>by simpa[aB] using f
 |.gx _,_,f=>by simpa[aB] using f
 |.agg g,vs,f=>by
  simp only[aB]at f ⊢
  exact aE h g vs f
 |.arr n s g,vs,f=>by
  simp only[aB]at f ⊢
  exact⟨f.1,f.2.1,aE h g vs f.2.2⟩
 |.sl U s g,vs,f=>by
  simp only[aB]at f ⊢;obtain⟨j,A,c,l,m,I,J,M,Q⟩:=f;refine⟨j,A,c,l,m,I,J,M,λy=> ?_⟩;obtain⟨b,o,G,z,E,R⟩:=Q y
  exact⟨b,o,G,z,aE h g G E,R.mono h⟩
 |.iface t x,vs,f=>by
  simp only[aB]at f ⊢;obtain⟨v,j,l,m⟩:=f;refine⟨v,j,λF=> ?_,λF=>lY h x _ (m F)⟩;obtain⟨T,z,E⟩:=l F;exact⟨T,z,lY h x _ E⟩
theorem aE{w w':yr}{S S':Nat->Nat->Prop}(h:∀(b o:Nat)(v:yh),w.cell? ⟨b,o,ad⟩=ab v->S b o->w'.cell? ⟨b,o,ad⟩=ab v/\S' b o):∀(xs:yL Pl)(vs:yL yh),ar w S xs vs->ar w' S' xs vs
 |[],_,g=>by simpa[ar] using g
 |x::xs,vs,g=>by
  simp only[ar]at g ⊢;obtain⟨j,f,l,m,y⟩:=g;exact⟨j,f,l,lY h x j m,aE h xs f y⟩
end
structure ck(σ σ':Sg):Prop where
 cells:∀(b o:Nat)(v:yh),σ.w.cell? ⟨b,o,ad⟩=ab v->σ.bf b o->σ'.w.cell? ⟨b,o,ad⟩=ab v/\σ'.bf b o
 var:∀(id b:Nat),σ.m[id]? =ab (ab b)->(∃d st,σ.H[id]? =ab (.var d st))->σ'.m[id]? =ab (ab b)/\∃d st,σ'.H[id]? =ab (.var d st)
 front:∀(id s len:Nat)(A:Option Addr)(c:Nat),dn σ id s len A c->dn σ' id s len A c
 map:∀(id b:Nat),σ.m[id]? =ab (ab b)->(∃t bS,σ.H[id]? =ab (.map t bS))->σ'.m[id]? =ab (ab b)/\∃t bS,σ'.H[id]? =ab (.map t bS)
 row:∀(id v s:Nat)(st:Bool)(e:yc)(d:Dv),σ.H[id]? =ab (.row v s st e d)->∃v' st' d',σ'.H[id]? =ab (.row v' s st' e d')/\v<=v'/\(v'=v->σ'.m[id]? =σ.m[id]? /\
  ∀b cur,σ.m[id]? =ab (ab b)->σ.w.heap[b]? =ab (.cells cur e (0,0))->∃cur',σ'.w.heap[b]? =ab (.cells cur' e (0,0))/\cur'.size=cur.size)
theorem ck.refl(σ:Sg):ck σ σ:=⟨λ_ _ _ a b=>⟨a,b⟩,λ_ _ a b=>⟨a,b⟩,λ_ _ _ _ _ a=>a,λ_ _ a b=>⟨a,b⟩,λ_ v _ st _ d h=>⟨v,st,d,h,ym _,λ_=>⟨rfl,λb f _ g=>⟨f,g,rfl⟩⟩⟩⟩
theorem ck.trans{a b c:Sg}(h:ck a b)(k:ck b c):ck a c:=
 ⟨λx o v f g=>let ⟨j,m⟩:=h.cells x o v f g;k.cells x o v j m,λi x f g=>let ⟨j,m⟩:=h.var i x f g;k.var i x j m,
  λi s l A J f=>k.front i s l A J (h.front i s l A J f),λi x f g=>let ⟨j,m⟩:=h.map i x f g;k.map i x j m,
  λi v s st e d f=>by
   obtain⟨E,F,d2,S,T,U⟩:=h.row i v s st e d f;obtain⟨M,G,d3,W,X,Y⟩:=k.row i E s F e d2 S;refine⟨M,G,d3,W,ybt T X,λhv=> ?_⟩;have Z:E=v:=by omega
   have e2:M=E:=by omega
   obtain⟨Q,p2⟩:=U Z;obtain⟨q1,q2⟩:=Y e2;refine⟨q1.trans Q,λb I R hc=> ?_⟩;obtain⟨y,r1,r2⟩:=p2 b I R hc;obtain⟨z,r3,r4⟩:=q2 b y (by rw[Q];exact R) r1;exact⟨z,r3,by rw[r4,r2]⟩⟩
theorem Zz5{σ σ':Sg}(h:ck σ σ'){id v s lo:Nat}{A:yO Addr}{c:Nat}:rowAt σ id v s lo A c->rowAt σ' id v s lo A c:=by
 rintro⟨y,F,st,e,d,G,I,J⟩;obtain⟨z,j,d2,M,Q,R⟩:=h.row _ _ _ _ _ _ G;refine⟨z,F,j,e,d2,M,ybt I Q,λhv=> ?_⟩;have S:y=v:=by omega
 have T:z=y:=by omega
 obtain⟨E,U⟩:=R T;obtain⟨W,X⟩:=J S;refine⟨W, ?_⟩;rcases X with⟨g,l⟩|⟨b,m,g,l,Y,Z⟩
 .exact .inl ⟨by rw[E,g],l⟩
 .obtain⟨f,b1,b2⟩:=U b m g l;exact .inr ⟨b,f,by rw[E,g],b1,by rw[b2,Y],Z⟩
theorem Zz6{σ σ':Sg}(h:ck σ σ'){id v b o off:Nat}:rowIs σ id v b o off->rowIs σ' id v b o off:=by
 rintro⟨g,l,st,e,d,m,y,z⟩;obtain⟨j,f,d2,A,E,F⟩:=h.row _ _ _ _ _ _ m;refine⟨j,l,f,e,d2,A,ybt y E,λJ=> ?_⟩;have G:g=v:=by omega
 have I:j=g:=by omega
 rw[(F I).1];exact z G
mutual
theorem Yg{σ σ':Sg}(h:ck σ σ'):∀(d:Dv)(vs:yL yh),yH σ d vs->yH σ' d vs
 |.p x,vs,g=>by
  simp only[yH]at g ⊢
  exact lY h.cells x vs g
 |.elem x,vs,g=>by
  simp only[yH]at g ⊢;obtain⟨b,o,z,j,l,m⟩:=g
  exact⟨b,o,z,j,lY h.cells x z l,m.mono h.cells⟩
 |.aj id off T,vs,g=>by
  simp only[yH]at g ⊢;obtain⟨b,j,l,m⟩:=g
  exact⟨b,(h.var id b j l).1,(h.var id b j l).2,m⟩
 |.own id nn s y,vs,g=>by
  simp only[yH]at g ⊢;obtain⟨j,A,c,l,m,F,G,I,U,W⟩:=g;refine⟨j,A,c,l,m,F,G,I,λJ=> ?_,h.front _ _ _ _ _ W⟩;obtain⟨b,o,z,M,Q,X⟩:=U J
  exact⟨b,o,z,M,aE h.cells y z Q,X.mono h.cells⟩
 |.view id off T s lo n,vs,g=>by
  simp only[yH]at g ⊢;obtain⟨b,c,a,j,l,m⟩:=g
  exact⟨b,c,a,(h.var id b j l).1,(h.var id b j l).2,m⟩
 |.agg y,vs,g=>by
  simp only[yH]at g ⊢
  exact ei h y vs g
 |.arr n s y,vs,g=>by
  simp only[yH]at g ⊢
  exact⟨g.1,g.2.1,ei h y vs g.2.2⟩
 |.fn f R,vs,g=>by
  simp only[yH]at g ⊢;obtain⟨Y,E,j,Z,l⟩:=g
  exact⟨Y,E,j,Z,de h R _ l⟩
 |.iface t x,vs,g=>by
  simp only[yH]at g ⊢;obtain⟨v,j,l,m⟩:=g;refine⟨v,j,λS=> ?_,λS=>Yg h x _ (m S)⟩;obtain⟨E,M,Q⟩:=l S
  exact⟨E,M,Yg h x _ Q⟩
 |.bp y,vs,g=>by
  simp only[yH]at g ⊢;obtain⟨E,j,l⟩:=g
  exact⟨E,j,de h y _ l⟩
 |.mp id,vs,g=>by
  simp only[yH]at g ⊢;obtain⟨b,j,l,m⟩:=g
  exact⟨b,(h.map id b j l).1,(h.map id b j l).2,m⟩
 |.rv id v s lo n,vs,g=>by
  simp only[yH]at g ⊢;obtain⟨A,c,j,l,m,F,G,I⟩:=g
  exact⟨A,c,j,l,m,F,G,Zz5 h I⟩
 |.aZ id v off T,vs,g=>by
  simp only[yH]at g ⊢;obtain⟨b,o,j,l⟩:=g
  exact⟨b,o,j,Zz6 h l⟩
 |.an,_,g=>by simpa[yH] using g
theorem ei{σ σ':Sg}(h:ck σ σ'):∀(j:yL Dv)(vs:yL yh),aM σ j vs->aM σ' j vs
 |[],_,g=>by simpa[aM] using g
 |x::m,vs,g=>by
  simp only[aM]at g ⊢;obtain⟨l,f,y,z,A⟩:=g;exact⟨l,f,y,Yg h x l z,ei h m f A⟩
theorem de{σ σ':Sg}(h:ck σ σ'):∀(l:yL Dv)(vs:yL yh),aH σ l vs->aH σ' l vs
 |[],_,g=>by simpa[aH] using g
 |x::m,vs,g=>by
  simp only[aH]at g ⊢;obtain⟨v,f,y,⟨z,A⟩,E⟩:=g;refine⟨v,f,y,⟨λj=> ?_,λj=>Yg h x _ (A j)⟩,de h m f E⟩;obtain⟨F,G,I⟩:=z j;exact⟨F,G,Yg h x _ I⟩
end
theorem Vo{σ σ':Sg}(h:ck σ σ'){d:Dv}{v:yh}(g:yJ σ d v):yJ σ' d v:=by
 obtain⟨j,l⟩:=g;refine⟨λf=> ?_,λf=>Yg h d _ (l f)⟩;obtain⟨m,y,z⟩:=j f;exact⟨m,y,Yg h d _ z⟩
def iG(σ:Sg):yL (Pl×Pl)->yL MapEntry->Prop
 |[],[]=>True
 |q::r,e::f=>yJ σ (.p q.1) e.key/\yJ σ (.p q.2) e.val/\iG σ r f
 |_,_=>False
def ku(σ:Sg)(bS:yL (Pl×Pl))(es:yL MapEntry):Prop:=∃l,l.Perm bS/\(bS.map (·.1)).Nodup/\iG σ l es
def ni(es:Array MapEntry)(f:Nat):Prop:=
 (∀(q:Nat)g,es[q]? =ab g->g.born < f)/\∀(q j:Nat)g h,es[q]? =ab g->es[j]? =ab h->g.born=h.born->q=j
def dH(σ:Sg)(a:yO Nat):aq->Prop
 |.var d _=>∃b l t,a=ab b/\σ.w.heap[b]? =ab (.cells l t (0,0))/\yH σ d (l.toList.take d.size)/\d.size<=l.size
 |.log s e j=>(a=ad/\j=[])\/
   ∃b f g,a=ab b/\σ.w.heap[b]? =ab (.cells f e (0,0))/\f.size=g*s/\j.length<=g/\g<=maxLen/\aW s j/\
    ar σ.w σ.bf j (f.toList.take (j.length*s))
 |.map _ bS=>∃b m h,a=ab b/\σ.w.heap[b]? =ab (.map m h)/\ku σ bS m.toList/\ni m h
 |.row _ s _ e d=>∃N,aR d s=ab N/\((a=ad/\N=0)\/
   ∃b f g,a=ab b/\σ.w.heap[b]? =ab (.cells f e (0,0))/\f.size=g*s/\N<=g/\g<=maxLen/\yH σ d (f.toList.take (N*s)))
 |.gone=>True
structure Ok(σ:Sg):Prop where
 len:σ.m.length=σ.H.length
 inj:∀(i j b:Nat),σ.m[i]? =ab (ab b)->σ.m[j]? =ab (ab b)->i=j
 lt:∀(i b:Nat),σ.m[i]? =ab (ab b)->b < σ.w.heap.size
 dF:∀(i:Nat)(e:aq)(a:Option Nat),σ.H[i]? =ab e->σ.m[i]? =ab a->dH σ a e
 new:∀(b:Nat),σ.w.heap.size<=b->σ.B b
 own:∀(i b:Nat),σ.m[i]? =ab (ab b)->σ.B b
structure To(σ σ':Sg):Prop where
 leaf:ck σ σ'
 F:σ'.F=σ.F
 B:σ'.B=σ.B
 os:σ'.w.os=σ.w.os
 tape:σ'.w.tape=σ.w.tape
 output:σ'.w.output=σ.w.output
 size:σ.w.heap.size<=σ'.w.heap.size
 block:∀(b:Nat),b < σ.w.heap.size->(∀(id:Nat),σ.m[id]? ≠ab (ab b))->σ'.w.heap[b]? =σ.w.heap[b]?
 same:∀(id b:Nat),σ'.m[id]? =ab (ab b)->σ.m[id]? =ab (ab b)\/σ.w.heap.size<=b
 len:σ.m.length<=σ'.m.length
theorem To.refl(σ:Sg):To σ σ:=⟨ck.refl σ,rfl,rfl,rfl,rfl,rfl,ym _,λ_ _ _=>rfl,λ_ _ h=>.inl h,ym _⟩
theorem To.trans{a b c:Sg}(h:To a b)(k:To b c):To a c where
 leaf:=h.leaf.trans k.leaf
 F:=k.F.trans h.F
 B:=k.B.trans h.B
 os:=k.os.trans h.os
 tape:=k.tape.trans h.tape
 output:=k.output.trans h.output
 size:=ybt h.size k.size
 block x hx hn:=(k.block x (Nat.lt_of_lt_of_le hx h.size) (λid he=>by
  rcases h.same id x he with h1|h1
  .exact hn id h1
  .omega)).trans (h.block x hx hn)
 same id x hx:=by
  rcases k.same id x hx with h1|h1
  .exact h.same id x h1
  .exact .inr (ybt h.size h1)
 len:=ybt h.len k.len
def ce(P:yg)(f:yw)(args:yL Dv)(H:yL aq)(r:Dv)(H':yL aq):Prop:=
 ∀(σ:Sg)(vs:yL yh),Ok σ->σ.H=H->aH σ args vs->
  Calls P f vs.toArray σ.w λe h=>∃v g,e=.returned v/\g.w=h/\g.H=H'/\To σ g/\Ok g/\yJ g r v
structure aD(σ:Sg)(ts:List Dv)(a:Act):Prop where
 size:a.tmps.size=ts.length
 at_:∀(i:Nat)(d:Dv),ts[i]? =ab d->yJ σ d (a.tmps.getD i undef)
 defers:a.defers=[]
theorem aD.to{σ σ':Sg}{ts:yL Dv}{a:Act}(h:aD σ ts a)(k:ck σ σ'):aD σ' ts a:=
 ⟨h.size,λi d f=>Vo k (h.at_ i d f),h.defers⟩
inductive Ex where
 |normal
 |exit (id:Nat)
 |ret
 deriving DecidableEq,Inhabited
def Ex.to:Ex->Exit
 |.normal=>.normal
 |.exit id=>.exit id
 |.ret=>.ret
def Xv(P:yg)(c:Code)(ts:yL Dv)(H:yL aq)(ex:Ex)(ts':yL Dv)(H':yL aq):Prop:=
 ∀(σ:Sg)(a:Act),Ok σ->σ.H=H->aD σ ts a->
  c.wp P (λe g h=>e=ex.to/\∃f,f.w=h/\f.H=H'/\To σ f/\Ok f/\aD f ts' g) a σ.w
inductive ao where
 |b (t:Bool)
 |el (x:Pl)
 |bare
 |raw
 |call (r:Dv) (H':List aq) (ids:List Nat)
 |sub (t:Nat) (d:Dv)
 |own
 |iH
 |bS (l:List (Pl×Pl))
 |arr
 |eD
 |fresh (dst:Nat)
 |jy (dst:Nat)
 |still (dst:Nat)
 |cq (yQ:List Nat) (s:Nat) (e:yc)
 |loop (mask:List Nat) (ex:Ex) (ts':List Dv) (H':List aq)
 |iI (g:yw)
 deriving Inhabited
def oQ(P:yg)(t:yc)(h:String)(g:yw):Prop:=
 ∀(v:yh)(f:Array yh)(w:yr),(callMethod (.iface t v) h f).run P w=(callFunc g (#[v]++f)).run P w
def Wn(k:IntKind)(x:Int):Prop:=k.min<=x/\x<=k.max
def ZKu(P:yg)(t:yc):Nat:=
 match P.underlying t with
 |some (.slice e)=>P.cellsOf e
 |_=>0
def XB(P:yg)(t:yc):Bool:=
 match P.underlying t with
 |some (.struct _)=>ae
 |some (.array _ _)=>ae
 |_=>af
def uC(P:yg)(t:yc):yh->yO Pl
 |.int k n=>ab (.int k n)
 |.bool b=>ab (.bool b)
 |.string s=>ab (.str s)
 |.pointer ad=>ab .bX
 |.nilFunc=>ab .fn0
 |.nilIface=>ab .eG
 |.map ad=>ab .cC
 |.slice ad 0 0=>ab (.sl (ab af) (ZKu P t) [])
 |_=>ad
mutual
def oR(P:yg):Nat->yc->yL yh->yO (Pl×yL yh)
 |0,_,_=>ad
 |yD+1,t,vs=>
  match P.underlying t with
  |some (.struct f)=>(dp P yD (f.toList.map (·.type)) vs).map λr=>(.agg r.1,r.2)
  |some (.array n e)=>(fW P yD e n vs).map λr=>(.arr n (P.cellsOf e) r.1,r.2)
  |some _=>match vs with
   |v::r=>(uC P t v).map λx=>(x,r)
   |[]=>ad
  |none=>ad
def dp(P:yg):Nat->yL yc->yL yh->yO (yL Pl×yL yh)
 |0,_,_=>ad
 |_+1,[],vs=>ab ([],vs)
 |yD+1,t::ts,vs=>
  match oR P yD t vs with
  |some (x,r)=>(dp P yD ts r).map λq=>(x::q.1,q.2)
  |none=>ad
def fW(P:yg):Nat->yc->Nat->yL yh->yO (yL Pl×yL yh)
 |0,_,_,_=>ad
 |_+1,_,0,vs=>ab ([],vs)
 |yD+1,e,n+1,vs=>
  match oR P yD e vs with
  |some (x,r)=>if x.size=P.cellsOf e then(fW P yD e n r).map λq=>(x::q.1,q.2) else ad
  |none=>ad
end
def oS(P:yg)(t:yc):yh->Dv
 |.agg j=>match oR P 1000 t j.toList with
  |some (x,[])=>if x.isAgg then .p x else .an
  |_=>.an
 |.func (.func f) g h=>if g.size=0/\h.size=0/\f < big then .fn f [] else .an
 |v=>match uC P t v with
  |some x=>.p x
  |none=>.an
def aF(P:yg)(ts:yL Dv)(t:yc):yp->Dv
 |.tmp i=>ts.getD i .an
 |.const v=>oS P t v
 |.global _=>.an
 |.func f=>if f < big then .fn f [] else .an
mutual
def Dv.bF:Dv->Bool
 |.bp _=>af
 |.an=>af
 |.agg f=>Dv.ej f
 |.arr _ _ f=>Dv.ej f
 |_=>ae
def Dv.ej:yL Dv->Bool
 |[]=>ae
 |x::r=>x.bF&&Dv.ej r
end
mutual
def Dv.rn(f:Nat->yO Nat):Dv->yO Dv
 |.p x=>ab (.p x)
 |.elem x=>ab (.elem x)
 |.aj id off j=>(f id).map λi=>.aj i off j
 |.own id m s h=>(f id).map λi=>.own i m s h
 |.view id off j s lo n=>(f id).map λi=>.view i off j s lo n
 |.agg h=>(Dv.bC f h).map .agg
 |.arr n s h=>(Dv.bC f h).map (.arr n s)
 |.fn g l=>(Dv.bC f l).map (.fn g)
 |.iface t x=>(Dv.rn f x).map (.iface t)
 |.bp h=>(Dv.bC f h).map .bp
 |.mp id=>(f id).map .mp
 |.rv id v s lo n=>(f id).map λi=>.rv i v s lo n
 |.aZ id v off j=>(f id).map λi=>.aZ i v off j
 |.an=>ab .an
def Dv.bC(f:Nat->yO Nat):yL Dv->yO (yL Dv)
 |[]=>ab []
 |x::r=>match Dv.rn f x,Dv.bC f r with
  |some y,ab g=>ab (y::g)
  |_,_=>ad
end
def aq.rn(f:Nat->yO Nat):aq->yO aq
 |.var d st=>(d.rn f).map λg=>.var g st
 |.log s e h=>ab (.log s e h)
 |.map t bS=>ab (.map t bS)
 |.row v s st e d=>(d.rn f).map λg=>.row v s st e g
 |.gone=>ab .gone
def aq.bC(f:Nat->yO Nat):yL aq->yO (yL aq)
 |[]=>ab []
 |x::r=>match aq.rn f x,aq.bC f r with
  |some y,ab g=>ab (y::g)
  |_,_=>ad
def Dv.plain:Dv->yO Pl
 |.p x=>ab x
 |.own _ f s g=>ab (.sl f s g)
 |_=>ad
mutual
def Dv.flat:Dv->yO Pl
 |.p x=>ab x
 |.own _ f s g=>ab (.sl f s g)
 |.agg h=>(Dv.aS h).map .agg
 |_=>ad
def Dv.aS:yL Dv->yO (yL Pl)
 |[]=>ab []
 |d::r=>match d.flat,Dv.aS r with
  |some x,ab f=>ab (x::f)
  |_,_=>ad
end
mutual
def Dv.owns(ids:yL Nat):Dv->Bool
 |.own id _ _ _=>ids.contains id
 |.agg f=>Dv.dI ids f
 |_=>af
def Dv.dI(ids:yL Nat):yL Dv->Bool
 |[]=>af
 |d::r=>d.owns ids || Dv.dI ids r
end
def Dv.dJ(f:yL Dv):Dv:=
 match Dv.aS f with
 |some g=>.p (.agg g)
 |none=>.agg f
def jz:yL Dv->yO (yL Pl)
 |[]=>ab []
 |d::r=>match d.plain,jz r with
  |some x,ab f=>ab (x::f)
  |_,_=>ad
def qC(f:yL Dv):Dv:=
 match jz f with
 |some g=>.p (.agg g)
 |none=>.agg f
abbrev nj:=yO (yL Prop×Dv×yL ao)
abbrev uD:=yO (yL Prop×Dv×yL aq×yL ao)
def gy(k:IntKind)(x:Int):yL ao->nj
 |.bare::hs=>ab ([Wn k x],.p (.int k x),hs)
 |.raw::hs=>ab ([],.p (.int k (k.wrap x)),hs)
 |_=>ad
def uE(op:BinOp)(a b:Nat):yO Nat:=
 match op with
 |.and=>ab (a&&&b)
 |.or=>ab (a|||b)
 |.xor=>ab (a^^^b)
 |_=>ad
def YW(op:BinOp)(k:IntKind)(x y:Int)(hs:yL ao):nj:=
 match op with
 |.add=>gy k (x+y) hs
 |.sub=>gy k (x - y) hs
 |.mul=>gy k (x*y) hs
 |.quo=>match hs with
  |.bare::hs'=>ab ([0<=x,0 < y,Wn k (x / y)],.p (.int k (x / y)),hs')
  |.raw::hs'=>ab ([y≠0],.p (.int k (k.wrap (x.tdiv y))),hs')
  |_=>ad
 |.rem=>match hs with
  |.bare::hs'=>ab ([0<=x,0 < y],.p (.int k (x % y)),hs')
  |.raw::hs'=>ab ([y≠0],.p (.int k (x.tmod y)),hs')
  |_=>ad
 |.and|.or|.xor=>match hs with
  |.bare::hs'=>(uE op x.toNat y.toNat).map λ(r:Nat)=>([0<=x,Wn k x,0<=y,Wn k y,Wn k (r:Int)],.p (.int k (r:Int)),hs')
  |.raw::hs'=>ab ([],.p (.int k (bits op k x y)),hs')
  |_=>ad
 |.andNot=>match hs with
  |.raw::hs'=>ab ([],.p (.int k (bits op k x y)),hs')
  |_=>ad
 |.eql=>ab ([],.p (.bool (x==y)),hs)
 |.neq=>ab ([],.p (.bool (x !=y)),hs)
 |.lss=>ab ([],.p (.bool (ag (x < y))),hs)
 |.leq=>ab ([],.p (.bool (ag (x<=y))),hs)
 |.gtr=>ab ([],.p (.bool (ag (x > y))),hs)
 |.geq=>ab ([],.p (.bool (ag (x >= y))),hs)
 |_=>ad
def WC(op:BinOp)(k:IntKind)(x y:Int)(hs:yL ao):nj:=
 match op,hs with
 |.shl,.bare::hs'=>ab ([0<=y,y.toNat < k.bits,Wn k (x*2 ^ y.toNat)],.p (.int k (x*2 ^ y.toNat)),hs')
 |.shl,.raw::hs'=>ab ([0<=y],.p (.int k (k.wrap (x*2 ^ (min y.toNat k.bits)))),hs')
 |.shr,.bare::hs'=>ab ([0<=y,y.toNat<=k.bits],.p (.int k (x / 2 ^ y.toNat)),hs')
 |.shr,.raw::hs'=>ab ([0<=y],.p (.int k (x.fdiv (2 ^ (min y.toNat k.bits)))),hs')
 |_,_=>ad
mutual
def Pl.flat:Pl->Bool
 |.int _ _=>ae
 |.bool _=>ae
 |.agg f=>Pl.aS f
 |.arr _ _ f=>Pl.aS f
 |_=>af
def Pl.aS:yL Pl->Bool
 |[]=>ae
 |x::r=>x.flat&&Pl.aS r
end
def iJ(P:yg)(R:yc->Pl->Prop):yL Field->Nat->yL Pl->Prop
 |[],_,[]=>True
 |f::g,o,y::h=>f.name≠ "_" /\f.offset=o/\P.cellsOf f.type=y.size/\(P.info? f.type).isSome=ae/\(P.underlying f.type).isSome=ae/\XB P f.type=y.isAgg/\y.size≠0/\R f.type y/\iJ P R g (o+y.size) h
 |_,_,_=>False
def bv(P:yg):Nat->yc->Pl->Prop
 |0,_,_=>False
 |n+1,t,x=>match P.underlying t,x with
  |some .bool,.bool _=>True
  |some (.int k),.int g _=>g=k
  |some (.array m e),.arr h s f=>h=m/\P.cellsOf e=s/\s≠0/\(P.info? e).isSome=ae/\(P.underlying e).isSome=ae/\∀y,y∈f->bv P n e y/\y.size=s/\XB P e=y.isAgg
  |some (.struct j),.agg f=>P.stoodInHeld t=af/\iJ P (bv P n) j.toList 0 f
  |_,_=>False
def Vi:yL (Pl×Pl)->Pl->yO Pl->Prop
 |[],_,r=>r=ad
 |q::l,k,r=>(k=q.1/\r=ab q.2)\/(k≠q.1/\Vi l k r)
def gz:yL (Pl×Pl)->Pl->Pl->yL (Pl×Pl)->Prop
 |[],k,v,l=>l=[(k,v)]
 |q::r,k,v,l=>(k=q.1/\l=(k,v)::r)\/(k≠q.1/\∃f,l=q::f/\gz r k v f)
def jc(P:yg)(f:yc)(bS:yL (Pl×Pl)):Prop:=∀q,q∈bS->bv P 20 f q.1
def BB(P:yg)(t:yc):Bool:=match P.info? t with|some i=>i.zero.isSome|none=>af
def lZ(P:yg)(f:yc):Bool:=
 match P.underlying f with
 |some (.int _)=>ae
 |some .bool=>ae
 |some (.array _ _)=>ae
 |some (.struct _)=>ae
 |_=>af
def jd(P:yg)(t:yc)(x y:Dv)(hs:yL ao):yO (yL Prop×Bool×yL ao):=
 match P.underlying t,x,y with
 |some .bool,.p (.bool a),.p (.bool b)=>ab ([],a==b,hs)
 |some (.pointer _),.aj _ _ _,.p .bX=>ab ([],af,hs)
 |some (.pointer _),.elem _,.p .bX=>ab ([],af,hs)
 |some (.pointer _),.aZ _ _ _ _,.p .bX=>ab ([],af,hs)
 |some (.pointer _),.p .bX,.p .bX=>ab ([],ae,hs)
 |some (.slice _),.p (.sl (ab b) _ _),.p (.sl (ab af) _ [])=>ab ([], !b,hs)
 |some (.slice _),.own _ (ab b) _ _,.p (.sl (ab af) _ [])=>ab ([], !b,hs)
 |some (.slice _),.view _ _ _ _ _ _,.p (.sl (ab af) _ [])=>ab ([],af,hs)
 |some (.slice _),.p (.sl ad _ f),.p (.sl (ab af) _ [])=>match hs with
  |.bare::hs'=>ab ([f≠[]],af,hs')
  |_=>ad
 |some (.slice _),.own _ ad _ f,.p (.sl (ab af) _ [])=>match hs with
  |.bare::hs'=>ab ([f≠[]],af,hs')
  |_=>ad
 |some (.func _ _ _),.fn _ _,.p .fn0=>ab ([],af,hs)
 |some (.func _ _ _),.p .fn0,.p .fn0=>ab ([],ae,hs)
 |some (.array _ _),.p (.arr n s f),.p (.arr m r g)=>match hs with
  |.b β::hs'=>if P.eqGuardType P.depth t=af then ab ([bv P 20 t (.arr n s f),bv P 20 t (.arr m r g),(β=ae↔Pl.arr n s f=Pl.arr m r g)],β,hs') else ad
  |_=>ad
 |some (.struct _),.p (.agg f),.p (.agg g)=>match hs with
  |.b β::hs'=>if P.eqGuardType P.depth t=af then ab ([bv P 20 t (.agg f),bv P 20 t (.agg g),(β=ae↔Pl.agg f=Pl.agg g)],β,hs') else ad
  |_=>ad
 |_,_,_=>ad
def BC:BinOp->Bool
 |.shl=>ae
 |.shr=>ae
 |_=>af
def gP(P:yg)(op:BinOp)(t:yc)(x y:Dv)(hs:yL ao):nj:=
 match x,y with
 |.p (.int k a),.p (.int f b)=>if BC op then WC op k a b hs else if k=f then YW op k a b hs else ad
 |.p (.str a),.p (.str b)=>match op with
  |.eql=>ab ([],.p (.bool (a.data.toList==b.data.toList)),hs)
  |.neq=>ab ([],.p (.bool (!(a.data.toList==b.data.toList))),hs)
  |_=>ad
 |x,y=>match op with
  |.eql=>(jd P t x y hs).map λr=>(r.1,.p (.bool r.2.1),r.2.2)
  |.neq=>(jd P t x y hs).map λr=>(r.1,.p (.bool (!r.2.1)),r.2.2)
  |_=>ad
def kv(P:yg)(h:Array Field)(i:Nat)(g:Nat)(size:Nat)(isAgg:Bool):Bool:=
 match h[i]? with
 |some f=>f.offset==g&&P.cellsOf f.type==size&&(P.info? f.type).isSome&&XB P f.type==isAgg&&(P.underlying f.type).isSome&&size !=0
 |none=>af
def je(P:yg)(t:yc)(x:Dv)(i:Nat):yO Dv:=
 match P.underlying t,x with
 |some (.struct g),.p (.agg f)=>match f[i]? with
  |some y=>if kv P g i (Pl.sizes (f.take i)) y.size y.isAgg then ab (.p y) else ad
  |none=>ad
 |some (.struct g),.agg f=>match f[i]? with
  |some y=>if kv P g i (Dv.sizes (f.take i)) y.size y.isAgg then ab y else ad
  |none=>ad
 |_,_=>ad
def gA(P:yg)(ts:yL Dv):yO yp->yO (yO Int)
 |none=>ab ad
 |some x=>match aF P ts 0 x with
  |.p (.int _ i)=>ab (ab i)
  |_=>ad
def Vp{α:Type}(xs:yL α):yO Int->yO Int->yL α
 |none,ad=>xs
 |none,ab h=>xs.take h.toNat
 |some l,ad=>xs.drop l.toNat
 |some l,ab h=>(xs.take h.toNat).drop l.toNat
def YQ(len:Nat):yO Int->yO Int->yL Prop
 |none,ad=>[]
 |none,ab h=>[0<=h,h<=(len:Int)]
 |some l,ad=>[0<=l,l<=(len:Int)]
 |some l,ab h=>[0<=l,l<=h,h<=(len:Int)]
def uF(g:yL Dv)(i:Nat)(d:Dv):yO (yL Dv):=
 match g[i]? with
 |some f=>if f.size=d.size then ab (g.set i d) else ad
 |none=>ad
def iK:yL Dv->yL (Nat×Dv)->yO (yL Dv)
 |f,[]=>ab f
 |f,(i,d)::r=>(uF f i d).bind λg=>iK g r
def mb(l:yL (Nat×Dv)):Bool:=l.all λq=>q.2.bF
def gZ(P:yg)(ts:yL Dv)(f:Nat->yc)(parts:yL (Nat×yp)):yL (Nat×Dv):=
 parts.map λq=>(q.1,aF P ts (f q.1) q.2)
def jA(P:yg)(t:yc)(i:Nat):yc:=
 match P.underlying t with
 |some (.struct f)=>((f[i]?).map (·.type)).getD 0
 |some (.array _ e)=>e
 |some (.slice e)=>e
 |_=>0
def bg(P:yg)(t:yc):Dv:=
 match P.info? t with
 |some i=>match i.zero with
  |some v=>oS P t v
  |none=>.an
 |none=>.an
def Dv.arg:Dv->Dv
 |.own _ f s g=>.p (.sl f s g)
 |.agg h=>Dv.dJ h
 |d=>d
def Dv.cr(ids:yL Nat):Dv->Dv
 |.own id g s h=>if ids.contains id then .own id g s h else .p (.sl g s h)
 |.agg f=>if Dv.dI ids f then .agg f else Dv.dJ f
 |d=>d
def YR(P:yg)(ids:yL Nat)(ts:yL Dv)(c:Call)(g:yw)(cap:yL Dv):yL Dv:=
 if g < big then((c.args.toList.zip c.argTypes.toList).map λq=>(aF P ts q.2 q.1).cr ids)++cap.map (Dv.cr ids)
 else cap.map (Dv.cr ids)++((c.args.toList.zip c.argTypes.toList).map λq=>(aF P ts q.2 q.1).cr ids)
def nq(P:yg)(g:yw):Bool:=
 ag (g < big)&&match P.funcs[g]? with
 |some fn=>fn.name== "internal/bytealg.Compare" &&fn.body.isNone&&(Extern.findNext fn).isNone
 |none=>af
def hJ(b:ByteArray):yL Pl:=b.data.toList.map λx=>.int .u8 (x.toNat:Int)
def hP(P:yg)(s:Nat)(t:yc)(d:Dv):yO (yL Pl):=
 match P.underlying t,d with
 |some (.slice e),.p (.sl _ g f)=>if g=s\/f.isEmpty then ab f else ad
 |some (.slice e),.own _ _ g f=>if g=s then ab f else ad
 |some .string,.p (.str z)=>if s=1 then ab (z.data.toList.map λb=>.int .u8 (b.toNat:Int)) else ad
 |_,_=>ad
def XI(P:yg)(ts:yL Dv)(e:yc)(s:Nat)(len:Nat)(parts:yL (Nat×yp)):yO (yL Pl):=
 if parts.map (·.1)==yo len then
  match Dv.aS (parts.map λq=>aF P ts e q.2) with
  |some f=>if f.all (λx=>x.size==s) then ab f else ad
  |none=>ad
 else ad
def Zt:Nat:=140737488355328
def cu(i:TypeInfo):Bool:=
 match i.zero with
 |some z=>z.cells.size==i.size
 |none=>af
def iL(P:yg)(g:yw):Bool:=
 match P.funcs[g]? with
 |some fn=>fn.body.isSome&& !(fn.name== "runtime.NumGoroutine")
 |none=>af
def bj(P:yg)(o:yj)(ts:yL Dv)(hs:yL ao):nj:=
 match o.op with
 |.move x=>match hs with
  |.raw::hs'=>ab ([],aF P ts o.type x,hs')
  |_=>ad
 |.assign x=>match hs with
  |.raw::hs'=>ab ([],aF P ts o.type x,hs')
  |_=>ad
 |.pick c a b=>match aF P ts 0 c,hs with
  |.p (.bool t),.b β::hs'=>ab ([t=β],if β then aF P ts o.type a else aF P ts o.type b,hs')
  |_,_=>ad
 |.nilCheck x=>match aF P ts 0 x with
  |.aj i f p=>ab ([],.aj i f p,hs)
  |.aZ i v f p=>ab ([],.aZ i v f p,hs)
  |.elem y=>ab ([],.elem y,hs)
  |.fn f c=>ab ([],.fn f c,hs)
  |_=>ad
 |.binOp S t x y T=>gP P S t (aF P ts t x) (aF P ts T y) hs
 |.unOp .not _ x=>match aF P ts 0 x with
  |.p (.bool t)=>ab ([],.p (.bool (!t)),hs)
  |_=>ad
 |.unOp .neg _ x=>match aF P ts 0 x with
  |.p (.int k n)=>gy k (0 - n) hs
  |_=>ad
 |.unOp .xor _ x=>match aF P ts 0 x with
  |.p (.int k n)=>if k.signed then ad else ab ([],.p (.int k (bits .xor k k.max n)),hs)
  |_=>ad
 |.convert src dst x=>match P.underlying src,P.underlying dst,aF P ts src x with
  |some _,ab (.int k),.p (.int _ n)=>gy k n hs
  |some (.slice e),ab .string,.p (.sl _ s j)=>match hs,P.underlying e with
   |.el (.str b)::hs',ab (.int .u8)=>if s=1 then ab ([j=b.data.toList.map λx=>.int .u8 (x.toNat:Int)],.p (.str b),hs') else ad
   |_,_=>ad
  |some (.slice e),ab .string,.own _ _ s j=>match hs,P.underlying e with
   |.el (.str b)::hs',ab (.int .u8)=>if s=1 then ab ([j=b.data.toList.map λx=>.int .u8 (x.toNat:Int)],.p (.str b),hs') else ad
   |_,_=>ad
  |some .string,ab (.slice e),.p (.str b)=>match P.underlying e with
   |some (.int .u8)=>ab ([b.size<=maxLen],.p (.sl (ab ae) 1 (b.data.toList.map λx=>.int .u8 (x.toNat:Int))),hs)
   |_=>ad
  |_,_,_=>ad
 |.sliceToArrayPointer t x=>match P.underlying t,aF P ts 0 x with
  |some (.array n e),.p (.sl _ s j)=>if n !=0 then ab ([n<=j.length],.elem (.arr n s (j.take n)),hs) else ad
  |some (.array n e),.own _ _ s j=>if n !=0 then ab ([n<=j.length],.elem (.arr n s (j.take n)),hs) else ad
  |_,_=>ad
 |.makeFunc (.func f) first captured=>if first.isEmpty&&ag (f < big) then ab ([],.fn f (captured.toList.map (aF P ts 0)),hs) else if captured.isEmpty then ab ([],.fn (f+big) (first.toList.map (aF P ts 0)),hs) else ad
 |.makeInterface t x=>match P.underlying t with
  |some (.interface _)=>ad
  |some _=>ab ([],.iface t (aF P ts t x),hs)
  |none=>ad
 |.field t x i=>(je P t (aF P ts t x) i).map λd=>([],d,hs)
 |.fieldAddr t x i=>match P.underlying t,aF P ts 0 x with
  |some (.struct G),.aj id off A=>match G[i]? with
   |some f=>if P.cellsOf f.type !=0&&(P.info? f.type).isSome then ab ([],.aj id (off+f.offset) (A++[i]),hs) else ad
   |none=>ad
  |some (.struct G),.aZ id v off A=>match G[i]? with
   |some f=>if P.cellsOf f.type !=0&&(P.info? f.type).isSome then ab ([],.aZ id v (off+f.offset) (A++[i]),hs) else ad
   |none=>ad
  |some (.struct _),.elem y=>match je P t (.p y) i with
   |some (.p z)=>ab ([],.elem z,hs)
   |_=>ad
  |_,_=>ad
 |.indexAddr t x ix=>match P.underlying t,aF P ts t x,aF P ts 0 ix with
  |some (.slice e),.p (.sl _ s j),.p (.int _ i)=>match hs with
   |.el y::hs'=>if P.cellsOf e=s&&(P.info? e).isSome then ab ([0<=i,j[i.toNat]? =ab y],.elem y,hs') else ad
   |_=>ad
  |some (.slice e),.own _ _ s j,.p (.int _ i)=>match hs with
   |.el y::hs'=>if P.cellsOf e=s&&(P.info? e).isSome then ab ([0<=i,j[i.toNat]? =ab y],.elem y,hs') else ad
   |_=>ad
  |some (.slice e),.view id off A s lo n,.p (.int _ i)=>
   if P.cellsOf e=s&&(P.info? e).isSome then ab ([0<=i,i < (n:Int)],.aj id (off+(lo+i.toNat)*s) (A++[lo+i.toNat]),hs) else ad
  |some (.slice e),.rv id v s lo n,.p (.int _ i)=>
   if P.cellsOf e=s&&(P.info? e).isSome then ab ([0<=i,i < (n:Int)],.aZ id v ((lo+i.toNat)*s) [lo+i.toNat],hs) else ad
  |some (.array n e),.aZ id v off A,.p (.int _ i)=>
   if(P.info? e).isSome then ab ([0<=i,i < (n:Int)],.aZ id v (off+i.toNat*P.cellsOf e) (A++[i.toNat]),hs) else ad
  |some (.array n e),.aj id off A,.p (.int _ i)=>
   if(P.info? e).isSome then ab ([0<=i,i < (n:Int)],.aj id (off+i.toNat*P.cellsOf e) (A++[i.toNat]),hs) else ad
  |some (.array n e),.elem (.arr E s j),.p (.int _ i)=>match hs with
   |.el y::hs'=>if n=E&&P.cellsOf e=s&&(P.info? e).isSome then ab ([0<=i,j[i.toNat]? =ab y],.elem y,hs') else ad
   |_=>ad
  |_,_,_=>ad
 |.index t x ix=>match P.underlying t,aF P ts t x,aF P ts 0 ix with
  |some (.array n e),.p (.arr E s j),.p (.int _ i)=>match hs with
   |.el y::hs'=>if n=E&&P.cellsOf e=s&&XB P e==y.isAgg&&(P.underlying e).isSome&&(P.info? e).isSome&&s !=0 then ab ([0<=i,j[i.toNat]? =ab y],.p y,hs') else ad
   |_=>ad
  |some .string,.p (.str s),.p (.int _ i)=>match hs with
   |.el (.int .u8 b)::hs'=>ab ([0<=i,(s.data.toList[i.toNat]?).map (λx:yB=>(x.toNat:Int))=ab b],.p (.int .u8 b),hs')
   |_=>ad
  |some (.array n e),.arr E s j,.p (.int _ i)=>match j[i.toNat]? with
   |some d=>if n=E&&P.cellsOf e=s&&XB P e==d.isAgg&&(P.underlying e).isSome&&(P.info? e).isSome&&s !=0 then ab ([0<=i],d,hs) else ad
   |none=>ad
  |_,_,_=>ad
 |.slice t x lo M ad=>match P.underlying t,aF P ts t x,gA P ts lo,gA P ts M with
  |some (.slice e),.p (.sl Q s j),ab l,ab h=>
   if P.cellsOf e=s&&(P.info? e).isSome then ab (YQ j.length l h,.p (.sl Q s (Vp j l h)),hs) else ad
  |some (.slice e),.own _ Q s j,ab l,ab h=>
   if P.cellsOf e=s&&(P.info? e).isSome then ab (YQ j.length l h,.p (.sl Q s (Vp j l h)),hs) else ad
  |some (.slice e),.view id off A s lo n,ab l,ab h=>
   if P.cellsOf e=s&&(P.info? e).isSome then ab (YQ n l h,.view id off A s (lo+(l.getD 0).toNat) ((h.getD n).toNat - (l.getD 0).toNat),hs) else ad
  |some (.slice e),.rv id v s lo n,ab l,ab h=>match hs with
   |.bare::hs'=>if P.cellsOf e=s&&(P.info? e).isSome then ab (YQ n l h,.rv id v s (lo+(l.getD 0).toNat) ((h.getD n).toNat - (l.getD 0).toNat),hs') else ad
   |_=>ad
  |some (.array n e),.elem (.arr E s j),ab l,ab h=>
   if n=E&&P.cellsOf e=s&&(P.info? e).isSome&&n<=maxLen then ab (YQ n l h,.p (.sl (ab ae) s (Vp j l h)),hs) else ad
  |some (.array n e),.aj id off A,ab l,ab h=>match hs with
   |.raw::hs'=>if(P.info? e).isSome&&n<=maxLen then ab (YQ n l h,.view id off A (P.cellsOf e) (l.getD 0).toNat ((h.getD n).toNat - (l.getD 0).toNat),hs') else ad
   |_=>ad
  |_,_,_,_=>ad
 |.slice t x lo M (ab U)=>match P.underlying t,aF P ts t x,gA P ts lo,gA P ts M,gA P ts (ab U) with
  |some (.slice e),.rv _ _ _ _ n,ab (ab l),ab (ab h),ab (ab m)=>if(P.info? e).isSome then ab ([0<=l,l<=h,h<=m,m<=(n:Int)],.an,hs) else ad
  |_,_,_,_,_=>ad
 |.extract x i=>match aF P ts 0 x with
  |.bp I=>(I[i]?).map λd=>([],d,hs)
  |_=>ad
 |.load t a=>match aF P ts 0 a with
  |.elem y=>if P.cellsOf t=y.size&&XB P t==y.isAgg&&(P.underlying t).isSome&&(P.info? t).isSome then ab ([],.p y,hs) else ad
  |_=>ad
 |.build t parts=>match P.underlying t,bg P t with
  |some (.struct G),.p (.agg zs)=>
   if mb (gZ P ts (jA P t) parts.toList)&&G.size==zs.length&&(yo zs.length).all λi=>kv P G i (Pl.sizes (zs.take i)) ((zs.getD i default).size) ((zs.getD i default).isAgg) then
    (iK (zs.map .p) (gZ P ts (jA P t) parts.toList)).map λI=>([],qC I,hs)
   else ad
  |some (.array _ e),.p (.arr n s zs)=>
   if mb (gZ P ts (jA P t) parts.toList)&&P.cellsOf e=s&&(P.info? e).isSome then
    (iK (zs.map .p) (gZ P ts (jA P t) parts.toList)).bind λI=>match jz I with
      |some j=>ab ([],.p (.arr n s j),hs)
      |none=>ab ([],.arr n s I,hs)
   else ad
  |_,_=>ad
 |.call c=>match c.callee with
  |.builtin .len=>match c.args.toList,c.argTypes.toList with
   |[x],[t]=>match P.underlying t,aF P ts t x with
    |some (.slice _),.p (.sl _ _ j)=>ab ([],.p (.int .i64 (j.length:Int)),hs)
    |some (.slice _),.own _ _ _ j=>ab ([],.p (.int .i64 (j.length:Int)),hs)
    |some (.slice _),.view _ _ _ _ _ n=>ab ([],.p (.int .i64 (n:Int)),hs)
    |some (.slice _),.rv _ _ _ _ n=>ab ([],.p (.int .i64 (n:Int)),hs)
    |some (.array n _),_=>ab ([],.p (.int .i64 (n:Int)),hs)
    |some .string,.p (.str s)=>ab ([],.p (.int .i64 (s.size:Int)),hs)
    |_,_=>ad
   |_,_=>ad
  |.builtin .max=>match c.args.toList,c.argTypes.toList with
   |[x,y],[t,u]=>match aF P ts t x,aF P ts u y with
    |.p (.int .i64 m),.p (.int .i64 n)=>ab ([],.p (.int .i64 (if n > m then n else m)),hs)
    |_,_=>ad
   |_,_=>ad
  |.builtin .min=>match c.args.toList,c.argTypes.toList with
   |[x,y],[t,u]=>match aF P ts t x,aF P ts u y with
    |.p (.int .i64 m),.p (.int .i64 n)=>ab ([],.p (.int .i64 (if n < m then n else m)),hs)
    |_,_=>ad
   |_,_=>ad
  |.builtin .append=>match c.args.toList,c.argTypes.toList,hs with
   |[x,y],[t,u],.iH::hs'=>match P.underlying t,aF P ts t x with
    |some (.slice e),.p (.sl (ab af) _ [])=>match P.info? e,hP P (P.cellsOf e) u (aF P ts u y) with
     |some i,ab J=>if cu i&&i.size !=0 then ab ([J.length*i.bytes<=Zt,J.length<=maxLen],.p (.sl ad (P.cellsOf e) J),hs') else ad
     |_,_=>ad
    |_,_=>ad
   |_,_,_=>ad
  |.value f=>match aF P ts 0 f,hs with
   |.fn g R,.call r [] []::hs'=>
    if iL P (fV g)&&c.args.size==c.argTypes.size then match Dv.bC (λ_=>ad) (YR P [] ts c g R),r.rn (λ_=>ad) with
     |some F,ab _=>ab ([ce P (fV g) F [] r []],r,hs')
     |_,_=>ad
    else ad
   |.fn g [],.el (.str x)::.el (.str y)::hs'=>
    if nq P g&&c.args.size==c.argTypes.size then match YR P [] ts c g [] with
     |[.p (.sl _ s j),.p (.sl _ W J)]=>if s=1/\W=1 then ab ([j=hJ x,J=hJ y],.p (.int .i64 (Go.Lib.compareBytes x.data.toList y.data.toList)),hs') else ad
     |_=>ad
    else ad
   |_,_=>ad
  |_=>ad
 |.buildSlice t len parts=>match hs with
  |.iH::hs'=>match P.underlying t with
   |some (.slice e)=>match P.info? e,XI P ts e (P.cellsOf e) len parts.toList with
    |some i,ab j=>if cu i&&i.size !=0&&len*i.size<=16777216 then ab ([],.p (.sl (ab ae) i.size (j.map Pl.soft)),hs') else ad
    |_,_=>ad
   |_=>ad
  |.bare::hs'=>match P.underlying t with
   |some (.slice e)=>match P.info? e,XI P ts e (P.cellsOf e) len parts.toList with
    |some i,ab j=>if cu i&&i.size !=0&&len*i.size<=16777216 then ab ([],.p (.sl (ab ae) i.size j),hs') else ad
    |_,_=>ad
   |_=>ad
  |_=>ad
 |_=>ad
def Yd:Dv->yL Nat->yL ao->yO (yL Prop×Nat×Dv×yL ao)
 |d,[],hs=>ab ([],0,d,hs)
 |.p (.agg f),i::r,hs=>match f[i]? with
  |some x=>(Yd (.p x) r hs).map λq=>(q.1,Pl.sizes (f.take i)+q.2.1,q.2.2)
  |none=>ad
 |.p (.arr _ s f),i::r,hs=>match hs with
  |.el y::hs'=>(Yd (.p y) r hs').map λq=>((f[i]? =ab y)::q.1,i*s+q.2.1,q.2.2)
  |_=>ad
 |.agg f,i::r,hs=>match f[i]? with
  |some x=>(Yd x r hs).map λq=>(q.1,Dv.sizes (f.take i)+q.2.1,q.2.2)
  |none=>ad
 |.arr _ s f,i::r,hs=>match f[i]? with
  |some x=>(Yd x r hs).map λq=>(q.1,i*s+q.2.1,q.2.2)
  |none=>ad
 |_,_,_=>ad
def Wi(new:Dv):Dv->yL Nat->yL ao->yO Dv
 |_,[],_=>ab new
 |.p (.agg f),i::r,hs=>match f[i]? with
  |some x=>match Wi new (.p x) r hs with
   |some (.p y)=>ab (.p (.agg (f.set i y)))
   |some y=>ab (.agg ((f.map .p).set i y))
   |none=>ad
  |none=>ad
 |.p (.arr n s f),i::r,hs=>match hs with
  |.el y::hs'=>match Wi new (.p y) r hs' with
   |some (.p z)=>ab (.p (.arr n s (f.set i z.soft)))
   |some z=>ab (.arr n s ((f.map .p).set i z))
   |none=>ad
  |_=>ad
 |.agg f,i::r,hs=>match f[i]? with
  |some x=>(Wi new x r hs).map λy=>.agg (f.set i y)
  |none=>ad
 |.arr n s f,i::r,hs=>match f[i]? with
  |some x=>(Wi new x r hs).map λy=>.arr n s (f.set i y)
  |none=>ad
 |_,_,_=>ad
def gi(P:yg)(t:yc)(d:Dv):Bool:=
 P.cellsOf t==d.size&&XB P t==d.isAgg&&(P.underlying t).isSome&&(P.info? t).isSome
def dG:yO aq->yO aq
 |some (.var d _)=>ab (.var d ae)
 |some (.row v s _ e d)=>ab (.row v s ae e d)
 |x=>x
def bH(P:yg)(o:yj)(ts:yL Dv)(H:yL aq)(hs:yL ao):nj:=
 match o.op with
 |.load t a=>match aF P ts 0 a with
  |.aj id off j=>match H[id]? with
   |some (.var d _)=>match Yd d j hs with
    |some (C,f,sub,hs')=>if gi P t sub then ab (C++[f=off],sub,hs') else ad
    |none=>ad
   |_=>ad
  |.aZ id v off j=>match H[id]? with
   |some (.row z _ _ _ d)=>match Yd d j hs with
    |some (C,f,sub,hs')=>if gi P t sub&&z==v then ab (C++[f=off],sub,hs') else ad
    |none=>ad
   |_=>ad
  |_=>ad
 |.slice t x lo G ad=>match P.underlying t,aF P ts t x,gA P ts lo,gA P ts G,hs with
  |some (.slice e),.rv id v s m n,ab l,ab (ab h),.raw::hs'=>match H[id]? with
   |some (.row z A _ _ d)=>match aR d A with
    |some N=>if P.cellsOf e=s&&(P.info? e).isSome&&z==v&&A==s&&A !=0 then ab ([0<=l.getD 0,l.getD 0<=h,m+h.toNat<=N],.rv id v s (m+(l.getD 0).toNat) (h.toNat - (l.getD 0).toNat),hs') else ad
    |none=>ad
   |_=>ad
  |some (.array n e),.aj id off j,ab l,ab h,.eD::hs'=>match H[id]? with
   |some (.var d af)=>match Yd d j hs' with
    |some (C,f,.p (.arr I s J),y)=>
     if n=I&&P.cellsOf e=s&&(P.info? e).isSome&&n<=maxLen then ab (C++[f=off]++YQ n l h,.p (.sl (ab ae) s (Vp J l h)),y) else ad
    |_=>ad
   |_=>ad
  |_,_,_,_,_=>ad
 |.lookup t x ix F=>match P.underlying t,aF P ts t x with
  |some (.map g E),.mp id=>match aF P ts g ix,H[id]?,hs with
   |.p k,ab (.map _ bS),.el v::hs'=>if lZ P g then ab ([bv P 20 g k,jc P g bS,Vi bS k (ab v)],if F then .bp [.p v,.p (.bool ae)] else .p v,hs') else ad
   |.p k,ab (.map _ bS),.raw::hs'=>if lZ P g&&BB P E then
     ab ([bv P 20 g k,jc P g bS,Vi bS k ad],if F then .bp [bg P E,.p (.bool af)] else bg P E,hs') else ad
   |_,_,_=>ad
  |_,_=>ad
 |.call c=>match c.callee with
  |.builtin .len=>match c.args.toList,c.argTypes.toList with
   |[x],[t]=>match P.underlying t,aF P ts t x with
    |some (.map _ _),.mp id=>match H[id]? with
     |some (.map _ bS)=>ab ([],.p (.int .i64 (bS.length:Int)),hs)
     |_=>ad
    |_,_=>ad
   |_,_=>ad
  |_=>ad
 |_=>ad
def bc(ids:yL Nat)(id:Nat):yO Nat:=ids.idxOf? id
def aV(ids:yL Nat)(n:Nat)(j:Nat):yO Nat:=if j < ids.length then ids[j]? else ab (n+(j - ids.length))
def aP(H:yL aq)(all:yL Nat):yL Nat->yO (yL aq)
 |[]=>ab []
 |id::r=>match (H[id]?).bind (aq.rn (bc all)),aP H all r with
  |some e,ab f=>ab (e::f)
  |_,_=>ad
def aA{α:Type}:yL α->yL Nat->yL α->yL α
 |H,[],Hb=>H++Hb
 |H,id::r,e::Hb=>aA (H.set id e) r Hb
 |H,_::_,[]=>H
def once:yL Nat->Bool
 |[]=>ae
 |x::r=> !r.contains x&&once r
def Dv.cW(d:Dv):Dv:=
 match d.flat with
 |some x=>.p x
 |none=>d
def jf(yQ:yL Nat)(d:Dv)(new:Dv):yO Dv:=
 match d with
 |.p _=>ab new.cW
 |_=>match yQ with
  |[]=>ab new.cW
  |_=>ab new
def oT(xs ys:yL Pl)(lo:Nat):yL Pl:=xs.take lo++(ys++xs.drop (lo+ys.length))
def iM(P:yg)(s:Nat)(t:yc)(H:yL aq)(hs:yL ao)(d:Dv):yO (yL Prop×yL Pl×yL ao):=
 match d with
 |.view id off j h lo n=>match P.underlying t,H[id]? with
  |some (.slice _),ab (.var l _)=>match Yd l j hs with
   |some (C,g,.p (.arr N f zs),hs')=>if h=s&&f=s then ab (C++[g=off,lo+n<=N],(zs.drop lo).take n,hs') else ad
   |_=>ad
  |_,_=>ad
 |.rv id v h lo n=>match P.underlying t,H[id]? with
  |some (.slice _),ab (.row m f _ _ (.p (.arr N y zs)))=>if h=s&&f=s&&y=s&&m==v then ab ([lo+n<=N],(zs.drop lo).take n,hs) else ad
  |_,_=>ad
 |d=>(hP P s t d).map λz=>([],z,hs)
def jB(d:Dv)(H:yL aq)(hs:yL ao):uD:=
 match d with
 |.view id off m s lo n=>match H[id]? with
  |some (.var l _)=>match Yd l m hs with
   |some (C,f,.p (.arr y h g),hs')=>if h=s then ab (C++[f=off,lo+n<=y],.p (.sl (ab ae) s ((g.drop lo).take n)),H.set id (.var l af),hs') else ad
   |_=>ad
  |_=>ad
 |.rv id v s lo n=>match H[id]? with
  |some (.row z h _ e (.p (.arr N j g)))=>if h=s&&j=s&&z==v then ab ([lo+n<=N],.p (.sl ad s ((g.drop lo).take n)),H.set id (.row v s af e (.p (.arr N s g))),hs) else ad
  |_=>ad
 |_=>ad
def Xr:Dv->yL Nat->Nat->Dv->yO Dv
 |.p (.sl (ab af) h []),[],s,f=>if h=s then ab f else ad
 |.p (.agg g),i::r,s,f=>match g[i]? with
  |some x=>(Xr (.p x) r s f).map λy=>.agg ((g.map Dv.p).set i y)
  |none=>ad
 |.agg g,i::r,s,f=>match g[i]? with
  |some x=>(Xr x r s f).map λy=>.agg (g.set i y)
  |none=>ad
 |_,_,_,_=>ad
def Yx(d:Dv)(n:Nat):yL ao->Dv×yL aq×yL ao
 |.cq g s e::hs=>match Xr d g s (.own n ad s []) with
  |some f=>((Yx f (n+1) hs).1,.log s e []::(Yx f (n+1) hs).2.1,(Yx f (n+1) hs).2.2)
  |none=>(d,[],.cq g s e::hs)
 |hs=>(d,[],hs)
def nr(d:Dv):Dv:=
 match d.plain with
 |some y=>.p y
 |none=>d
def cX(P:yg)(o:yj)(ts:yL Dv)(H:yL aq)(hs:yL ao):uD:=
 match o.op with
 |.assign x=>match hs with
  |.fresh T::hs'=>if o.dst=ab T then match P.underlying o.type,aF P ts o.type x with
    |some (.slice e),.p (.sl (ab af) _ [])=>match P.info? e with
     |some i=>if cu i&&i.size !=0 then ab ([],.own H.length ad i.size [],H++[.log i.size e []],hs') else ad
     |none=>ad
    |_,_=>ad
   else ad
  |.jy T::hs'=>if o.dst=ab T then match P.underlying o.type,aF P ts o.type x with
    |some (.slice e),.p (.sl (ab af) _ [])=>match P.info? e with
     |some i=>if cu i&&i.size !=0 then ab ([],.rv H.length 0 i.size 0 0,H++[.row 0 i.size ae e (.p (.arr 0 i.size []))],hs') else ad
     |none=>ad
    |_,_=>ad
   else ad
  |.still T::hs'=>if o.dst=ab T then jB (aF P ts o.type x) H hs' else ad
  |_=>ad
 |.move x=>match hs with
  |.still T::hs'=>if o.dst=ab T then jB (aF P ts o.type x) H hs' else ad
  |_=>ad
 |.makeSlice t l c=>match P.underlying t,aF P ts 0 l,aF P ts 0 c with
  |some (.slice e),.p (.int .i64 n),.p (.int .i64 U)=>match P.info? e,hs with
   |some i,.own::hs'=>if cu i&&i.size !=0 then ab ([n=0,0<=U,U.toNat*i.bytes<=Zt,U.toNat<=maxLen],.own H.length (ab ae) i.size [],H++[.log i.size e []],hs') else ad
   |some i,.arr::hs'=>if cu i&&i.size !=0 then ab ([n=0,0<=U,U.toNat*i.bytes<=Zt,U.toNat<=maxLen],.rv H.length 0 i.size 0 0,H++[.row 0 i.size ae e (.p (.arr 0 i.size []))],hs') else ad
   |some i,.raw::hs'=>match bg P e with
    |.p z=>if cu i&&i.size=1&&z.size=1&& !z.isAgg then ab ([U=n,0<=n,n.toNat*i.bytes<=Zt,n.toNat<=maxLen],.view H.length 0 [] 1 0 n.toNat,H++[.var (.p (.arr n.toNat 1 (yx n.toNat z))) ae],hs') else ad
    |_=>ad
   |_,_=>ad
  |_,_,_=>ad
 |.makeMap t ad=>ab ([],.mp H.length,H++[.map t []],hs)
 |.mapUpdate t m k x=>match P.underlying t,aF P ts t m with
  |some (.map kt et),.mp id=>match aF P ts kt k,(aF P ts et x).flat,H[id]?,hs with
   |.p k,ab v,ab (.map T bS),.bS l::hs'=>if lZ P kt then ab ([bv P 20 kt k,jc P kt bS,gz bS k v.soft l],.an,H.set id (.map T l),hs') else ad
   |_,_,_,_=>ad
  |_,_=>ad
 |.alloc t=>match P.info? t with
  |some i=>match (Yx (bg P t) (H.length+1) hs).2.2 with
   |.raw::hs'=>if cu i&&gi P t (bg P t)&&(bg P t).bF then ab ([],.aj H.length 0 [],H++.var (Yx (bg P t) (H.length+1) hs).1 ae::(Yx (bg P t) (H.length+1) hs).2.1,hs') else ad
   |_=>ad
  |none=>ad
 |.box t x=>
  match (Yx (nr (aF P ts t x)) (H.length+1) hs).2.2 with
  |.raw::hs'=>if(nr (aF P ts t x)).bF then ab ([],.aj H.length 0 [],H++.var (Yx (nr (aF P ts t x)) (H.length+1) hs).1 ae::(Yx (nr (aF P ts t x)) (H.length+1) hs).2.1,hs') else ad
  |_=>ad
 |.store t a x=>match aF P ts 0 a,aF P ts t x with
  |.aj id off J,v=>match H[id]? with
   |some (.var d ae)=>match Yd d J hs with
    |some (C,E,sub,hs')=>match jf J d v with
     |some F=>match Wi F d J hs with
      |some X=>if F.bF&&F.size==sub.size&&P.cellsOf t==F.size&&(P.info? t).isSome&&F.isAgg==sub.isAgg then(match (Yx X H.length hs').2.2 with
       |.raw::M=>ab (C++[E=off],.an,H.set id (.var (Yx X H.length hs').1 ae)++(Yx X H.length hs').2.1,M)
       |_=>ad) else ad
      |none=>ad
     |none=>ad
    |none=>ad
   |_=>ad
  |.aZ id v off J,w=>match H[id]? with
   |some (.row W s ae e d)=>match Yd d J hs with
    |some (C,E,sub,hs')=>match jf J d w with
     |some F=>match Wi F d J hs with
      |some X=>if F.bF&&F.size==sub.size&&P.cellsOf t==F.size&&(P.info? t).isSome&&F.isAgg==sub.isAgg&&W==v&&aR X s==aR d s then
        ab (C++[E=off],.an,H.set id (.row v s ae e X),hs') else ad
      |none=>ad
     |none=>ad
    |none=>ad
   |_=>ad
  |_,_=>ad
 |.buildSlice t len parts=>match hs with
  |.fresh id::hs'=>match P.underlying t,H[id]? with
   |some (.slice e),ab (.row v s st Q dd)=>match P.info? e,XI P ts e (P.cellsOf e) len parts.toList with
    |some i,ab A=>if cu i&&i.size !=0&&len*i.size<=16777216&&Q==e&&s==i.size then ab ([],.rv id (v+1) i.size 0 len,H.set id (.row (v+1) i.size ae e (.p (.arr len i.size (A.map Pl.soft)))),hs') else ad
    |_,_=>ad
   |_,_=>ad
  |.arr::hs'=>match P.underlying t with
   |some (.slice e)=>match P.info? e,XI P ts e (P.cellsOf e) len parts.toList with
    |some i,ab A=>if cu i&&i.size !=0&&len*i.size<=16777216 then ab ([],.rv H.length 0 i.size 0 len,H++[.row 0 i.size ae e (.p (.arr len i.size (A.map Pl.soft)))],hs') else ad
    |_,_=>ad
   |_=>ad
  |.own::hs'=>match P.underlying t with
   |some (.slice e)=>match P.info? e,XI P ts e (P.cellsOf e) len parts.toList with
    |some i,ab A=>if cu i&&i.size !=0&&len*i.size<=16777216 then ab ([],.own H.length (ab ae) i.size (A.map Pl.soft),H++[.log i.size e (A.map Pl.soft)],hs') else ad
    |_,_=>ad
   |_=>ad
  |_=>ad
 |.slice t x lo hi ad=>match P.underlying t,aF P ts t x,gA P ts lo,gA P ts hi with
  |some (.array n e),.aj id off J,ab l,ab h=>match hs with
   |.eD::hs'=>match H[id]? with
    |some (.var d _)=>match Yd d J hs' with
     |some (C,E,.p (.arr U s A),M)=>
      if n=U&&P.cellsOf e=s&&(P.info? e).isSome&&n<=maxLen then ab (C++[E=off]++YQ n l h,.p (.sl (ab ae) s (Vp A l h)),H.set id (.var d af),M) else ad
     |_=>ad
    |_=>ad
   |_=>ad
  |some (.slice e),.rv id v s lo' n,ab l,ab (ab h)=>match hs with
   |.arr::hs'=>match H[id]? with
    |some (.row W I ae Q (.p (.arr N s2 A)))=>if P.cellsOf e=s&&(P.info? e).isSome&&W==v&&I==s&&s2==s&&I !=0&&lo'==0&&l.getD 0==0 then
      ab ([0<=h,h.toNat<=N],.rv id v s 0 h.toNat,H.set id (.row v s ae Q (.p (.arr h.toNat s (A.take h.toNat)))),hs') else ad
    |_=>ad
   |_=>ad
  |_,_,_,_=>ad
 |.call c=>match c.callee with
  |.builtin .append=>match c.args.toList,c.argTypes.toList with
   |[x,y],[t,u]=>match P.underlying t,aF P ts t x with
    |some (.slice e),.own id nn s A=>match P.info? e,iM P s u H hs (aF P ts u y),H[id]? with
     |some i,ab (C,j,hs'),ab (.log I Q zs)=>if cu i&&i.size=s&&I=s&&Q=e&&s !=0 then
       ab (C++[zs=A,(A.length+j.length)*i.bytes<=Zt,A.length+j.length<=maxLen],.own id ad s (A++j),H.set id (.log s e (A++j)),hs') else ad
     |_,_,_=>ad
    |some (.slice e),.p (.sl (ab af) _ [])=>match hs,P.info? e,hP P (P.cellsOf e) u (aF P ts u y) with
     |.own::hs',ab i,ab j=>if cu i&&i.size !=0 then
       ab ([j.length*i.bytes<=Zt,j.length<=maxLen],.own H.length ad i.size j,H++[.log i.size e j],hs') else ad
     |.arr::hs',ab i,ab j=>if cu i&&i.size !=0 then
       ab ([j.length*i.bytes<=Zt,j.length<=maxLen],.rv H.length 0 i.size 0 j.length,H++[.row 0 i.size ae e (.p (.arr j.length i.size j))],hs') else ad
     |_,_,_=>ad
    |some (.slice e),.rv id v s lo n=>match hs with
     |.bare::R=>match P.info? e,iM P (P.cellsOf e) u H R (aF P ts u y) with
      |some i,ab (C,j,hs')=>if cu i then ab (C++[j=[]],.rv id v s lo n,H,hs') else ad
      |_,_=>ad
     |.raw::R=>match P.info? e,iM P s u H R (aF P ts u y),H[id]? with
      |some i,ab (C,j,hs'),ab (.row W I st Q (.p (.arr N S A)))=>if cu i&&i.size=s&&I=s&&S=s&&Q=e&&s !=0&&W==v&&lo=0 then
        ab (C++[n<=N,(n+j.length)*i.bytes<=Zt,n+j.length<=maxLen,st=ae\/n=N],.rv id (v+1) s 0 (n+j.length),H.set id (.row (v+1) s st e (.p (.arr (n+j.length) s (A.take n++j)))),hs') else ad
      |_,_,_=>ad
     |.iH::R=>match P.info? e,iM P s u H R (aF P ts u y),H[id]? with
      |some i,ab (C,j,hs'),ab (.row W I ae Q (.p (.arr N S A)))=>if cu i&&i.size=s&&I=s&&S=s&&Q=e&&s !=0&&W==v&&lo=0 then
        ab (C++[0 < N,n+j.length<=N],.rv id v s 0 (n+j.length),H.set id (.row v s ae e (.p (.arr N s (A.take n++(j++A.drop (n+j.length)))))),hs') else ad
      |_,_,_=>ad
     |_=>ad
    |_,_=>ad
   |_,_=>ad
  |.builtin .clear=>match c.args.toList,c.argTypes.toList with
   |[x],[t]=>match P.underlying t,aF P ts t x with
    |some (.slice e),.rv id v s lo n=>match P.info? e,bg P e,H[id]? with
     |some i,.p z,ab (.row W I ae Q (.p (.arr N S A)))=>if cu i&&i.size=s&&I=s&&S=s&&W==v&&s !=0&&z.size==s then
       ab ([n=1,lo+1<=N],.bp [],H.set id (.row v s ae Q (.p (.arr N s (A.set lo z.soft)))),hs) else ad
     |_,_,_=>ad
    |_,_=>ad
   |_,_=>ad
  |.builtin .copy=>match c.args.toList,c.argTypes.toList with
   |[x,y],[t,u]=>match P.underlying t,aF P ts t x with
    |some (.slice e),.view id off J s lo n=>match hP P s u (aF P ts u y),H[id]? with
     |some j,ab (.var dd ae)=>match Yd dd J hs with
      |some (C,E,.p (.arr N I A),hs')=>match Wi (.p (.arr N I (oT A j lo))) dd J hs with
       |some dd'=>if I=s&&P.cellsOf e=s&&(P.info? e).isSome then ab (C++[E=off,j.length<=n,lo+n<=N],.p (.int .i64 (j.length:Int)),H.set id (.var dd' ae),hs') else ad
       |none=>ad
      |_=>ad
     |_,_=>ad
    |_,_=>ad
   |_,_=>ad
  |.value f=>match aF P ts 0 f,hs with
   |.fn g cap,.call r H' ids::hs'=>
    if iL P (fV g)&&c.args.size==c.argTypes.size&&once ids&&ids.length<=H'.length then
     match Dv.bC (bc ids) (YR P ids ts c g cap),aP H ids ids,r.rn (aV ids H.length),aq.bC (aV ids H.length) H' with
     |some G,ab Hin,ab r',ab Hb=>ab ([ce P (fV g) G Hin r H'],r',aA H ids Hb,hs')
     |_,_,_,_=>ad
    else ad
   |_,_=>ad
  |.invoke Y Z=>match aF P ts 0 Y,hs with
   |.iface t x,.iI g::.call r H' ids::hs'=>
    if iL P g&&c.args.size==c.argTypes.size&&once ids&&ids.length<=H'.length then
     match Dv.bC (bc ids) (x.cr ids::YR P ids ts c 0 []),aP H ids ids,r.rn (aV ids H.length),aq.bC (aV ids H.length) H' with
     |some G,ab Hin,ab r',ab Hb=>ab ([oQ P t Z g,ce P g G Hin r H'],r',aA H ids Hb,hs')
     |_,_,_,_=>ad
    else ad
   |_,_=>ad
  |_=>ad
 |_=>ad
def cD(P:yg)(o:yj)(ts:yL Dv)(H:yL aq)(hs:yL ao):uD:=
 match bj P o ts hs with
 |some (C,d,hs')=>ab (C,d,H,hs')
 |none=>match bH P o ts H hs with
  |some (C,d,hs')=>ab (C,d,H,hs')
  |none=>cX P o ts H hs
def fS(ts:yL Dv)(dst:yO Tmp)(d:Dv):yL Dv:=
 match dst with
 |some i=>ts.set i d
 |none=>ts
def jg(dst:yO Tmp)(d:Dv)(hs:yL ao):yL Prop×Dv×yL ao:=([],d,hs)
def dk(P:yg)(ops:Array yj)(o:yj)(ts:yL Dv)(H:yL aq)(hs:yL ao):uD:=
 match o.guard with
 |none=>(cD P o ts H hs).map λ(C,d,H',hs')=>(C++(jg o.dst d hs').1,(jg o.dst d hs').2.1,H',(jg o.dst d hs').2.2)
 |some (j,g)=>match ((ops[j]?).bind (·.dst)).map λt=>ts.getD t .an,hs with
  |some (.p (.bool t)),.b β::hs'=>
   if β=g then(cD P o ts H hs').map λ(C,d,H',f)=>((t=β)::C++(jg o.dst d f).1,(jg o.dst d f).2.1,H',(jg o.dst d f).2.2)
   else ab ([t=β],.bp [],H,hs')
  |some (.bp []),.raw::hs'=>ab ([],.bp [],H,hs')
  |_,_=>ad
def cA(P:yg)(ops:Array yj):yL yj->yL Dv->yL aq->yL ao->yO (yL Prop×yL Dv×yL aq×yL ao)
 |[],ts,H,hs=>ab ([],ts,H,hs)
 |o::h,ts,H,hs=>match dk P ops o ts H hs with
  |some (C,d,H',hs')=>match cA P ops h (fS ts o.dst d) H' hs' with
   |some (C',g,H'',f)=>ab (C++C',g,H'',f)
   |none=>ad
  |none=>ad
def looks(ops:Array yj)(o:yj):yL Nat:=
 (o.op.operands.toList.filterMap λx=>match x with|.tmp t=>ab t|_=>ad)++
 (match o.guard with|some (g,_)=>((ops[g]?).bind (·.dst)).toList|none=>[])
def aI(keep:yL Nat):Nat->yL Dv->yL Dv
 |_,[]=>[]
 |i,d::r=>(if keep.contains i then d else .an)::aI keep (i+1) r
def bM(P:yg)(o:yj)(ts:yL Dv)(H:yL aq)(hs:yL ao):Nat:=
 match o.guard,hs with
 |some (_,f),.b β::hs'=>if β=f then(if(bj P o ts hs').isSome then 0 else if(bH P o ts H hs').isSome then 1 else 2) else 0
 |some _,.raw::_=>0
 |_,hs=>if(bj P o ts hs).isSome then 0 else if(bH P o ts H hs).isSome then 1 else 2
def oU(P:yg)(o:yj)(ts:yL Dv):yO Nat:=
 match o.op with
 |.load t a=>match aF P ts 0 a with
  |.aj id _ _=>ab id
  |.aZ id _ _ _=>ab id
  |_=>ad
 |.slice t x _ _ ad=>match aF P ts t x with
  |.aj id _ _=>ab id
  |_=>ad
 |.lookup t x _ _=>match aF P ts t x with
  |.mp id=>ab id
  |_=>ad
 |_=>ad
def kz(P:yg)(o:yj)(ts:yL Dv)(hs:yL ao):yO (yL Nat):=
 match o.op with
 |.assign _=>ab []
 |.move _=>ab []
 |.makeSlice _ _ _=>ab []
 |.makeMap _ ad=>ab []
 |.alloc _=>ab []
 |.box _ _=>ab []
 |.buildSlice _ _ _=>match hs with
  |.fresh id::_=>ab [id]
  |_::_=>ab []
  |[]=>ad
 |.slice t x _ _ ad=>match aF P ts t x with
  |.rv id _ _ _ _=>ab [id]
  |_=>ab []
 |.store t x y=>match aF P ts 0 x with
  |.aj id _ _=>ab [id]
  |.aZ id _ _ _=>ab [id]
  |_=>ad
 |.call c=>match c.callee with
  |.builtin .append=>match c.args.toList,c.argTypes.toList with
   |[x,y],[t,u]=>match aF P ts t x with
    |.own id _ _ _=>ab [id]
    |.rv id _ _ _ _=>ab [id]
    |.p _=>ab []
    |_=>ad
   |_,_=>ad
  |.value _=>match hs with
   |.call _ _ ids::_=>ab ids
   |_=>ad
  |.invoke _ _=>match hs with
   |.iI _::.call _ _ ids::_=>ab ids
   |_=>ad
  |_=>ad
 |_=>ad
structure Rec where
 hs:List ao
 C:List Prop
 d:Dv
 H:List aq
 H':List aq
 hs':List ao
 bP:Nat
 rd:Option Nat
 tc:Option (List Nat)
 push:Bool
 loc:Bool
 ex:Bool
def kA(o:yj):Bool:=match o.op with
 |.slice _ _ _ _ _=>ae
 |_=>af
def nu(r:Dv)(Hn:yL aq)(ids:yL Nat):Bool:=Hn.length==ids.length&&(r.rn (λj=>ids[j]?)).isSome&&(aq.bC (λj=>ids[j]?) Hn).isSome
def kX(o:yj)(hs:yL ao):Bool:=o.guard.isNone&&match o.op with
 |.call c=>match c.callee with
  |.value _=>match hs with
   |.call r Hn ids::_=>nu r Hn ids
   |_=>af
  |.invoke _ _=>match hs with
   |.iI _::.call r Hn ids::_=>nu r Hn ids
   |_=>af
  |_=>af
 |_=>af
def jh(o:yj)(hs:yL ao)(n:Nat):Bool:=o.guard.isNone&&match o.op with
 |.alloc _=>ae
 |.call c=>match c.callee with
  |.value _=>match hs with
   |.call r Hn ids::_=>ids.isEmpty&&nu r Hn [n]
   |_=>af
  |_=>af
 |_=>af
def qD(P:yg)(o:yj)(ts:yL Dv):yO Nat:=oU P o ts
def kY(P:yg)(o:yj)(ts:yL Dv)(hs:yL ao):yO (yL Nat):=if o.guard.isNone then kz P o ts hs else ad
def nv(P:yg)(ops:Array yj):yL yj->yL Dv->yL aq->yL ao->yO (yL Prop×yL Rec×yL Dv×yL aq×yL ao)
 |[],ts,H,hs=>ab ([],[],ts,H,hs)
 |o::h,ts,H,hs=>match dk P ops o (aI (looks ops o) 0 ts) H hs with
  |some (C,d,H',hs')=>match nv P ops h (fS ts o.dst d) H' hs' with
   |some (C',rs,g,H'',f)=>ab (C++C',⟨hs,C,d,H,H',hs',bM P o (aI (looks ops o) 0 ts) H hs,qD P o (aI (looks ops o) 0 ts),kY P o (aI (looks ops o) 0 ts) hs,jh o hs H.length,kX o hs,kA o⟩::rs,g,H'',f)
   |none=>ad
  |none=>ad
def nw(A:yL Nat)(i:Nat)(o:yj):Nat:=
 o.after.toList.foldl (λm e=>if Region.binds .any e&&ag (e.on < i) then m|||(1 <<< e.on)|||A.getD e.on 0 else m) 0
def SA:yL yj->Nat->yL Nat->yL Nat
 |[],_,A=>A
 |o::r,i,A=>SA r (i+1) (A++[nw A i o])
def BD(ops:yL yj):yL Nat:=SA ops 0 []
def QU(l:yL yj):Nat->Bool
 |i=>match l with
  |[]=>ae
  |o::r=>(o.after.toList.all λe=> !Region.binds .any e || decide (e.on < i))&&QU r (i+1)
def aT(l:yL yj)(i:Nat):yO Tmp:=(l[i]?).bind (·.dst)
noncomputable def ZKv(id:Nat)(q:Rec):Bool:=@decide (dG (q.H'[id]?)=dG (q.H[id]?)) (Classical.propDecidable _)
noncomputable def mc(rs:yL Rec)(i j:Nat):Bool:=
 match rs[i]?,rs[j]? with
 |some r,ab q=>(match r.rd with
  |some id=>ag (id < q.H.length)&&ag (id < r.H.length)&&(if r.ex=ae then q.push else((match q.tc with|some l=> !l.contains id|none=>af) || ZKv id q))
  |none=>af)
 |_,_=>af
def uG(rs:yL Rec)(c:Nat)(r:Rec):Bool:=r.loc || (r.push&&r.H'.length==r.H.length+1&&(rs.take c).all λq=>ag (q.H.length<=r.H.length))
def kB(rs:yL Rec)(c i j:Nat):Bool:=((rs[c]?).map (uG rs c)).getD af&&((i==c&&ag (c < j)&&((rs[j]?).map (·.push)).getD af) || (j==c&&ag (c < i)&&((rs[i]?).map (·.push)).getD af))
noncomputable def uH(ops:Array yj)(rs:yL Rec):Bool:=
 let f:=rs.map (·.bP);let l:=ops.toList;let A:=BD l;let n:=l.length
 (f.length==n)&&QU l 0&&
 ((yo n).all λi=>match l[i]? with|some o=>A.getD i 0==nw A i o|none=>ae)&&
 ((yo n).all λi=>(yo n).all λj=>i==j || aT l i==ad || !(aT l i==aT l j))&&
 ((yo n).all λi=>match l[i]? with
   |some o=>let k:=looks ops o
    (yo n).all λj=>match aT l j with
      |some t=>i==j || !(k.contains t) || (if j < i then(A.getD i 0).testBit j else(A.getD j 0).testBit i)
      |none=>ae
   |none=>ae)&&
 ((yo (n+1)).any λc=>(yo n).all λi=>f.getD i 0==0 || (yo n).all λj=>i==j || !(f.getD j 0==2) || (if j < i then(A.getD i 0).testBit j else(A.getD j 0).testBit i) || (f.getD i 0==1&&mc rs i j) || kB rs c i j)
noncomputable def uI(P:yg)(ops:Array yj)(ts:yL Dv)(H:yL aq)(hs:yL ao):yO (yL Prop×yL Dv×yL aq×yL ao):=
 if P.follows .mixedOrders then
  match nv P ops ops.toList ts H hs with
  |some (C,rs,f,H',hs')=>if uH ops rs then ab (C,f,H',hs') else ad
  |none=>ad
 else ad
def qE(ts:yL Dv):yL Nat->yL Dv
 |[]=>ts
 |i::r=>qE (ts.set i .an) r
abbrev ZNz:=yO (yL Prop×Ex×yL Dv×yL aq×yL ao)
noncomputable def ev(P:yg):Code->yL Dv->yL aq->yL ao->ZNz
 |.skip,ts,H,hs=>ab ([],.normal,ts,H,hs)
 |.label _,ts,H,hs=>ab ([],.normal,ts,H,hs)
 |.region _ ops h,ts,H,hs=>if h then(uI P ops ts H hs).map λ(C,f,H',hs')=>(C,.normal,f,H',hs') else(cA P ops ops.toList ts H hs).map λ(C,f,H',hs')=>(C,.normal,f,H',hs')
 |.seq x y,ts,H,hs=>match ev P x ts H hs with
  |some (C,.normal,f,H',hs')=>match ev P y f H' hs' with
   |some (C',j,l,H'',m)=>ab (C++C',j,l,H'',m)
   |none=>ad
  |r=>r
 |.cond c x y,ts,H,hs=>match aF P ts 0 c,hs with
  |.p (.bool t),.b ae::hs'=>(ev P x ts H hs').map λ(C,r)=>((t=ae)::C,r)
  |.p (.bool t),.b af::hs'=>(ev P y ts H hs').map λ(C,r)=>((t=af)::C,r)
  |_,_=>ad
 |.block id g,ts,H,hs=>match ev P g ts H hs with
  |some (C,.exit z,f,H',hs')=>ab (C,if z=id then .normal else .exit z,f,H',hs')
  |r=>r
 |.loop g,ts,H,hs=>match hs with
  |.loop A j f H'::hs'=>if j=.normal then ad else ab ([Xv P (.loop g) (qE ts A) H j f H'],j,f,H',hs')
  |_=>ad
 |.scope g,ts,H,hs=>ev P g ts H hs
 |.exit id,ts,H,hs=>ab ([],.exit id,ts,H,hs)
 |.ret,ts,H,hs=>ab ([],.ret,ts,H,hs)
 |_,_,_,_=>ad
def gB(P:yg)(ts:yL Dv)(H:yL aq):yL ResultVar->yL ao->yO (yL Prop×yL Dv)
 |[],_=>ab ([],[])
 |.tmp t::r,hs=>(gB P ts H r hs).map λq=>(q.1,ts.getD t .an::q.2)
 |.cell a g::r,hs=>match ts.getD a .an with
  |.aj id off h=>match H[id]? with
   |some (.var d _)=>match Yd d h hs with
    |some (C,f,sub,hs')=>if gi P g sub then(gB P ts H r hs').map λq=>(C++[f=off]++q.1,sub::q.2) else ad
    |none=>ad
   |_=>ad
  |_=>ad
def kZ:yL Dv->Dv
 |[d]=>d
 |f=>.bp f
def fin(P:yg)(fn:Func)(ts:yL Dv)(H:yL aq)(k:Nat)(keep:yL Nat)(hs:yL ao):yO (yL Prop×Dv×yL aq):=
 match gB P ts H fn.results.toList hs with
 |some (C,f)=>
  let L:=yo k++keep
  match once L,(kZ (f.map Dv.arg)).rn (bc L),(kZ f).rn (bc L),aP H L L with
  |true,_,ab r,ab H'=>ab (C,r,H')
  |true,ab r,ad,ab H'=>ab (C,r,H')
  |_,_,_,_=>ad
 |none=>ad
def aX:yL Prop->Prop
 |[]=>True
 |p::r=>p/\aX r
end Go.Ev
end
section
namespace Go.Ev
section
variable{σ:Sg}{v:yh}
theorem ZD{k:IntKind}{n:Int}(h:yJ σ (.p (.int k n)) v):v=.int k n:=by simpa[yJ,Dv.isAgg,Pl.isAgg,yH,aB] using h
theorem Yn{b:Bool}(h:yJ σ (.p (.bool b)) v):v=.bool b:=by simpa[yJ,Dv.isAgg,Pl.isAgg,yH,aB] using h
theorem oV{b:ByteArray}(h:yJ σ (.p (.str b)) v):v=.string b:=by simpa[yJ,Dv.isAgg,Pl.isAgg,yH,aB] using h
theorem qF(h:yJ σ (.p .bX) v):v=.pointer ad:=by simpa[yJ,Dv.isAgg,Pl.isAgg,yH,aB] using h
theorem BE(h:yJ σ (.p .fn0) v):v=.nilFunc:=by simpa[yJ,Dv.isAgg,Pl.isAgg,yH,aB] using h
theorem Zx(k:IntKind)(n:Int):yJ σ (.p (.int k n)) (.int k n):=by simp[yJ,Dv.isAgg,Pl.isAgg,yH,aB]
theorem Yk(b:Bool):yJ σ (.p (.bool b)) (.bool b):=by simp[yJ,Dv.isAgg,Pl.isAgg,yH,aB]
theorem Yr:yJ σ .an v:=by simp[yJ,Dv.isAgg,yH]
theorem ZY{d:Dv}(ha:d.isAgg=ae):yJ σ d v↔∃cs:Array yh,v=.agg cs/\yH σ d cs.toList:=by
 simp[yJ,ha]
theorem Zh{d:Dv}(ha:d.isAgg=af):yJ σ d v↔yH σ d [v]:=by
 simp[yJ,ha]
theorem X2{nn:yO Bool}{s:Nat}{xs:yL Pl}(h:yJ σ (.p (.sl nn s xs)) v):
 aW s xs/\∃A c,v=.slice A xs.length c/\xs.length<=c/\c<=maxLen/\jb nn A/\(A=ad->c=0)/\
  (xs≠[]->∃b o us,A=ab ⟨b,o,ad⟩/\ar σ.w σ.bf xs us/\Ww σ.w σ.bf b o us):=by
 rw[Zh (by rfl)]at h;simpa[yH,aB] using h
theorem Yy{nn:yO Bool}{s:Nat}{xs:yL Pl}{A:yO Addr}{c:Nat}(h1:aW s xs)(h2:xs.length<=c)(h3:c<=maxLen)(h4:jb nn A)(h5:A=ad->c=0)
 (h6:xs≠[]->∃b o us,A=ab ⟨b,o,ad⟩/\ar σ.w σ.bf xs us/\Ww σ.w σ.bf b o us):yJ σ (.p (.sl nn s xs)) (.slice A xs.length c):=by
 rw[Zh (by rfl)];simp only[yH,aB];exact⟨h1,A,c,rfl,h2,h3,h4,h5,h6⟩
theorem QV{id s:Nat}{nn:yO Bool}{xs:yL Pl}(h:yJ σ (.own id nn s xs) v):
 aW s xs/\∃A c,v=.slice A xs.length c/\xs.length<=c/\c<=maxLen/\jb nn A/\(A=ad->c=0)/\
  (xs≠[]->∃b o us,A=ab ⟨b,o,ad⟩/\ar σ.w σ.bf xs us/\Ww σ.w σ.bf b o us)/\dn σ id s xs.length A c:=by
 rw[Zh (by rfl)]at h;simpa[yH] using h
theorem QW{id s:Nat}{nn:yO Bool}{xs:yL Pl}(h:yJ σ (.own id nn s xs) v):yJ σ (.p (.sl nn s xs)) v:=by
 obtain⟨f,A,c,rfl,g,j,l,m,y,_⟩:=QV h;exact Yy f g j l m y
end
mutual
theorem Wm{w:yr}{S:Nat->Nat->Prop}:∀(x:Pl)(vs:yL yh),aB w S x vs->vs.length=x.size
 |.int _ _,_,h=>by simp only[aB]at h;subst h;rfl
 |.bool _,_,h=>by simp only[aB]at h;subst h;rfl
 |.str _,_,h=>by simp only[aB]at h;subst h;rfl
 |.bX,_,h=>by simp only[aB]at h;subst h;rfl
 |.fn0,_,h=>by simp only[aB]at h;subst h;rfl
 |.eG,_,h=>by simp only[aB]at h;subst h;rfl
 |.cC,_,h=>by simp only[aB]at h;subst h;rfl
 |.gx _,_,h=>by simp only[aB]at h;subst h;rfl
 |.agg f,vs,h=>by
  simp only[aB]at h
  simpa[Pl.size] using aL f vs h
 |.arr n s f,vs,h=>by
  simp only[aB]at h;obtain⟨g,j,l⟩:=h;have:=aL f vs l;rw[this,Pl.size, <-g]
  exact aN j
 |.sl _ _ _,_,h=>by
  simp only[aB]at h;obtain⟨_,A,c,h,_⟩:=h
  subst h;rfl
 |.iface _ _,_,h=>by
  simp only[aB]at h;obtain⟨v,h,_⟩:=h;subst h;rfl
theorem aL{w:yr}{S:Nat->Nat->Prop}:∀(xs:yL Pl)(vs:yL yh),ar w S xs vs->vs.length=Pl.sizes xs
 |[],_,h=>by simp only[ar]at h;subst h;rfl
 |x::xs,vs,h=>by
  simp only[ar]at h;obtain⟨g,f,rfl,j,l⟩:=h;rw[yl,Wm x g j,aL xs f l,Pl.sizes]
theorem aN{s:Nat}:∀{xs:yL Pl},aW s xs->Pl.sizes xs=xs.length*s
 |[],_=>by simp[Pl.sizes]
 |x::xs,h=>by
  rw[Pl.sizes,h x (yau ..),aN (λy f=>h y (yav _ f)),yaf,yba];omega
end
theorem Z7{w:yr}{S:Nat->Nat->Prop}{xs ys:yL Pl}{us vs:yL yh}(h:ar w S xs us)(k:ar w S ys vs):ar w S (xs++ys) (us++vs):=by
 induction xs generalizing us with
 |nil=>simp only[ar]at h;subst h;simpa using k
 |cons x xs f=>
  simp only[ar]at h;obtain⟨a,b,rfl,g,j⟩:=h;simp only[yag,ar,yac];exact⟨a,b++vs,rfl,g,f j⟩
theorem Z8{w:yr}{S:Nat->Nat->Prop}{xs ys:yL Pl}{us:yL yh}(h:ar w S (xs++ys) us):∃a b,us=a++b/\ar w S xs a/\ar w S ys b:=by
 induction xs generalizing us with
 |nil=>exact⟨[],us,rfl,by simp[ar],h⟩
 |cons x xs f=>
  simp only[yag,ar]at h;obtain⟨a,b,rfl,g,j⟩:=h;obtain⟨c,d,rfl,l,m⟩:=f j;exact⟨a++c,d,by simp,by simp only[ar];exact⟨a,c,rfl,g,l⟩,m⟩
theorem X6{s:Nat}{xs ys:yL Pl}(h:aW s xs)(k:aW s ys):aW s (xs++ys):=by
 intro x f;rcases ycm.1 f with h1|h1
 .exact h x h1
 .exact k x h1
theorem Vq{s:Nat}{xs:yL Pl}(h:aW s xs)(n:Nat):aW s (xs.take n):=λx f=>h x (ybs f)
theorem uJ{s:Nat}{xs:yL Pl}(h:aW s xs)(n:Nat):aW s (xs.drop n):=λx f=>h x (List.mem_of_mem_drop f)
theorem Ww.append{w:yr}{S:Nat->Nat->Prop}{b o:Nat}{us vs:yL yh}(h:Ww w S b o (us++vs)):Ww w S b o us/\Ww w S b (o+us.length) vs:=by
 constructor
 .intro j u f;exact h j u (by rw[ybe (yu.1 f).1];exact f)
 .intro j u f;have:=h (us.length+j) u (by rw[yaq (by omega)];simpa using f)
  rwa [<-Nat.add_assoc]at this
theorem SB{P:yg}{t:yc}{v:yh}{x:Pl}(h:uC P t v=ab x)(w:yr)(S:Nat->Nat->Prop):aB w S x [v]/\x.isAgg=af:=by
 unfold uC at h
 split at h <;> first
  |(cases h;done)
  |(simp only[yn]at h;subst h;refine⟨?_,rfl⟩;simp only[aB];done)
  |(simp only[yn]at h;subst h;exact⟨by simp only[aB];exact⟨λ_ f=>(by cases f),ad,0,rfl,ym _,Nat.zero_le _,RZ rfl,λ_=>rfl,λg=>absurd rfl g⟩,rfl⟩)
mutual
theorem BF{P:yg}:∀(yD:Nat)(t:yc)(vs:yL yh)(x:Pl)(r:yL yh),oR P yD t vs=ab (x,r)->∀w S,∃us,vs=us++r/\aB w S x us
 |0,_,_,_,_,h,_,_=>by simp[oR]at h
 |yD+1,t,vs,x,r,h,w,S=>by
  simp only[oR]at h;split at h
  .rename_i A _;simp only[yv,yq]at h;obtain⟨⟨l,j⟩,f,rfl,rfl⟩:=h;obtain⟨us,e,g⟩:=eI yD _ _ _ _ f w S;exact⟨us,e,by simpa[aB] using g⟩
  .rename_i n e _;simp only[yv,yq]at h;obtain⟨⟨l,j⟩,f,rfl,rfl⟩:=h;obtain⟨us,m,y,z,g⟩:=fX yD _ _ _ _ _ f w S;exact⟨us,m,by simp only[aB];exact⟨y,z,g⟩⟩
  .split at h
   .rename_i v j;simp only[yv,yq]at h;obtain⟨E,f,rfl,rfl⟩:=h;exact⟨[v],rfl,(SB f w S).1⟩
   .cases h
  .cases h
theorem eI{P:yg}:∀(yD:Nat)(ts:yL yc)(vs:yL yh)(xs:yL Pl)(r:yL yh),dp P yD ts vs=ab (xs,r)->∀w S,∃us,vs=us++r/\ar w S xs us
 |0,_,_,_,_,h,_,_=>by simp[dp]at h
 |yD+1,[],vs,xs,r,h,w,S=>by
  simp only[dp,yn,yq]at h;obtain⟨rfl,rfl⟩:=h
  exact⟨[],rfl,by simp[ar]⟩
 |yD+1,t::ts,vs,xs,r,h,w,S=>by
  simp only[dp]at h;split at h
  .rename_i x F g;simp only[yv,yq]at h;obtain⟨⟨j,l⟩,m,rfl,rfl⟩:=h;obtain⟨us,y,z⟩:=BF yD _ _ _ _ g w S;obtain⟨f,A,E⟩:=eI yD _ _ _ _ m w S;subst A;exact⟨us++f,by rw[y,yac],by simp only[ar];exact⟨us,f,rfl,z,E⟩⟩
  .cases h
theorem fX{P:yg}:∀(yD:Nat)(e:yc)(n:Nat)(vs:yL yh)(xs:yL Pl)(r:yL yh),fW P yD e n vs=ab (xs,r)->
 ∀w S,∃us,vs=us++r/\xs.length=n/\aW (P.cellsOf e) xs/\ar w S xs us
 |0,_,_,_,_,_,h,_,_=>by simp[fW]at h
 |yD+1,e,0,vs,xs,r,h,w,S=>by
  simp only[fW,yn,yq]at h;obtain⟨rfl,rfl⟩:=h
  exact⟨[],rfl,rfl,(λ_ j=>(by cases j)),by simp[ar]⟩
 |yD+1,e,n+1,vs,xs,r,h,w,S=>by
  simp only[fW]at h;split at h
  .rename_i x Q l;split at h
   .rename_i hs;simp only[yv,yq]at h;obtain⟨⟨m,z⟩,A,rfl,rfl⟩:=h;obtain⟨us,E,F⟩:=BF yD _ _ _ _ l w S;obtain⟨f,G,I,J,M⟩:=fX yD _ _ _ _ _ A w S;subst G;refine⟨us++f,by rw[E,yac],by simp[I], ?_,by simp only[ar];exact⟨us,f,rfl,F,M⟩⟩;intro y g
    cases g with
    |head=>exact hs
    |tail _ g=>exact J y g
   .cases h
  .cases h
end
theorem SC{σ:Sg}{f:yw}(g:f < big):yJ σ (.fn f []) (.func (.func f) #[] #[]):=by
 have e:fV f=f:=by
  unfold fV;rw[yW g]
 rw[Zh rfl];simp only[yH];exact⟨#[], #[],by rw[e],yW g,by simp[aH]⟩
theorem ny{P:yg}{t:yc}{v:yh}{σ:Sg}:yJ σ (oS P t v) v:=by
 unfold oS;split
 .rename_i m;split
  .rename_i x h;split
   .rename_i y;obtain⟨F,e,z⟩:=BF _ _ _ _ _ h σ.w σ.bf;rw[ZY (by simpa[Dv.isAgg] using y)];exact⟨m,rfl,by simp only[yH];rw[e];simpa using z⟩
   .exact Yr
  .exact Yr
 .rename_i f g j;split
  .rename_i l;have A:g= #[]:=by simpa using l.1
   have E:j= #[]:=by simpa using l.2.1
   subst A;subst E;exact SC l.2.2
  .exact Yr
 .split
  .rename_i x h;have:=SB h σ.w σ.bf;rw[Zh (by simpa[Dv.isAgg] using this.2)];simpa[yH] using this.1
  .exact Yr
theorem Zq{P:yg}{σ:Sg}{ts:yL Dv}{a:Act}(h:aD σ ts a)(t:yc)(x:yp):yJ σ (aF P ts t x) (a.eval x):=by
 cases x with
 |tmp i=>
  simp only[aF,Act.eval]
  cases j:ts[i]? with
  |none=>simp only[List.getD,j,Option.getD_none];exact Yr
  |some d=>simp only[List.getD,j,Option.getD_some];exact h.at_ i d j
 |const v=>exact ny
 |global g=>exact Yr
 |func f=>
  simp only[aF,Act.eval];split
  .rename_i l;exact SC l
  .exact Yr
theorem ZC4{σ:Sg}{d:Dv}{x:Pl}{v:yh}(h:d.plain=ab x)(f:yJ σ d v):yJ σ (.p x) v:=by
 unfold Dv.plain at h;split at h
 .cases h;exact f
 .cases h;exact QW f
 .cases h
mutual
theorem qG{σ:Sg}:∀(d:Dv)(x:Pl)(us:yL yh),d.flat=ab x->yH σ d us->aB σ.w σ.bf x us
 |.p y,x,us,h,f=>by rw[Dv.flat]at h;cases h;simpa[yH] using f
 |.own id M s j,x,us,h,f=>by
  rw[Dv.flat]at h;cases h;simp only[yH]at f;obtain⟨m,A,c,z,E,F,G,I,J,_⟩:=f;simp only[aB]
  exact⟨m,A,c,z,E,F,G,I,J⟩
 |.agg l,x,us,h,f=>by
  rw[Dv.flat]at h
  cases g:Dv.aS l with
  |none=>rw[g]at h;cases h
  |some j=>
   rw[g]at h;cases h;simp only[yH]at f;simp only[aB]
   exact ep l j us g f
 |.elem _,x,us,h,f=>by rw[Dv.flat]at h <;> simp_all
 |.aj _ _ _,x,us,h,f=>by rw[Dv.flat]at h <;> simp_all
 |.view _ _ _ _ _ _,x,us,h,f=>by rw[Dv.flat]at h <;> simp_all
 |.arr _ _ _,x,us,h,f=>by rw[Dv.flat]at h <;> simp_all
 |.fn _ _,x,us,h,f=>by rw[Dv.flat]at h <;> simp_all
 |.iface _ _,x,us,h,f=>by rw[Dv.flat]at h <;> simp_all
 |.bp _,x,us,h,f=>by rw[Dv.flat]at h <;> simp_all
 |.mp _,x,us,h,f=>by rw[Dv.flat]at h <;> simp_all
 |.rv _ _ _ _ _,x,us,h,f=>by rw[Dv.flat]at h <;> simp_all
 |.aZ _ _ _ _,x,us,h,f=>by rw[Dv.flat]at h <;> simp_all
 |.an,x,us,h,f=>by rw[Dv.flat]at h <;> simp_all
theorem ep{σ:Sg}:∀(f:yL Dv)(xs:yL Pl)(us:yL yh),Dv.aS f=ab xs->aM σ f us->ar σ.w σ.bf xs us
 |[],xs,us,h,g=>by rw[Dv.aS]at h;cases h;simpa[aM,ar] using g
 |d::f,xs,us,h,g=>by
  rw[Dv.aS]at h;split at h
  .rename_i x j l m;cases h;simp only[aM]at g;obtain⟨a,b,rfl,y,z⟩:=g;simp only[ar];exact⟨a,b,rfl,qG d x a l y,ep f j b m z⟩
  .cases h
end
theorem BG{d:Dv}{x:Pl}(h:d.flat=ab x):x.isAgg=d.isAgg:=by
 cases d <;> first
  |(rw[Dv.flat]at h;cases h;rfl)
  |(rename_i g;rw[Dv.flat]at h;cases f:Dv.aS g with
     |none=>rw[f]at h;cases h
     |some j=>rw[f]at h;cases h;rfl)
  |(simp[Dv.flat]at h)
theorem BH{σ:Sg}{d:Dv}{x:Pl}{v:yh}(h:d.flat=ab x)(f:yJ σ d v):yJ σ (.p x) v:=by
 have j:=BG h
 cases g:d.isAgg with
 |true=>
  rw[ZY g]at f;rw[ZY (by show x.isAgg=_;rw[j,g])];obtain⟨l,rfl,m⟩:=f
  exact⟨l,rfl,by simp only[yH];exact qG d x _ h m⟩
 |false=>
  rw[Zh g]at f;rw[Zh (by show x.isAgg=_;rw[j,g])];simp only[yH];exact qG d x _ h f
theorem SD{σ:Sg}{f:yL Dv}{v:yh}(g:yJ σ (.agg f) v):yJ σ (Dv.dJ f) v:=by
 unfold Dv.dJ
 cases h:Dv.aS f with
 |none=>exact g
 |some j=>exact BH (d:=.agg f) (by rw[Dv.flat,h];rfl) g
theorem BI{σ:Sg}{d:Dv}{v:yh}(ids:yL Nat)(f:yJ σ d v):yJ σ (d.cr ids) v:=by
 unfold Dv.cr;split
 .split
  .exact f
  .exact QW f
 .split
  .exact f
  .exact SD f
 .exact f
theorem ZH5{σ:Sg}{d:Dv}{v:yh}(f:yJ σ d v):yJ σ d.arg v:=by
 unfold Dv.arg;split
 .exact QW f
 .exact SD f
 .exact f
end Go.Ev
end
section
namespace Go.Ev
theorem nA{k:IntKind}{x:Int}(h:Wn k x):k.wrap x=x:=by
 obtain⟨f,g⟩:=h;cases k <;> simp only[IntKind.min,IntKind.max,IntKind.wrap,IntKind.signed,IntKind.bits] at* <;> simp at* <;> (try split) <;> omega
theorem Zl{A B:yL Prop}:aX (A++B)↔aX A/\aX B:=by
 induction A with
 |nil=>simp[aX]
 |cons p A f=>simp[aX,f,and_assoc]
theorem qH{k:IntKind}{x:Int}{hs hs':yL ao}{C:yL Prop}{d:Dv}(h:gy k x hs=ab (C,d,hs'))(hc:aX C)(σ:Sg):yJ σ d (.int k (k.wrap x)):=by
 unfold gy at h;split at h
 .cases h;rw[nA hc.1];exact Zx _ _
 .cases h;exact Zx _ _
 .cases h
theorem oW(n a:Nat)(h:a < 2 ^ n):(yca n (a:Int)).toNat=a:=by
 rw[BitVec.ofInt_natCast,BitVec.toNat_ofNat];exact Nat.mod_eq_of_lt h
theorem SE{k:IntKind}{x:Int}(h:Wn k x)(f:0<=x):x.toNat < 2 ^ k.bits:=by
 obtain⟨g,j⟩:=h;cases k <;> simp only[IntKind.min,IntKind.max,IntKind.signed,IntKind.bits] at* <;> simp at* <;> omega
theorem uK{op:BinOp}{k:IntKind}{x y:Int}{r:Nat}(f:uE op x.toNat y.toNat=ab r)(l:0<=x)(z:Wn k x)(m:0<=y)(A:Wn k y)(j:Wn k (r:Int)):
 bits op k x y=(r:Int):=by
 obtain⟨a,rfl⟩:=Int.eq_ofNat_of_zero_le l;obtain⟨b,rfl⟩:=Int.eq_ofNat_of_zero_le m;have g:=SE z l;have h:=SE A m;simp only[Int.toNat_natCast]at g h f;unfold uE at f;split at f
 .cases f;have e:bits .and k (a:Int) (b:Int)=k.wrap ((yca k.bits (a:Int)&&&yca k.bits (b:Int)).toNat:Int):=rfl;rw[e,BitVec.toNat_and,oW _ _ g,oW _ _ h];exact nA j
 .cases f;have e:bits .or k (a:Int) (b:Int)=k.wrap ((yca k.bits (a:Int)|||yca k.bits (b:Int)).toNat:Int):=rfl;rw[e,BitVec.toNat_or,oW _ _ g,oW _ _ h];exact nA j
 .cases f;have e:bits .xor k (a:Int) (b:Int)=k.wrap ((yca k.bits (a:Int)^^^yca k.bits (b:Int)).toNat:Int):=rfl;rw[e,BitVec.toNat_xor,oW _ _ g,oW _ _ h];exact nA j
 .cases f
theorem ZxC{P:yg}{op:BinOp}{k:IntKind}{x y:Int}{hs hs':yL ao}{C:yL Prop}{d:Dv}(h:YW op k x y hs=ab (C,d,hs'))(hc:aX C)(σ:Sg)(t:yc):
 ∃v,(binOp op t (.int k x) (.int k y)).run P σ.w=.ok v σ.w/\yJ σ d v:=by
 unfold YW at h;split at h
 .exact⟨_,by rw[binOp_add];rfl,qH h hc σ⟩
 .exact⟨_,by rw[binOp_sub];rfl,qH h hc σ⟩
 .exact⟨_,by rw[binOp_mul];rfl,qH h hc σ⟩
 .split at h
  .cases h;obtain⟨f,g,j,_⟩:=hc;have l:y≠0:=by omega
   refine⟨_, ?_,Zx k (x / y)⟩;rw[binOp_quo];simp only[Op.intDiv,l,if_false];rw[Int.tdiv_eq_ediv_of_nonneg f,nA j];rfl
  .cases h;have l:y≠0:=hc.1;refine⟨_, ?_,Zx k _⟩;rw[binOp_quo];simp only[Op.intDiv,l,if_false];rfl
  .cases h
 .split at h
  .cases h;obtain⟨f,g,_⟩:=hc;have l:y≠0:=by omega
   refine⟨_, ?_,Zx k (x % y)⟩;rw[binOp_rem];simp only[Op.intDiv,l,if_false];rw[Int.tmod_eq_emod_of_nonneg f];rfl
  .cases h;have l:y≠0:=hc.1;refine⟨_, ?_,Zx k _⟩;rw[binOp_rem];simp only[Op.intDiv,l,if_false];rfl
  .cases h
 .split at h
  .simp only[yv,yq]at h;obtain⟨r,m,rfl,rfl,rfl⟩:=h;obtain⟨f,g,j,z,A,_⟩:=hc;refine⟨_, ?_,Zx k _⟩;rw[binOp_and,intBits_and,uK m f g j z A];rfl
  .cases h;exact⟨_,by rw[binOp_and,intBits_and];rfl,Zx k _⟩
  .cases h
 .split at h
  .simp only[yv,yq]at h;obtain⟨r,m,rfl,rfl,rfl⟩:=h;obtain⟨f,g,j,z,A,_⟩:=hc;refine⟨_, ?_,Zx k _⟩;rw[binOp_or,intBits_or,uK m f g j z A];rfl
  .cases h;exact⟨_,by rw[binOp_or,intBits_or];rfl,Zx k _⟩
  .cases h
 .split at h
  .simp only[yv,yq]at h;obtain⟨r,m,rfl,rfl,rfl⟩:=h;obtain⟨f,g,j,z,A,_⟩:=hc;refine⟨_, ?_,Zx k _⟩;rw[binOp_xor,intBits_xor,uK m f g j z A];rfl
  .cases h;exact⟨_,by rw[binOp_xor,intBits_xor];rfl,Zx k _⟩
  .cases h
 .split at h
  .cases h;exact⟨_,by rw[binOp_andNot,intBits_andNot];rfl,Zx k _⟩
  .cases h
 all_goals first
  |(cases h;done)
  |(cases h
    first
     |exact⟨_,by rw[binOp_eql];rfl,Yk _⟩
     |exact⟨_,by rw[binOp_neq];rfl,Yk _⟩
     |exact⟨_,by rw[binOp_lss];rfl,Yk _⟩
     |exact⟨_,by rw[binOp_leq];rfl,Yk _⟩
     |exact⟨_,by rw[binOp_gtr];rfl,Yk _⟩
     |exact⟨_,by rw[binOp_geq];rfl,Yk _⟩)
theorem Zts{P:yg}{op:BinOp}{k yk:IntKind}{x y:Int}{hs hs':yL ao}{C:yL Prop}{d:Dv}(h:WC op k x y hs=ab (C,d,hs'))(hc:aX C)(σ:Sg):
 ∃v,(Op.shift op k x yk y).run P σ.w=.ok v σ.w/\yJ σ d v:=by
 unfold WC at h;split at h
 .cases h;obtain⟨j,g,l,_⟩:=hc;refine⟨_, ?_,Zx k _⟩;have f:¬y < 0:=by omega
  simp only[Op.shift,f,if_false];rw[yay (Nat.le_of_lt g),nA l];rfl
 .cases h;refine⟨_, ?_,Zx k _⟩;have f:¬y < 0:=by have:0<=y:=hc.1;omega
  simp only[Op.shift,f,if_false];rfl
 .cases h;obtain⟨j,g,_⟩:=hc;refine⟨_, ?_,Zx k _⟩;have f:¬y < 0:=by omega
  simp only[Op.shift,f,if_false];rw[yay g,Int.fdiv_eq_ediv_of_nonneg _ (by exact Int.le_of_lt (Int.pow_pos (by decide)))];rfl
 .cases h;refine⟨_, ?_,Zx k _⟩;have f:¬y < 0:=by have:0<=y:=hc.1;omega
  simp only[Op.shift,f,if_false];rfl
 .cases h
mutual
theorem BJ{w:yr}{S:Nat->Nat->Prop}:∀(x:Pl)(vs:yL yh),aB w S x vs->∀u,u∈vs->u.oneCell'=ae
 |.int _ _,_,h,u,f=>by simp only[aB]at h;subst h;cases ybc.1 f;rfl
 |.bool _,_,h,u,f=>by simp only[aB]at h;subst h;cases ybc.1 f;rfl
 |.str _,_,h,u,f=>by simp only[aB]at h;subst h;cases ybc.1 f;rfl
 |.bX,_,h,u,f=>by simp only[aB]at h;subst h;cases ybc.1 f;rfl
 |.fn0,_,h,u,f=>by simp only[aB]at h;subst h;cases ybc.1 f;rfl
 |.eG,_,h,u,f=>by simp only[aB]at h;subst h;cases ybc.1 f;rfl
 |.cC,_,h,u,f=>by simp only[aB]at h;subst h;cases ybc.1 f;rfl
 |.gx _,_,h,u,f=>by simp only[aB]at h;subst h;cases ybc.1 f;rfl
 |.agg g,vs,h,u,f=>by
  simp only[aB]at h
  exact cf g vs h u f
 |.arr n s g,vs,h,u,f=>by
  simp only[aB]at h
  exact cf g vs h.2.2 u f
 |.sl _ _ _,_,h,u,f=>by
  simp only[aB]at h;obtain⟨_,A,c,h,_⟩:=h
  subst h;cases ybc.1 f;rfl
 |.iface _ _,_,h,u,f=>by
  simp only[aB]at h;obtain⟨v,h,_⟩:=h;subst h;cases ybc.1 f;rfl
theorem cf{w:yr}{S:Nat->Nat->Prop}:∀(xs:yL Pl)(vs:yL yh),ar w S xs vs->∀u,u∈vs->u.oneCell'=ae
 |[],_,h,u,f=>by simp only[ar]at h;subst h;cases f
 |x::xs,vs,h,u,f=>by
  simp only[ar]at h;obtain⟨j,g,rfl,l,m⟩:=h;rcases ycm.1 f with h3|h3
  .exact BJ x j l u h3
  .exact cf xs g m u h3
end
mutual
theorem XC{σ:Sg}:∀(d:Dv)(vs:yL yh),yH σ d vs->vs.length=d.size
 |.p x,vs,h=>by simp only[yH]at h;exact Wm x vs h
 |.elem _,_,h=>by simp only[yH]at h;obtain⟨b,o,y,rfl,_⟩:=h;rfl
 |.aj _ _ _,_,h=>by simp only[yH]at h;obtain⟨b,_,_,rfl⟩:=h;rfl
 |.own _ _ _ _,_,h=>by simp only[yH]at h;obtain⟨_,A,c,rfl,_⟩:=h;rfl
 |.view _ _ _ _ _ _,_,h=>by simp only[yH]at h;obtain⟨b,c,a,_,_,rfl,_⟩:=h;rfl
 |.agg f,vs,h=>by simp only[yH]at h;simpa[Dv.size] using du f vs h
 |.arr n s f,vs,h=>by
  simp only[yH]at h;obtain⟨j,l,m⟩:=h;rw[du f vs m,Dv.size, <-j]
  exact df l
 |.fn _ _,_,h=>by simp only[yH]at h;obtain⟨z,g,rfl,_⟩:=h;rfl
 |.iface _ _,_,h=>by simp only[yH]at h;obtain⟨g,rfl,_⟩:=h;rfl
 |.bp _,_,h=>by simp only[yH]at h;obtain⟨g,rfl,_⟩:=h;rfl
 |.mp _,_,h=>by simp only[yH]at h;obtain⟨b,_,_,rfl⟩:=h;rfl
 |.rv _ _ _ _ _,_,h=>by simp only[yH]at h;obtain⟨A,c,rfl,_⟩:=h;rfl
 |.aZ _ _ _ _,_,h=>by simp only[yH]at h;obtain⟨b,o,rfl,_⟩:=h;rfl
 |.an,_,h=>by simpa[yH,Dv.size] using h
theorem du{σ:Sg}:∀(g:yL Dv)(vs:yL yh),aM σ g vs->vs.length=Dv.sizes g
 |[],_,h=>by simp only[aM]at h;subst h;rfl
 |x::j,vs,h=>by
  simp only[aM]at h;obtain⟨l,f,rfl,m,y⟩:=h;rw[yl,XC x l m,du j f y,Dv.sizes]
theorem df{s:Nat}:∀{xs:yL Dv},(∀x,x∈xs->x.size=s)->Dv.sizes xs=xs.length*s
 |[],_=>by simp[Dv.sizes]
 |x::xs,h=>by
  rw[Dv.sizes,h x (yau ..),df (λy f=>h y (yav _ f)),yaf,yba];omega
end
theorem la{w:yr}{S:Nat->Nat->Prop}{xs:yL Pl}{us:yL yh}{i:Nat}{y:Pl}(h:ar w S xs us)(f:xs[i]? =ab y):
 ∃a b c,us=a++(b++c)/\a.length=Pl.sizes (xs.take i)/\aB w S y b/\b.length=y.size/\ar w S (xs.take i) a/\ar w S (xs.drop (i+1)) c:=by
 have A:i < xs.length:=(yu.1 f).1
 have m:xs=xs.take i++(y::xs.drop (i+1)):=by
  rw[<-(yu.1 f).2,List.getElem_cons_drop,ybb]
 rw[m]at h;obtain⟨a,r,rfl,g,j⟩:=Z8 h;simp only[ar]at j;obtain⟨b,c,rfl,l,z⟩:=j;exact⟨a,b,c,rfl,aL _ _ g,l,Wm _ _ l,g,z⟩
theorem qI{σ:Sg}{xs ys:yL Dv}{us vs:yL yh}(h:aM σ xs us)(k:aM σ ys vs):aM σ (xs++ys) (us++vs):=by
 induction xs generalizing us with
 |nil=>simp only[aM]at h;subst h;simpa using k
 |cons x xs f=>
  simp only[aM]at h;obtain⟨a,b,rfl,g,j⟩:=h;simp only[yag,aM,yac];exact⟨a,b++vs,rfl,g,f j⟩
theorem ZxD{σ:Sg}{xs ys:yL Dv}{us:yL yh}(h:aM σ (xs++ys) us):∃a b,us=a++b/\aM σ xs a/\aM σ ys b:=by
 induction xs generalizing us with
 |nil=>exact⟨[],us,rfl,by simp[aM],h⟩
 |cons x xs f=>
  simp only[yag,aM]at h;obtain⟨a,b,rfl,g,j⟩:=h;obtain⟨c,d,rfl,l,m⟩:=f j;exact⟨a++c,d,by simp,by simp only[aM];exact⟨a,c,rfl,g,l⟩,m⟩
theorem md{σ:Sg}{xs:yL Dv}{us:yL yh}{i:Nat}{y:Dv}(h:aM σ xs us)(l:xs[i]? =ab y):
 ∃a b c,us=a++(b++c)/\a.length=Dv.sizes (xs.take i)/\yH σ y b/\b.length=y.size/\aM σ (xs.take i) a/\aM σ (xs.drop (i+1)) c:=by
 have m:xs=xs.take i++(y::xs.drop (i+1)):=by
  rw[<-(yu.1 l).2,List.getElem_cons_drop,ybb]
 rw[m]at h;obtain⟨a,r,rfl,f,g⟩:=ZxD h;simp only[aM]at g;obtain⟨b,c,rfl,j,z⟩:=g;exact⟨a,b,c,rfl,du _ _ f,j,XC _ _ j,f,z⟩
theorem jC{σ:Sg}:∀{xs:yL Pl}{us:yL yh},aM σ (xs.map .p) us↔ar σ.w σ.bf xs us
 |[],us=>by simp[aM,ar]
 |x::xs,us=>by
  simp only[yah,aM,ar,yH];constructor
  .rintro⟨a,b,rfl,f,g⟩;exact⟨a,b,rfl,f,jC.1 g⟩
  .rintro⟨a,b,rfl,f,g⟩;exact⟨a,b,rfl,f,jC.2 g⟩
theorem SF{P:yg}{t:yc}(h:(P.underlying t).isSome=ae)(w:yr):(isAgg t).run P w=.ok (XB P t) w:=by
 cases f:P.underlying t with
 |none=>simp[f]at h
 |some d=>
  unfold isAgg XB;rw[Sem.run_bind,run_underlying f w];cases d <;> simp[f]
theorem Z1{P:yg}{t:yc}(h:(P.info? t).isSome=ae)(w:yr):(sizeOf t).run P w=.ok (P.cellsOf t) w:=by
 cases f:P.info? t with
 |none=>simp[f]at h
 |some i=>simp[sizeOf,typeInfo,f,Program.cellsOf]
theorem kC{P:yg}{σ:Sg}{t:yc}{d:Dv}{cs:Array yh}{a b c:yL yh}(hcs:cs.toList=a++(b++c))(g:yH σ d b)(hs:P.cellsOf t=d.size)(hi:(P.info? t).isSome=ae)
 (hu:(P.underlying t).isSome=ae) (ha:XB P t=d.isAgg) (hn:d.size≠0):∃v,(part t cs a.length).run P σ.w=.ok v σ.w/\yJ σ d v:=by
 have h:b.length=d.size:=XC _ _ g;unfold part;simp only[Sem.run_bind,SF hu,Result.andThen_ok]
 cases f:d.isAgg with
 |true=>
  rw[ha,f];simp only[if_true,Sem.run_bind,Z1 hi,Result.andThen_ok,Sem.run_pure];refine⟨_,rfl, ?_⟩;rw[ZY f];refine⟨_,rfl, ?_⟩
  have:(cs.extract a.length (a.length+P.cellsOf t)).toList=b:=by
   rw[Array.toList_extract,hcs,hs, <-h,List.extract_eq_take_drop];simp
  rw[this]
  exact g
 |false=>
  rw[ha,f];simp only[Bool.false_eq_true,if_false]
  have j:d.size=1:=by
   cases d with
   |p x=>cases x <;> first|rfl|(simp[Dv.isAgg,Pl.isAgg]at f)
   |agg _=>simp[Dv.isAgg]at f
   |arr _ _ _=>simp[Dv.isAgg]at f
   |_=>rfl
  rw[j]at h
  obtain⟨v,rfl⟩:∃v,b=[v]:=by
   match b,h with
   |[v],_=>exact⟨v,rfl⟩
  have l:cs[a.length]? =ab v:=by
   rw[<-yby,hcs];simp
  rw[l];exact⟨v,rfl,(Zh f).2 g⟩
theorem Ztt{P:yg}{σ:Sg}{t:yc}{x d:Dv}{i:Nat}{v:yh}(h:je P t x i=ab d)(l:yJ σ x v):
 ∃u,(Instr.field t v i).run P σ.w=.ok u σ.w/\yJ σ d u:=by
 unfold je at h;split at h
 .rename_i T U z;split at h
  .rename_i y A;split at h
   .rename_i g;cases h;unfold kv at g;split at g
    .rename_i f E;simp only[yi,yT,yE]at g;obtain⟨⟨⟨⟨⟨F,G⟩,I⟩,J⟩,M⟩,Q⟩:=g;rw[ZY rfl]at l;obtain⟨W,rfl,l⟩:=l;simp only[yH,aB]at l;obtain⟨a,b,c,e,R,S,_⟩:=la l A;obtain⟨u,j,m⟩:=kC (P:=P) (σ:=σ) (t:=f.type) (d:=.p y) e (by simpa[yH] using S) G I M J Q;refine⟨u, ?_,m⟩;rw[R, <-F]at j;simp[Instr.field,run_underlying z,E,asAgg,j]
    .cases g
   .cases h
  .cases h
 .rename_i T U z;split at h
  .rename_i y A;split at h
   .rename_i g;cases h;unfold kv at g;split at g
    .rename_i f E;simp only[yi,yT,yE]at g;obtain⟨⟨⟨⟨⟨F,G⟩,I⟩,J⟩,M⟩,Q⟩:=g;rw[ZY rfl]at l;obtain⟨W,rfl,l⟩:=l;simp only[yH]at l;obtain⟨a,b,c,e,R,S,_⟩:=md l A;obtain⟨u,j,m⟩:=kC (P:=P) (σ:=σ) (t:=f.type) (d:=d) e S G I M J Q;refine⟨u, ?_,m⟩;rw[R, <-F]at j;simp[Instr.field,run_underlying z,E,asAgg,j]
    .cases g
   .cases h
  .cases h
 .cases h
theorem Addr.bI(b o n:Nat):(⟨b,o,ad⟩:Addr).add n=⟨b,o+n,ad⟩:=Addr.add_lit b o n
theorem uL{w:yr}{S:Nat->Nat->Prop}{s:Nat}{xs:yL Pl}{us:yL yh}{b o i:Nat}{y:Pl}(hs:aW s xs)(h:ar w S xs us)(hc:Ww w S b o us)(g:xs[i]? =ab y):
 ∃f,aB w S y f/\Ww w S b (o+i*s) f:=by
 obtain⟨a,f,c,rfl,j,l,_⟩:=la h g;have m:i < xs.length:=(yu.1 g).1
 have z:a.length=i*s:=by
  rw[j,aN (Vq hs i),yaa,yay (Nat.le_of_lt m)]
 refine⟨f,l, ?_⟩;have A:=(Ww.append (Ww.append hc).2).1
 rwa [z]at A
theorem uM{P:yg}{σ:Sg}{t:yc}{d:Dv}{b o:Nat}{us:yL yh}(g:yH σ d us)(hc:∀(j:Nat)(u:yh),us[j]? =ab u->σ.w.cell? ⟨b,o+j,ad⟩=ab u)(hs:P.cellsOf t=d.size)
 (hi:(P.info? t).isSome=ae) (hu:(P.underlying t).isSome=ae) (ha:XB P t=d.isAgg):∃v,(loadVar t ⟨b,o,ad⟩).run P σ.w=.ok v σ.w/\yJ σ d v:=by
 have h:us.length=d.size:=XC _ _ g;unfold loadVar;simp only[Sem.run_bind,SF hu,Result.andThen_ok]
 cases f:d.isAgg with
 |true=>
  rw[ha,f];have l:=run_loadCells_list (P:=P) σ.w ⟨b,o,ad⟩ us (λj u hu=>by rw[Addr.bI];exact hc j u hu);rw[h, <-hs]at l;simp only[if_true,Sem.run_bind,Z1 hi,Result.andThen_ok,l,Sem.run_pure]
  exact⟨_,rfl,(ZY f).2 ⟨_,rfl,by simpa using g⟩⟩
 |false=>
  rw[ha,f];simp only[Bool.false_eq_true,if_false]
  have m:d.size=1:=by
   cases d with
   |p x=>cases x <;> first|rfl|(simp[Dv.isAgg,Pl.isAgg]at f)
   |agg _=>simp[Dv.isAgg]at f
   |arr _ _ _=>simp[Dv.isAgg]at f
   |_=>rfl
  rw[m]at h
  obtain⟨v,rfl⟩:∃v,us=[v]:=by
   match us,h with
   |[v],_=>exact⟨v,rfl⟩
  have:=hc 0 v rfl;simp only[Nat.add_zero]at this;rw[run_load,this];exact⟨v,rfl,(Zh f).2 g⟩
mutual
theorem lc{f:Nat->yO Nat}:∀(d d':Dv),d.rn f=ab d'->d'.size=d.size/\d'.isAgg=d.isAgg
 |.p x,d',h=>by simp only[Dv.rn,yn]at h;subst h;exact⟨rfl,rfl⟩
 |.elem x,d',h=>by simp only[Dv.rn,yn]at h;subst h;exact⟨rfl,rfl⟩
 |.aj id off m,d',h=>by simp only[Dv.rn,yv]at h;obtain⟨i,_,rfl⟩:=h;exact⟨rfl,rfl⟩
 |.own id A s l,d',h=>by simp only[Dv.rn,yv]at h;obtain⟨i,_,rfl⟩:=h;exact⟨rfl,rfl⟩
 |.view id off m s lo n,d',h=>by simp only[Dv.rn,yv]at h;obtain⟨i,_,rfl⟩:=h;exact⟨rfl,rfl⟩
 |.agg l,d',h=>by
  simp only[Dv.rn,yv]at h;obtain⟨j,y,rfl⟩:=h
  exact⟨by simp only[Dv.size];exact fY l j y,rfl⟩
 |.arr n s l,d',h=>by simp only[Dv.rn,yv]at h;obtain⟨j,_,rfl⟩:=h;exact⟨rfl,rfl⟩
 |.fn g z,d',h=>by simp only[Dv.rn,yv]at h;obtain⟨j,_,rfl⟩:=h;exact⟨rfl,rfl⟩
 |.iface t x,d',h=>by simp only[Dv.rn,yv]at h;obtain⟨j,_,rfl⟩:=h;exact⟨rfl,rfl⟩
 |.bp l,d',h=>by simp only[Dv.rn,yv]at h;obtain⟨j,_,rfl⟩:=h;exact⟨rfl,rfl⟩
 |.mp id,d',h=>by simp only[Dv.rn,yv]at h;obtain⟨j,_,rfl⟩:=h;exact⟨rfl,rfl⟩
 |.rv id _ _ _ _,d',h=>by simp only[Dv.rn,yv]at h;obtain⟨j,_,rfl⟩:=h;exact⟨rfl,rfl⟩
 |.aZ id _ _ _,d',h=>by simp only[Dv.rn,yv]at h;obtain⟨j,_,rfl⟩:=h;exact⟨rfl,rfl⟩
 |.an,d',h=>by simp only[Dv.rn,yn]at h;subst h;exact⟨rfl,rfl⟩
theorem fY{f:Nat->yO Nat}:∀(j g:yL Dv),Dv.bC f j=ab g->Dv.sizes g=Dv.sizes j
 |[],g,h=>by simp only[Dv.bC,yn]at h;subst h;rfl
 |x::r,g,h=>by
  simp only[Dv.bC]at h;split at h
  .rename_i y l m z;cases h;simp only[Dv.sizes];rw[(lc x y m).1,fY r l z]
  .cases h
end
theorem BK{f:Nat->yO Nat}:∀{j g:yL Dv},Dv.bC f j=ab g->g.length=j.length
 |[],g,h=>by simp only[Dv.bC,yn]at h;subst h;rfl
 |x::r,g,h=>by
  simp only[Dv.bC]at h;split at h
  .rename_i y m z l;cases h;simp[BK l]
  .cases h
theorem SG{f:Nat->yO Nat}{s:Nat}:∀{l g:yL Dv},Dv.bC f l=ab g->(∀x,x∈l->x.size=s)->∀x,x∈g->x.size=s
 |[],g,h,_=>by simp only[Dv.bC,yn]at h;subst h;intro x A;cases A
 |x::r,g,h,m=>by
  simp only[Dv.bC]at h;split at h
  .rename_i y I E F;cases h;intro z j
   cases j with
   |head=>rw[(lc x y E).1];exact m x (yau ..)
   |tail _ j=>exact SG F (λw G=>m w (yav _ G)) z j
  .cases h
structure Rn(f:Nat->Option Nat)(σ σ':Sg):Prop where
 w:σ'.w=σ.w
 bf:∀(b o:Nat)(v:yh),σ.w.cell? ⟨b,o,ad⟩=ab v->σ.bf b o->σ'.bf b o
 m:∀(id id':Nat),f id=ab id'->∀(a:Option Nat),σ.m[id]? =ab a->σ'.m[id']? =ab a
 H:∀(id id':Nat),f id=ab id'->∀(e:aq),σ.H[id]? =ab e->∃e',σ'.H[id']? =ab e'/\e.rn f=ab e'
theorem Rn.cells{f:Nat->yO Nat}{σ σ':Sg}(h:Rn f σ σ'):∀(b o:Nat)(v:yh),σ.w.cell? ⟨b,o,ad⟩=ab v->σ.bf b o->σ'.w.cell? ⟨b,o,ad⟩=ab v/\σ'.bf b o:=
 λb o v g j=>⟨by rw[h.w];exact g,h.bf b o v g j⟩
theorem Rn.var{f:Nat->yO Nat}{σ σ':Sg}(h:Rn f σ σ'){id g:Nat}(l:f id=ab g)(hv:∃d st,σ.H[id]? =ab (.var d st)):∃d st,σ'.H[g]? =ab (.var d st):=by
 obtain⟨d,st,hv⟩:=hv;obtain⟨z,m,j⟩:=h.H id g l _ hv;simp only[aq.rn,yv]at j;obtain⟨y,_,rfl⟩:=j;exact⟨y,st,m⟩
theorem Rn.map{f:Nat->yO Nat}{σ σ':Sg}(h:Rn f σ σ'){id g:Nat}(l:f id=ab g)(hv:∃t bS,σ.H[id]? =ab (.map t bS)):∃t bS,σ'.H[g]? =ab (.map t bS):=by
 obtain⟨d,st,hv⟩:=hv;obtain⟨y,m,j⟩:=h.H id g l _ hv;simp only[aq.rn,yn]at j;subst j;exact⟨d,st,m⟩
theorem Rn.front{f:Nat->yO Nat}{σ σ':Sg}(h:Rn f σ σ'){id g s len c:Nat}{A:yO Addr}(j:f id=ab g)(hv:dn σ id s len A c):dn σ' g s len A c:=by
 obtain⟨e,F,G,I,J⟩:=hv;obtain⟨T,M,E⟩:=h.H id g j _ G;simp only[aq.rn,yn]at E;subst E;refine⟨e,F,M,I,λQ=> ?_⟩;rcases J Q with⟨l,y⟩|⟨b,z,l,y,R,S⟩
 .exact .inl ⟨h.m _ _ j _ l,y⟩
 .exact .inr ⟨b,z,h.m _ _ j _ l,y,by rw[h.w];exact R,S⟩
theorem Rn.row{f:Nat->yO Nat}{σ σ':Sg}(h:Rn f σ σ'){id g v s:Nat}{st:Bool}{e:yc}{d:Dv}(l:f id=ab g)(hv:σ.H[id]? =ab (.row v s st e d)):∃d',σ'.H[g]? =ab (.row v s st e d'):=by
 obtain⟨y,m,j⟩:=h.H id g l _ hv;simp only[aq.rn,yv]at j;obtain⟨d',_,rfl⟩:=j;exact⟨d',m⟩
theorem Rn.rowAt{f:Nat->yO Nat}{σ σ':Sg}(h:Rn f σ σ'){id g v s lo c:Nat}{A:yO Addr}(j:f id=ab g)(hv:rowAt σ id v s lo A c):rowAt σ' g v s lo A c:=by
 obtain⟨E,F,st,e,d,G,I,J⟩:=hv;obtain⟨M,Q⟩:=h.row j G;refine⟨E,F,st,e,M,Q,I,λhv=> ?_⟩;obtain⟨R,S⟩:=J hv;refine⟨R, ?_⟩;rcases S with⟨l,y⟩|⟨b,z,l,y,T⟩
 .exact .inl ⟨h.m _ _ j _ l,y⟩
 .exact .inr ⟨b,z,h.m _ _ j _ l,by rw[h.w];exact y,T⟩
theorem Rn.rowIs{f:Nat->yO Nat}{σ σ':Sg}(h:Rn f σ σ'){id g v b o off:Nat}(j:f id=ab g)(hv:rowIs σ id v b o off):rowIs σ' g v b o off:=by
 obtain⟨y,z,st,e,d,A,E,l⟩:=hv;obtain⟨F,G⟩:=h.row j A;exact⟨y,z,st,e,F,G,E,λhv=>⟨h.m _ _ j _ (l hv).1,(l hv).2⟩⟩
mutual
theorem lf{f:Nat->yO Nat}{σ σ':Sg}(h:Rn f σ σ'):∀(d d':Dv)(vs:yL yh),d.rn f=ab d'->yH σ d vs->yH σ' d' vs
 |.p x,d',vs,l,j=>by
  simp only[Dv.rn,yn]at l;subst l;simp only[yH]at j ⊢
  exact lY h.cells x vs j
 |.elem x,d',vs,l,j=>by
  simp only[Dv.rn,yn]at l;subst l;simp only[yH]at j ⊢;obtain⟨b,o,M,E,F,G⟩:=j
  exact⟨b,o,M,E,lY h.cells x M F,G.mono h.cells⟩
 |.aj id off yQ,d',vs,l,j=>by
  simp only[Dv.rn,yv]at l;obtain⟨i,z,rfl⟩:=l;simp only[yH]at j ⊢;obtain⟨b,E,F,G⟩:=j
  exact⟨b,h.m _ _ z _ E,h.var z F,G⟩
 |.own id nn s I,d',vs,l,j=>by
  simp only[Dv.rn,yv]at l;obtain⟨i,z,rfl⟩:=l;simp only[yH]at j ⊢;obtain⟨E,A,c,F,G,R,S,T,h7,h8⟩:=j;refine⟨E,A,c,F,G,R,S,T,λU=> ?_,h.front z h8⟩;obtain⟨b,o,M,W,X,e3⟩:=h7 U
  exact⟨b,o,M,W,aE h.cells I M X,e3.mono h.cells⟩
 |.view id off yQ s lo n,d',vs,l,j=>by
  simp only[Dv.rn,yv]at l;obtain⟨i,z,rfl⟩:=l;simp only[yH]at j ⊢;obtain⟨b,c,a,E,F,G⟩:=j
  exact⟨b,c,a,h.m _ _ z _ E,h.var z F,G⟩
 |.agg I,d',vs,l,j=>by
  simp only[Dv.rn,yv]at l;obtain⟨J,z,rfl⟩:=l;simp only[yH]at j ⊢
  exact fB h I J vs z j
 |.arr n s I,d',vs,l,j=>by
  simp only[Dv.rn,yv]at l;obtain⟨J,z,rfl⟩:=l;simp only[yH]at j ⊢
  exact⟨by rw[BK z];exact j.1,SG z j.2.1,fB h I J vs z j.2.2⟩
 |.fn g Y,d',vs,l,j=>by
  simp only[Dv.rn,yv]at l;obtain⟨J,z,rfl⟩:=l;simp only[yH]at j ⊢;obtain⟨fs,Q,E,h0,F⟩:=j
  exact⟨fs,Q,E,h0,dK h Y J _ z F⟩
 |.iface t x,d',vs,l,j=>by
  simp only[Dv.rn,yv]at l;obtain⟨y,z,rfl⟩:=l;simp only[yH]at j ⊢;obtain⟨v,E,F,G⟩:=j;refine⟨v,E,λZ=> ?_,λZ=>lf h x y _ z (G (by rw[<-(lc x y z).2];exact Z))⟩;obtain⟨Q,W,X⟩:=F (by rw[<-(lc x y z).2];exact Z)
  exact⟨Q,W,lf h x y _ z X⟩
 |.bp I,d',vs,l,j=>by
  simp only[Dv.rn,yv]at l;obtain⟨J,z,rfl⟩:=l;simp only[yH]at j ⊢;obtain⟨Q,E,F⟩:=j
  exact⟨Q,E,dK h I J _ z F⟩
 |.mp id,d',vs,l,j=>by
  simp only[Dv.rn,yv]at l;obtain⟨i,z,rfl⟩:=l;simp only[yH]at j ⊢;obtain⟨b,E,F,G⟩:=j
  exact⟨b,h.m _ _ z _ E,h.map z F,G⟩
 |.rv id v s lo n,d',vs,l,j=>by
  simp only[Dv.rn,yv]at l;obtain⟨i,z,rfl⟩:=l;simp only[yH]at j ⊢;obtain⟨A,c,E,F,G,R,S,T⟩:=j
  exact⟨A,c,E,F,G,R,S,h.rowAt z T⟩
 |.aZ id v off yQ,d',vs,l,j=>by
  simp only[Dv.rn,yv]at l;obtain⟨i,z,rfl⟩:=l;simp only[yH]at j ⊢;obtain⟨b,o,E,F⟩:=j
  exact⟨b,o,E,h.rowIs z F⟩
 |.an,d',vs,l,j=>by
  simp only[Dv.rn,yn]at l;subst l;simpa[yH] using j
theorem fB{f:Nat->yO Nat}{σ σ':Sg}(h:Rn f σ σ'):∀(z g:yL Dv)(vs:yL yh),Dv.bC f z=ab g->aM σ z vs->aM σ' g vs
 |[],g,vs,j,m=>by
  simp only[Dv.bC,yn]at j;subst j
  simpa[aM] using m
 |x::E,g,vs,j,m=>by
  simp only[Dv.bC]at j;split at j
  .rename_i y F G I;cases j;simp only[aM]at m ⊢;obtain⟨A,l,J,M,Q⟩:=m;exact⟨A,l,J,lf h x y A G M,fB h E F l I Q⟩
  .cases j
theorem dK{f:Nat->yO Nat}{σ σ':Sg}(h:Rn f σ σ'):∀(E g:yL Dv)(vs:yL yh),Dv.bC f E=ab g->aH σ E vs->aH σ' g vs
 |[],g,vs,j,m=>by
  simp only[Dv.bC,yn]at j;subst j
  simpa[aH] using m
 |x::F,g,vs,j,m=>by
  simp only[Dv.bC]at j;split at j
  .rename_i y G z I;cases j;simp only[aH]at m ⊢;obtain⟨v,l,J,⟨M,Q⟩,R⟩:=m;refine⟨v,l,J,⟨λA=> ?_,λA=>lf h x y _ z (Q (by rw[<-(lc x y z).2];exact A))⟩,dK h F G l I R⟩;obtain⟨S,T,U⟩:=M (by rw[<-(lc x y z).2];exact A);exact⟨S,T,lf h x y _ z U⟩
  .cases j
end
theorem lh{f:Nat->yO Nat}{σ σ':Sg}(h:Rn f σ σ'){d d':Dv}{v:yh}(hd:d.rn f=ab d')(j:yJ σ d v):yJ σ' d' v:=by
 obtain⟨l,m⟩:=j;refine⟨λg=> ?_,λg=>lf h d d' _ hd (m (by rw[<-(lc d d' hd).2];exact g))⟩;obtain⟨y,z,A⟩:=l (by rw[<-(lc d d' hd).2];exact g);exact⟨y,z,lf h d d' _ hd A⟩
theorem Wj{w:yr}{b o:Nat}{v:yh}(h:w.cell? ⟨b,o,ad⟩=ab v):b < w.heap.size:=World.block_lt_of_cell? w ⟨b,o,ad⟩ h
theorem SH{σ σ':Sg}(h:ck σ σ'):∀(l:yL (Pl×Pl))(es:yL MapEntry),iG σ l es->iG σ' l es
 |[],[],_=>trivial
 |[],_::_,k=>k.elim
 |_::_,[],k=>k.elim
 |q::r,e::es,k=>⟨Vo h k.1,Vo h k.2.1,SH h r es k.2.2⟩
theorem SI{σ σ':Sg}(h:ck σ σ'){l:yL (Pl×Pl)}{es:yL MapEntry}(k:ku σ l es):ku σ' l es:=by
 obtain⟨f,p,g,k⟩:=k;exact⟨f,p,g,SH h _ _ k⟩
theorem nB{σ σ':Sg}(h:ck σ σ'){a:yO Nat}{e:aq}(hb:∀b,a=ab b->σ'.w.heap[b]? =σ.w.heap[b]?)(he:dH σ a e):dH σ' a e:=by
 cases e with
 |var d st=>
  obtain⟨b,E,t,rfl,f,g,j⟩:=he
  exact⟨b,E,t,rfl,(hb b rfl).trans f,Yg h d _ g,j⟩
 |log s e F=>
  rcases he with⟨rfl,f⟩|⟨b,l,m,rfl,f,g,j,z,A,G⟩
  .exact .inl ⟨rfl,f⟩
  .exact .inr ⟨b,l,m,rfl,(hb b rfl).trans f,g,j,z,A,aE h.cells F _ G⟩
 |map t bS=>
  obtain⟨b,I,y,rfl,f,g,j⟩:=he
  exact⟨b,I,y,rfl,(hb b rfl).trans f,SI h g,j⟩
 |row v s st e d=>
  obtain⟨N,J,f⟩:=he;refine⟨N,J, ?_⟩;rcases f with f|⟨b,l,m,rfl,f,g,j,z,A⟩
  .exact .inl f
  .exact .inr ⟨b,l,m,rfl,(hb b rfl).trans f,g,j,z,Yg h d _ A⟩
 |gone=>exact he
theorem nC{σ:Sg}(ok:Ok σ){w':yr}(y:σ.w.grownBy w' ad):To σ { σ with w:=w'}/\Ok { σ with w:=w'}:=by
 have j:∀b,b < σ.w.heap.size->w'.heap[b]? =σ.w.heap[b]? :=λb j=>y.block b j (by simp);have F:∀(id b:Nat),σ.m[id]? =ab (ab b)->w'.heap[b]? =σ.w.heap[b]? :=λid b h=>j b (ok.lt id b h)
 have l:ck σ { σ with w:=w'}:=by
  refine⟨λb o v f g=>⟨?_,g⟩,λid b f g=>⟨f,g⟩,λid s len A c f=> ?_,λid b f g=>⟨f,g⟩,λid v s st e d h=>⟨v,st,d,h,ym _,λ_=>⟨rfl,λb z j G=>⟨z,(F id b j).trans G,rfl⟩⟩⟩⟩
  .show w'.cell? ⟨b,o,ad⟩=ab v;rw[World.cell?_of_block (w:=σ.w) (j b (Wj f))];exact f
  .obtain⟨e,I,g,J,M⟩:=f;refine⟨e,I,g,J,λQ=> ?_⟩;rcases M Q with E|⟨b,z,E,R,S,T⟩
   .exact .inl E
   .exact .inr ⟨b,z,E,R,(F id b E).trans S,T⟩
 refine⟨⟨l,rfl,rfl,y.os,y.tape,y.output,y.size,λb f _=>j b f,λid b h=>.inl h,ym _⟩,⟨ok.len,ok.inj,λi b h=>Nat.lt_of_lt_of_le (ok.lt i b h) y.size,λi e a f g=> ?_,λb h=>ok.new b (ybt y.size h),ok.own⟩⟩;exact nB l (λb j=>F i b (by rw[g,j])) (ok.dF i e a f g)
theorem SJ{σ:Sg}(ok:Ok σ){b o:Nat}(h:σ.B b)(hn:∀(id:Nat),σ.m[id]? ≠ab (ab b)):σ.bf b o:=
 ⟨.inr h,λid _ f _=>absurd f (hn id)⟩
def YL(P:yg)(o:yj)(a:Act)(σ:Sg)(d:Dv)(H':yL aq):Prop:=
 ∀(K:Act->yr->Prop)(Q:Exit->Act->yr->Prop),(∀v f,f.H=H'->To σ f->Ok f->yJ f d v->K (a.put o.dst v) f.w)->o.wp P a σ.w K Q
theorem Zk{P:yg}{o:yj}{a:Act}{σ:Sg}{d:Dv}{v:yh}(ok:Ok σ)(f:(execOp a.eval o).run P σ.w=.ok (.value v) σ.w)(hd:yJ σ d v):YL P o a σ d σ.H:=by
 intro K Q h;unfold Oper.wp;rw[f];exact h v σ rfl (To.refl σ) ok hd
theorem ZM{P:yg}{o:yj}{a:Act}{σ σ':Sg}{d:Dv}{v:yh}(f:(execOp a.eval o).run P σ.w=.ok (.value v) σ'.w)(to:To σ σ')(ok:Ok σ')(hd:yJ σ' d v):YL P o a σ d σ'.H:=by
 intro K Q h;unfold Oper.wp;rw[f];exact h v σ' rfl to ok hd
structure bJ(x y:Pl):Prop where
 size:x.size=y.size
 agg:x.isAgg=y.isAgg
 dq:∀(w:yr)(S:Nat->Nat->Prop)(vs:List yh),aB w S x vs->aB w S y vs
structure bm(xs ys:List Pl):Prop where
 len:xs.length=ys.length
 sizes:Pl.sizes xs=Pl.sizes ys
 all:∀s,aW s xs->aW s ys
 dq:∀(w:yr)(S:Nat->Nat->Prop)(vs:List yh),ar w S xs vs->ar w S ys vs
theorem bJ.refl(x:Pl):bJ x x:=⟨rfl,rfl,λ_ _ _ h=>h⟩
theorem bm.refl(x:yL Pl):bm x x:=⟨rfl,rfl,λ_ h=>h,λ_ _ _ h=>h⟩
theorem bm.of_eq{x y:yL Pl}(h:x=y):bm x y:=h ▸ bm.refl x
theorem bm.nil:bm [] []:=bm.refl []
theorem bm.cons{x y:Pl}{xs ys:yL Pl}(h:bJ x y)(k:bm xs ys):bm (x::xs) (y::ys) where
 len:=by simp[k.len]
 sizes:=by simp only[Pl.sizes];rw[h.size,k.sizes]
 all s ha:=by
  intro z hz;rcases List.mem_cons.1 hz with rfl|hz
  .rw[<-h.size];exact ha x (yau ..)
  .exact k.all s (λz hz=>ha z (yav _ hz)) z hz
 dq w S vs hr:=by
  simp only[ar]at hr ⊢;obtain⟨us,us',e,h1,h2⟩:=hr;exact⟨us,us',e,h.dq w S us h1,k.dq w S us' h2⟩
theorem bm.map{α:Type}{f g:α->Pl}(h:∀x,bJ (f x) (g x)):∀(l:yL α),bm (l.map f) (l.map g)
 |[]=>bm.nil
 |x::l=>bm.cons (h x) (bm.map h l)
theorem bJ.jD{xs ys:yL Pl}(h:bm xs ys):bJ (.agg xs) (.agg ys):=⟨h.sizes,rfl,λw S vs f=>by simp only[aB]at f ⊢;exact h.dq w S vs f⟩
theorem bJ.jE{n s:Nat}{xs ys:yL Pl}(h:bm xs ys):bJ (.arr n s xs) (.arr n s ys):=
 ⟨rfl,rfl,λw S vs f=>by simp only[aB]at f ⊢;exact⟨by rw[<-h.len];exact f.1,h.all s f.2.1,h.dq w S vs f.2.2⟩⟩
theorem bJ.qJ{nn:yO Bool}{s:Nat}{xs ys:yL Pl}(h:bm xs ys):bJ (.sl nn s xs) (.sl nn s ys):=⟨rfl,rfl,λw S vs g=>by
 simp only[aB]at g ⊢;obtain⟨j,A,c,rfl,l,m,y,z,E⟩:=g;refine⟨h.all s j,A,c,by rw[h.len],by rw[<-h.len];exact l,m,y,z,λf=> ?_⟩;obtain⟨b,o,F,e,r,k⟩:=E (by intro e;subst e;exact f (ybj h.len.symm));exact⟨b,o,F,e,h.dq _ _ _ r,k⟩⟩
theorem bJ.jF{t:yc}{x y:Pl}(h:bJ x y):bJ (.iface t x) (.iface t y):=⟨rfl,rfl,λw S vs g=>by
 simp only[aB]at g ⊢;obtain⟨v,e,j,l⟩:=g;refine⟨v,e,λf=> ?_,λf=>h.dq _ _ _ (l (by rw[h.agg];exact f))⟩;obtain⟨m,z,A⟩:=j (by rw[h.agg];exact f);exact⟨m,z,h.dq _ _ _ A⟩⟩
theorem bJ.jG{nn:yO Bool}{s:Nat}{xs ys:yL Pl}(h:bm xs ys):bJ (.sl nn s xs) (.sl ad s ys):=⟨rfl,rfl,λw S vs g=>by
 simp only[aB]at g ⊢;obtain⟨j,A,c,rfl,l,m,F,y,z⟩:=g;refine⟨h.all s j,A,c,by rw[h.len],by rw[<-h.len];exact l,m,Ym _,y,λf=> ?_⟩;obtain⟨b,o,E,e,r,k⟩:=z (by intro e;subst e;exact f (ybj h.len.symm));exact⟨b,o,E,e,h.dq _ _ _ r,k⟩⟩
structure Wk(d e:Dv):Prop where
 size:d.size=e.size
 agg:d.isAgg=e.isAgg
 dq:∀(σ:Sg)(vs:List yh),yH σ d vs->yH σ e vs
theorem Wk.refl(d:Dv):Wk d d:=⟨rfl,rfl,λ_ _ h=>h⟩
theorem Wk.of_eq{x y:Dv}(h:x=y):Wk x y:=h ▸ Wk.refl x
theorem Wk.p{x y:Pl}(h:bJ x y):Wk (.p x) (.p y):=⟨h.size,h.agg,λσ vs r=>by simp only[yH]at r ⊢;exact h.dq _ _ _ r⟩
theorem BL{σ:Sg}{id s:Nat}{nn g:yO Bool}{xs ys:yL Pl}{vs:yL yh}(h:bm xs ys)(hn:∀A,jb nn A->jb g A)(r:yH σ (.own id nn s xs) vs):yH σ (.own id g s ys) vs:=by
 simp only[yH]at r ⊢;obtain⟨j,A,c,l,m,y,z,E,F,G⟩:=r;refine⟨h.all s j,A,c,by rw[<-h.len];exact l,by rw[<-h.len];exact m,y,hn A z,E,λf=> ?_,by rw[<-h.len];exact G⟩;obtain⟨b,o,I,e,r,k⟩:=F (by intro e;subst e;exact f (ybj h.len.symm));exact⟨b,o,I,e,h.dq _ _ _ r,k⟩
theorem Wk.own{id s:Nat}{nn:yO Bool}{xs ys:yL Pl}(e:xs=ys):Wk (.own id nn s xs) (.own id ad s ys):=
 ⟨rfl,rfl,λσ vs r=>BL (bm.of_eq e) (λ_ _=>Ym _) r⟩
theorem Wk.jH{id s:Nat}{nn:yO Bool}{xs ys:yL Pl}(e:bm xs ys):Wk (.own id nn s xs) (.own id ad s ys):=
 ⟨rfl,rfl,λσ vs r=>BL e (λ_ _=>Ym _) r⟩
theorem Wk.nD{id s:Nat}{nn:yO Bool}{xs ys:yL Pl}(e:bm xs ys):Wk (.own id nn s xs) (.own id nn s ys):=
 ⟨rfl,rfl,λσ vs r=>BL e (λ_ h=>h) r⟩
theorem Wk.nE{id s:Nat}{nn:yO Bool}{xs ys:yL Pl}(h:bm xs ys):Wk (.own id nn s xs) (.p (.sl ad s ys)):=by
 refine⟨rfl,rfl,λσ vs r=> ?_⟩;simp only[yH]at r ⊢;obtain⟨f,A,c,g,j,l,m,y,z,E⟩:=r;exact(bJ.jG (nn:=nn) h).dq _ _ _ (by simp only[aB];exact⟨f,A,c,g,j,l,m,y,z⟩)
theorem Wk.an{d:Dv}(h:d.isAgg=af)(hs:d.size=1):Wk d .an:=⟨hs,h,λσ vs r=>by simp only[yH];rw[XC _ _ r,hs]⟩
theorem Wk.dv{d e:Dv}(h:Wk d e){σ:Sg}{v:yh}(r:yJ σ d v):yJ σ e v:=by
 obtain⟨g,j⟩:=r;refine⟨λf=> ?_,λf=>h.dq _ _ (j (by rw[h.agg];exact f))⟩;obtain⟨l,m,y⟩:=g (by rw[h.agg];exact f);exact⟨l,m,h.dq _ _ y⟩
inductive cR:List Dv->List Dv->Prop where
 |nil:cR [] []
 |cons {d e:Dv} {ds es:List Dv} (h:Wk d e) (k:cR ds es):cR (d::ds) (e::es)
theorem cR.refl:∀(l:yL Dv),cR l l
 |[]=>.nil
 |d::l=>.cons (Wk.refl d) (cR.refl l)
theorem cR.bp{g es:yL Dv}(h:cR g es):Wk (.bp g) (.bp es):=by
 refine⟨rfl,rfl,λσ vs r=> ?_⟩;simp only[yH]at r ⊢;obtain⟨j,e,r⟩:=r;refine⟨j,e, ?_⟩;clear e;generalize j.toList=l at r
 induction h generalizing l with
 |nil=>exact r
 |cons h k m=>
  simp only[aH]at r ⊢;obtain⟨v,f,y,z,A⟩:=r;exact⟨v,f,y,h.dv z,m _ A⟩
theorem cR.vs{g es:yL Dv}(h:cR g es){σ:Sg}:∀{l:yL yh},aH σ g l->aH σ es l:=by
 induction h with
 |nil=>intro l r;exact r
 |cons h k j=>
  intro l r;simp only[aH]at r ⊢;obtain⟨v,f,m,y,z⟩:=r;exact⟨v,f,m,h.dv y,j z⟩
theorem cR.len{f es:yL Dv}(h:cR f es):f.length=es.length:=by
 induction h with
 |nil=>rfl
 |cons _ _ g=>simp[g]
theorem cR.get{g es:yL Dv}(h:cR g es):∀{i:Nat}{e:Dv},es[i]? =ab e->∃d,g[i]? =ab d/\Wk d e:=by
 induction h with
 |nil=>intro i e h;simp at h
 |cons h k l=>
  intro i e f
  cases i with
  |zero=>simp only[yam,yn]at f ⊢;subst f;exact⟨_,rfl,h⟩
  |succ j=>simp only[yak]at f ⊢;exact l f
theorem cR.qK{f es:yL Dv}(h:cR f es){σ:Sg}{a:Act}(r:aD σ f a):aD σ es a:=by
 refine⟨by rw[<-h.len];exact r.size,λi e g=> ?_,r.defers⟩;obtain⟨d,j,l⟩:=h.get g;exact l.dv (r.at_ i d j)
theorem cR.agg{f es:yL Dv}(h:cR f es):Wk (.agg f) (.agg es):=by
 have hs:Dv.sizes f=Dv.sizes es:=by
  induction h with
  |nil=>rfl
  |cons h k g=>simp only[Dv.sizes];rw[h.size,g]
 refine⟨hs,rfl,λσ vs r=> ?_⟩;simp only[yH]at r ⊢;clear hs
 induction h generalizing vs with
 |nil=>exact r
 |cons h k g=>
  simp only[aM]at r ⊢;obtain⟨l,j,e,m,y⟩:=r;exact⟨l,j,e,h.dq _ _ m,g _ y⟩
inductive eJ:List (Pl×Pl)->List (Pl×Pl)->Prop where
 |nil:eJ [] []
 |cons {k v v':Pl} {l m:List (Pl×Pl)} (h:bJ v v') (r:eJ l m):eJ ((k,v)::l) ((k,v')::m)
theorem eJ.dq{σ:Sg}{l m:yL (Pl×Pl)}(h:eJ l m):∀(es:yL MapEntry),iG σ l es->iG σ m es:=by
 induction h with
 |nil=>intro es h;exact h
 |cons h r f=>
  intro es k
  cases es with
  |nil=>exact k
  |cons e es=>exact⟨k.1,(Wk.p h).dv k.2.1,f es k.2.2⟩
theorem eJ.keys{l m:yL (Pl×Pl)}(h:eJ l m):m.map (·.1)=l.map (·.1):=by
 induction h with
 |nil=>rfl
 |cons h r f=>rw[yah,yah,f]
theorem eJ.perm{l j:yL (Pl×Pl)}(p:l.Perm j):∀{m:yL (Pl×Pl)},eJ l m->∃m',m.Perm m'/\eJ j m':=by
 induction p with
 |nil=>intro m h;exact⟨m,.refl _,h⟩
 |cons x p z=>
  intro m h
  cases h with
  |cons h r=>
   obtain⟨m',A,E⟩:=z r
   exact⟨_,A.cons _,.cons h E⟩
 |swap x y l=>
  intro m h
  cases h with
  |cons h r=>
   cases r with
   |cons F r=>exact⟨_,.swap _ _ _,.cons F (.cons h r)⟩
 |trans p q f g=>
  intro m h;obtain⟨R,G,I⟩:=f h;obtain⟨J,M,Q⟩:=g I;exact⟨J,G.trans M,Q⟩
theorem eJ.any{σ:Sg}{l m:yL (Pl×Pl)}(h:eJ l m){es:yL MapEntry}(k:ku σ l es):ku σ m es:=by
 obtain⟨z,p,f,r⟩:=k;obtain⟨g,j,y⟩:=eJ.perm p.symm h;exact⟨g,j.symm,by rw[h.keys];exact f,y.dq _ r⟩
inductive eP:aq->aq->Prop where
 |refl (e:aq):eP e e
 |var {d d':Dv} {st:Bool} (h:Wk d d'):eP (.var d st) (.var d' st)
 |log {s:Nat} {e:yc} {xs ys:List Pl} (h:bm xs ys):eP (.log s e xs) (.log s e ys)
 |map {t:yc} {l m:List (Pl×Pl)} (h:eJ l m):eP (.map t l) (.map t m)
 |perm {t:yc} {l m:List (Pl×Pl)} (h:l.Perm m):eP (.map t l) (.map t m)
 |row {v s:Nat} {st:Bool} {e:yc} {d d':Dv} (h:Wk d d'/\aR d s=aR d' s):eP (.row v s st e d) (.row v s st e d')
 |lock {v s:Nat} {st:Bool} {e:yc} {d:Dv}:eP (.row v s st e d) (.row v s af e d)
 |eD {d:Dv} {st:Bool}:eP (.var d st) (.var d af)
 |lj {d d':Dv} {st:Bool} (h:Wk d d'):eP (.var d st) (.var d' af)
 |shr {v s n N:Nat} {e:yc} {xs:List Pl} (h:n<=N):eP (.row v s ae e (.p (.arr N s xs))) (.row v s ae e (.p (.arr n s (xs.take n))))
inductive bZ:List aq->List aq->Prop where
 |nil:bZ [] []
 |cons {e f:aq} {es fs:List aq} (h:eP e f) (k:bZ es fs):bZ (e::es) (f::fs)
theorem bZ.refl:∀(l:yL aq),bZ l l
 |[]=>.nil
 |d::l=>.cons (.refl d) (bZ.refl l)
theorem bZ.of_eq{x y:yL aq}(h:x=y):bZ x y:=h ▸ bZ.refl x
theorem bZ.len{f es:yL aq}(h:bZ f es):f.length=es.length:=by
 induction h with
 |nil=>rfl
 |cons _ _ g=>simp[g]
theorem bZ.get{g es:yL aq}(h:bZ g es):∀{i:Nat}{d:aq},g[i]? =ab d->∃e,es[i]? =ab e/\eP d e:=by
 induction h with
 |nil=>intro i e h;simp at h
 |cons h k l=>
  intro i e f
  cases i with
  |zero=>simp only[yam,yn]at f ⊢;subst f;exact⟨_,rfl,h⟩
  |succ j=>simp only[yak]at f ⊢;exact l f
theorem bZ.back{g es:yL aq}(h:bZ g es):∀{i:Nat}{e:aq},es[i]? =ab e->∃d,g[i]? =ab d/\eP d e:=by
 induction h with
 |nil=>intro i e h;simp at h
 |cons h k l=>
  intro i e f
  cases i with
  |zero=>simp only[yam,yn]at f ⊢;subst f;exact⟨_,rfl,h⟩
  |succ j=>simp only[yak]at f ⊢;exact l f
theorem eP.bB{e f:aq}(h:eP e f)(o:Nat)(k:e.bB o):f.bB o:=by
 cases h with
 |log h=>simpa only[aq.bB,h.len] using k
 |lock=>exact⟨rfl,k.2⟩
 |row h=>exact⟨k.1,by rw[<-h.2];exact k.2⟩
 |shr _=>exact absurd k.1 (by simp)
 |eD=>rfl
 |lj _=>rfl
 |_=>exact k
theorem SK{w:yr}{S:Nat->Nat->Prop}{s:Nat}:∀{xs:yL Pl}{vs:yL yh},(∀x,x∈xs->x.size=s)->ar w S xs vs->∀(n:Nat),n<=xs.length->ar w S (xs.take n) (vs.take (n*s))
 |[],vs,_,h,n,f=>by
  have:n=0:=by simpa using f
  subst this;simp only[ar]at h;subst h
  simp[ar]
 |x::r,vs,hs,h,0,_=>by simp[ar]
 |x::r,vs,hs,h,n+1,f=>by
  simp only[ar]at h;obtain⟨j,g,rfl,l,m⟩:=h;have z:j.length=s:=by rw[Wm _ _ l];exact hs x (yau ..)
  simp only[List.take_succ_cons,ar];refine⟨j,g.take (n*s), ?_,l,SK (λy A=>hs y (yav _ A)) m n (by simpa using f)⟩;rw[List.take_append,z,yba,Nat.one_mul,ycc (by omega)];congr 2;omega
theorem bZ.eu:∀{l:yL aq}{i:Nat}{e f:aq},l[i]? =ab e->eP e f->bZ l (l.set i f)
 |[],_,_,_,h,_=>by simp at h
 |x::l,0,e,f,h,k=>by
  simp only[yam,yn]at h;subst h
  exact .cons k (bZ.refl l)
 |x::l,i+1,e,f,h,k=>by
  simp only[yak]at h;exact .cons (.refl x) (bZ.eu h k)
theorem ll{σ:Sg}(ok:Ok σ){H':yL aq}(h:bZ σ.H H'):To σ { σ with H:=H'}/\Ok { σ with H:=H'}:=by
 have bf:∀b o,σ.bf b o->({ σ with H:=H'}:Sg).bf b o:=λb o hs=>⟨hs.1,λid e F z=>by
  obtain⟨d,I,l⟩:=h.back z;exact l.bB o (hs.2 id d F I)⟩
 have Q:ck σ { σ with H:=H'}:=by
  refine⟨λb o v F z=>⟨F,bf b o z⟩,λid b F z=>⟨F, ?_⟩,λid s len A c F=> ?_,λid b F z=>⟨F, ?_⟩,λid v s st e d F=> ?_⟩
  .obtain⟨d,st,z⟩:=z;obtain⟨e,I,l⟩:=h.get z
   cases l with
   |refl=>exact⟨d,st,I⟩
   |var f=>exact⟨_,_,I⟩
   |eD=>exact⟨_,_,I⟩
   |lj _=>exact⟨_,_,I⟩
  .obtain⟨e,ys,z,I⟩:=F;obtain⟨e',l,f⟩:=h.get z
   cases f with
   |refl=>exact⟨e,ys,l,I⟩
   |log U=>exact⟨_,_,l,by rw[<-U.len];exact I⟩
  .obtain⟨t,bS,z⟩:=z;obtain⟨e',l,f⟩:=h.get z
   cases f with
   |refl=>exact⟨t,bS,l⟩
   |map U=>exact⟨_,_,l⟩
   |perm U=>exact⟨_,_,l⟩
  .obtain⟨e',l,f⟩:=h.get F
   cases f with
   |refl=>exact⟨v,st,d,l,ym _,λ_=>⟨rfl,λb g _ R=>⟨g,R,rfl⟩⟩⟩
   |row U=>exact⟨v,st,_,l,ym _,λ_=>⟨rfl,λb g _ R=>⟨g,R,rfl⟩⟩⟩
   |shr _=>exact⟨v,ae,_,l,ym _,λ_=>⟨rfl,λb g _ R=>⟨g,R,rfl⟩⟩⟩
   |lock=>exact⟨v,af,_,l,ym _,λ_=>⟨rfl,λb g _ R=>⟨g,R,rfl⟩⟩⟩
 refine⟨⟨Q,rfl,rfl,rfl,rfl,rfl,ym _,λ_ _ _=>rfl,λ_ _ h=>.inl h,ym _⟩,⟨by show σ.m.length=H'.length;rw[ok.len,h.len],ok.inj,ok.lt,λi e a F z=> ?_,ok.new,ok.own⟩⟩;obtain⟨d,I,l⟩:=h.back F;have M:=nB Q (λb _=>rfl) (ok.dF i d a I z)
 cases l with
 |refl=>exact M
 |var f=>
  obtain⟨b,Y,t,y,j,G,e4⟩:=M
  exact⟨b,Y,t,y,j,by rw[<-f.size];exact f.dq _ _ G,by rw[<-f.size];exact e4⟩
 |log f=>
  rcases M with⟨y,j⟩|⟨b,g,J,y,j,G,e4,S,W,T⟩
  .subst j;exact .inl ⟨y,ybj f.len.symm⟩
  .exact .inr ⟨b,g,J,y,j,G,by rw[<-f.len];exact e4,S,f.all _ W,by rw[<-f.len];exact f.dq _ _ _ T⟩
 |map f=>
  obtain⟨b,Z,E,y,j,G,e4⟩:=M
  exact⟨b,Z,E,y,j,f.any G,e4⟩
 |perm f=>
  obtain⟨b,Z,E,y,j,⟨l',p,nd,r⟩,e4⟩:=M
  exact⟨b,Z,E,y,j,⟨l',p.trans f,(f.map _).nodup_iff.1 nd,r⟩,e4⟩
 |row f=>
  obtain⟨N,y,j⟩:=M;refine⟨N,by rw[<-f.2];exact y, ?_⟩;rcases j with j|⟨b,g,J,G,e4,S,W,T,X⟩
  .exact .inl j
  .exact .inr ⟨b,g,J,G,e4,S,W,T,f.1.dq _ _ X⟩
 |lock=>exact M
 |eD=>exact M
 |lj f=>
  obtain⟨b,Y,t,y,j,G,e4⟩:=M
  exact⟨b,Y,t,y,j,by rw[<-f.size];exact f.dq _ _ G,by rw[<-f.size];exact e4⟩
 |shr f=>
  obtain⟨N0,y,j⟩:=M;simp only[aR,yW,yn]at y;subst y;refine⟨_,yW rfl, ?_⟩;rcases j with⟨j,G⟩|⟨b,g,J,G,e4,S,W,T,X⟩
  .exact .inl ⟨j,by omega⟩
  .refine .inr ⟨b,g,J,G,e4,S,by omega,T, ?_⟩;simp only[yH,aB]at X ⊢;obtain⟨q1,q2,q3⟩:=X;refine⟨by rw[yaa];omega,λx hx=>q2 x (ybs hx), ?_⟩;have:=SK q2 q3 _ (show _<=_ from by rw[q1];exact f)
   rw[List.take_take,yay (ycb _ f)]at this;exact this
theorem Pl.cK:∀(xs:yL Pl),Pl.cV xs=xs.map Pl.soft
 |[]=>rfl
 |x::r=>by rw[Pl.cV,Pl.cK r];rfl
mutual
theorem mf:∀(x:Pl),bJ x x.soft
 |.int _ _=>bJ.refl _
 |.bool _=>bJ.refl _
 |.str _=>bJ.refl _
 |.bX=>bJ.refl _
 |.fn0=>bJ.refl _
 |.eG=>bJ.refl _
 |.cC=>bJ.refl _
 |.gx _=>bJ.refl _
 |.agg f=>by rw[Pl.soft];exact bJ.jD (cN f)
 |.arr n s f=>by rw[Pl.soft];exact bJ.jE (cN f)
 |.sl g s f=>by rw[Pl.soft];exact bJ.jG (bm.refl _)
 |.iface t x=>by rw[Pl.soft];exact bJ.jF (mf x)
theorem cN:∀(xs:yL Pl),bm xs (Pl.cV xs)
 |[]=>bm.nil
 |x::r=>by rw[Pl.cV];exact bm.cons (mf x) (cN r)
end
theorem BM(x:Pl):x.soft.size=x.size:=(mf x).size.symm
theorem bZ.append{a b c d:yL aq}(h:bZ a b)(k:bZ c d):bZ (a++c) (b++d):=by
 induction h with
 |nil=>exact k
 |cons h _ f=>exact .cons h f
theorem bZ.bE{e f:aq}:∀(l:yL aq)(i:Nat),eP e f->bZ (l.set i e) (l.set i f)
 |[],_,_=>.nil
 |x::l,0,h=>.cons h (bZ.refl l)
 |x::l,i+1,h=>.cons (.refl x) (bZ.bE l i h)
theorem bm.bE{x y:Pl}(h:bJ x y):∀(l:yL Pl)(i:Nat),bm (l.set i x) (l.set i y)
 |[],_=>.nil
 |z::l,0=>.cons h (bm.refl l)
 |z::l,i+1=>.cons (bJ.refl z) (bm.bE h l i)
theorem Vr{P:yg}{o:yj}{a:Act}{σ:Sg}{d d':Dv}{H1 H2:yL aq}(h:YL P o a σ d H1)(hd:Wk d d')(hH:bZ H1 H2):YL P o a σ d' H2:=by
 intro K Q m;refine h K Q λv y z f g j=> ?_;obtain⟨to,l⟩:=ll g (H':=H2) (by rw[z];exact hH);exact m v { y with H:=H2} rfl (f.trans to) l (hd.dv (Vo to.leaf j))
theorem uN{σ:Sg}:∀{f:yL Dv}{vs:yL yh},aH σ f vs->vs.length=f.length
 |[],vs,h=>by simp only[aH]at h;subst h;rfl
 |d::f,vs,h=>by
  simp only[aH]at h;obtain⟨v,g,rfl,_,j⟩:=h;simp[uN j]
theorem uO{σ:Sg}:∀{g:yL Dv}{vs:yL yh}{i:Nat}{d:Dv},aH σ g vs->g[i]? =ab d->∃v,vs[i]? =ab v/\yJ σ d v
 |[],vs,i,d,_,f=>by simp at f
 |x::g,vs,i,d,h,f=>by
  simp only[aH]at h;obtain⟨v,j,rfl,l,m⟩:=h
  cases i with
  |zero=>
   simp only[yam,yn]at f;subst f
   exact⟨v,rfl,l⟩
  |succ i=>
   simp only[yak]at f ⊢;exact uO m f
theorem QX{σ:Sg}:∀{f es:yL Dv}{vs us:yL yh},aH σ f vs->aH σ es us->aH σ (f++es) (vs++us)
 |[],es,vs,us,h,k=>by simp only[aH]at h;subst h;simpa using k
 |d::f,es,vs,us,h,k=>by
  simp only[aH]at h;obtain⟨v,g,rfl,j,l⟩:=h;simp only[yag,aH];exact⟨v,g++us,rfl,j,QX l k⟩
theorem BN{σ:Sg}{α:Type}(f:α->Dv)(g:α->yh)(h:∀x,yJ σ (f x) (g x)):∀(l:yL α),aH σ (l.map f) (l.map g)
 |[]=>by simp[aH]
 |x::l=>by
  simp only[yah,aH];exact⟨g x,l.map g,rfl,h x,BN f g h l⟩
theorem uP{w:yr}{S:Nat->Nat->Prop}{s:Nat}{xs:yL Pl}{A:yO Addr}{c l h:Nat}(hs:aW s xs)(hn:xs.length<=c)(E:c<=maxLen)(f:A=ad->c=0)
 (F:xs≠[]->∃b o us,A=ab ⟨b,o,ad⟩/\ar w S xs us/\Ww w S b o us) (h1:l<=h) (h2:h<=xs.length):
 aW s ((xs.take h).drop l)/\((xs.take h).drop l).length=h - l/\h - l<=c - l/\c - l<=maxLen/\(if c=l then A else A.map (·.add (l*s))).isSome=A.isSome/\
  ((if c=l then A else A.map (·.add (l*s)))=ad->c - l=0)/\
  ((xs.take h).drop l≠[]->∃b o us,(if c=l then A else A.map (·.add (l*s)))=ab ⟨b,o,ad⟩/\ar w S ((xs.take h).drop l) us/\Ww w S b o us):=by
 have z:((xs.take h).drop l).length=h - l:=by rw[List.length_drop,yaa,yay h2]
 refine⟨uJ (Vq hs _) _,z,by omega,by omega, ?_, ?_,λg=> ?_⟩
 .split
  .rfl
  .simp
 .split
  .omega
  .intro G;have j:A=ad:=by simpa using G
   have:=f j;omega
 .have I:l < h:=by
   rcases Nat.lt_or_ge l h with h3|h3
   .exact h3
   .exact absurd (ybj (by rw[z];omega)) g
  have m:xs≠[]:=by
   rintro rfl;simp at h2;omega
  obtain⟨b,o,us,rfl,h3,J⟩:=F m;have M:¬c=l:=by omega
  rw[yX M]
  have e:xs=xs.take l++((xs.take h).drop l++xs.drop h):=by
   have Q:(xs.take h).drop l++xs.drop h=xs.drop l:=by
    have:xs.drop l=(xs.take h++xs.drop h).drop l:=by rw[ybb]
    rw[this,List.drop_append_of_le_length (by rw[yaa];omega)]
   rw[Q,ybb]
  rw[e]at h3;obtain⟨R,Y,rfl,T,U⟩:=Z8 h3;obtain⟨W,Z,rfl,X,h8⟩:=Z8 U
  have y:R.length=l*s:=by
   rw[aL _ _ T,aN (Vq hs _),yaa,yay (by omega)]
  refine⟨b,o+l*s,W,by simp[Addr.bI],X, ?_⟩;have:=(Ww.append (Ww.append J).2).1
  rwa [y]at this
theorem nF{P:yg}{w:yr}(isSlice:Bool)(len cap:Nat)(lo hi:yO yh)(l h:yO Int)(hl:lo=ad/\l=ad\/∃k i,lo=ab (.int k i)/\l=ab i)
 (z:hi=ad/\h=ad\/∃k i,hi=ab (.int k i)/\h=ab i) (hc:aX (YQ len l h)) (zW:len<=cap):
 ∃a b,(Instr.sliceBounds isSlice len cap lo hi ad).run P w=.ok (a,b,cap) w/\a<=b/\b<=len/\a=(l.getD 0).toNat/\b=(h.getD (len:Int)).toNat:=by
 rcases hl with⟨rfl,rfl⟩|⟨k,i,rfl,rfl⟩ <;> rcases z with⟨rfl,rfl⟩|⟨E,f,rfl,rfl⟩
 .exact⟨0,len,by simp[Instr.sliceBounds],Nat.zero_le _,ym _,rfl,by simp⟩
 .obtain⟨g,m,_⟩:=hc;refine⟨0,f.toNat, ?_,Nat.zero_le _,by omega,rfl,rfl⟩;have j:0<=f/\f<=(cap:Int):=⟨g,by omega⟩;simp[Instr.sliceBounds,Instr.sliceBound,asIntOf,j]
 .obtain⟨g,m,_⟩:=hc;refine⟨i.toNat,len, ?_,by omega,ym _,rfl,by simp⟩;have j:0<=i/\i<=(len:Int):=⟨g,m⟩;simp[Instr.sliceBounds,Instr.sliceBound,asIntOf,j]
 .obtain⟨g,m,F,_⟩:=hc;refine⟨i.toNat,f.toNat, ?_,by omega,by omega,rfl,rfl⟩;have j:0<=f/\f<=(cap:Int):=⟨by omega,by omega⟩;have A:0<=i/\i<=(f.toNat:Int):=⟨g,by omega⟩;have y:i<=max f 0:=by omega
  simp[Instr.sliceBounds,Instr.sliceBound,asIntOf,j,g,y]
theorem uQ{α:Type}(xs:yL α)(l h:yO Int)(hc:aX (YQ xs.length l h)):Vp xs l h=(xs.take ((h.getD (xs.length:Int)).toNat)).drop ((l.getD 0).toNat):=by
 cases l <;> cases h <;> simp[Vp]
theorem YB{P:yg}{σ:Sg}{ts:yL Dv}{a:Act}(f:aD σ ts a){x:yO yp}{l:yO Int}(h:gA P ts x=ab l):
 x.map a.eval=ad/\l=ad\/∃k i,x.map a.eval=ab (.int k i)/\l=ab i:=by
 unfold gA at h;split at h
 .cases h;exact .inl ⟨rfl,rfl⟩
 .rename_i y;split at h
  .rename_i k i g;cases h;have:=Zq (P:=P) f 0 y;rw[g]at this;exact .inr ⟨k,i,by simp[ZD this],rfl⟩
  .cases h
end Go.Ev
end
section
namespace Go.Ev
section
variable{P:yg}{o:yj}{a:Act}{σ:Sg}{ts:yL Dv}{hs hs':yL ao}{C:yL Prop}{d:Dv}
theorem SL{e:yc}{t:yc}{s:Nat}{xs:yL Pl}{A:yO Addr}{c:Nat}{k:IntKind}{i:Int}{y:Pl}(ok:Ok σ)(hu:P.underlying t=ab (.slice e))(he:P.cellsOf e=s)
 (hi:(P.info? e).isSome=ae) (hs:aW s xs) (h:xs≠[]->∃b o us,A=ab ⟨b,o,ad⟩/\ar σ.w σ.bf xs us/\Ww σ.w σ.bf b o us) (j:0<=i) (g:xs[i.toNat]? =ab y):
 ∃v,(Instr.indexAt t (.slice A xs.length c) (.int k i)).run P σ.w=.ok v σ.w/\yJ σ (.elem y) v:=by
 have l:i.toNat < xs.length:=(yu.1 g).1
 have f:xs≠[]:=by
  grind
 obtain⟨b,o,us,rfl,m,z⟩:=h f;obtain⟨F,G,I⟩:=uL hs m z g;refine⟨.pointer (ab ⟨b,o+i.toNat*s,ad⟩), ?_, ?_⟩
 .have E:0<=i/\i < (xs.length:Int):=⟨j,by omega⟩;simp[Instr.indexAt,asIntOf,run_underlying hu,E,Z1 hi,he,Addr.bI]
 .rw[Zh (by rfl)];simp only[yH];grind
theorem qL{y:Pl}{v:yh}(h:yJ σ (.elem y) v):∃b o us,v=.pointer (ab ⟨b,o,ad⟩)/\aB σ.w σ.bf y us/\Ww σ.w σ.bf b o us:=by
 rw[Zh (by rfl)]at h;simpa[yH] using h
theorem lr{id off:Nat}{yQ:yL Nat}{v:yh}(h:yJ σ (.aj id off yQ) v):
 ∃b,σ.m[id]? =ab (ab b)/\(∃d st,σ.H[id]? =ab (.var d st))/\v=.pointer (ab ⟨b,off,ad⟩):=by
 rw[Zh (by rfl)]at h;simpa[yH] using h
theorem nG{id off s lo n:Nat}{yQ:yL Nat}{v:yh}(h:yJ σ (.view id off yQ s lo n) v):
 ∃b c a,σ.m[id]? =ab (ab b)/\(∃d st,σ.H[id]? =ab (.var d st))/\v=.slice (ab a) n c/\n<=c/\c<=maxLen/\(0 < n->a=⟨b,off+lo*s,ad⟩):=by
 rw[Zh (by rfl)]at h;simpa[yH] using h
theorem ji{id v s lo n:Nat}{u:yh}(h:yJ σ (.rv id v s lo n) u):
 ∃A c,u=.slice A n c/\n<=c/\c<=maxLen/\(A=ad->c=0)/\(0 < n->∃b o,A=ab ⟨b,o,ad⟩)/\rowAt σ id v s lo A c:=by
 rw[Zh (by rfl)]at h;simpa[yH] using h
theorem uR{id v off:Nat}{yQ:yL Nat}{u:yh}(h:yJ σ (.aZ id v off yQ) u):∃b o,u=.pointer (ab ⟨b,o,ad⟩)/\rowIs σ id v b o off:=by
 rw[Zh (by rfl)]at h;simpa[yH] using h
theorem BO{id v off b o:Nat}{yQ:yL Nat}(h:rowIs σ id v b o off):yJ σ (.aZ id v off yQ) (.pointer (ab ⟨b,o,ad⟩)):=by
 rw[Zh (by rfl)];simp only[yH];grind
theorem BP{id v b o off k:Nat}(h:rowIs σ id v b o off):rowIs σ id v b (o+k) (off+k):=by
 obtain⟨j,s,st,e,d,l,m,f⟩:=h;exact⟨j,s,st,e,d,l,m,λg=>⟨(f g).1,by rw[(f g).2]⟩⟩
theorem ZEM{id v s lo c b o:Nat}(h:rowAt σ id v s lo (ab ⟨b,o,ad⟩) c)(hc:0 < c):rowIs σ id v b o (lo*s):=by
 obtain⟨f,g,st,e,d,j,l,m⟩:=h;refine⟨f,g,st,e,d,j,l,λy=> ?_⟩
 all_goals grind
theorem SM{id v s lo c l:Nat}{A:yO Addr}(h:rowAt σ id v s lo A c)(hl:l<=c):rowAt σ id v s (lo+l) (if c=l then A else A.map (·.add (l*s))) (c - l):=by
 obtain⟨m,y,st,e,d,z,E,F⟩:=h;refine⟨m,y,st,e,d,z,E,λG=> ?_⟩;obtain⟨I,J⟩:=F G;refine⟨I, ?_⟩;rcases J with⟨g,rfl,j⟩|⟨b,f,g,j,M,Q⟩
 .grind
 .refine .inr ⟨b,f,g,j,by rw[M];congr 1;omega,λR=> ?_⟩;rw[yX (by omega),Q (by omega)];simp[Addr.bI,yba]
theorem SN{id v s lo n c l h:Nat}{A:yO Addr}(h2:n<=c)(h3:c<=maxLen)(h4:A=ad->c=0)(h5:0 < c->∃b o,A=ab ⟨b,o,ad⟩)(h6:rowAt σ id v s lo A c)(hl:l<=h)(f:h<=c):
 yJ σ (.rv id v s (lo+l) (h - l)) (.slice (if c=l then A else A.map (·.add (l*s))) (h - l) (c - l)):=by
 rw[Zh (by rfl)];simp only[yH];refine⟨_,_,rfl,by omega,by omega,λg=> ?_,λj=> ?_,SM h6 (by omega)⟩
 .all_goals grind
 .obtain⟨b,o,rfl⟩:=h5 (by omega);rw[yX (by omega)];exact⟨b,o+l*s,by simp[Addr.bI]⟩
theorem uS{f:yw}{cap:yL Dv}{v:yh}(h:yJ σ (.fn f cap) v):∃g cs,v=.func (.func (fV f)) g cs/\(if f < big then g else cs)= #[]/\aH σ cap (g++cs).toList:=by
 rw[Zh (by rfl)]at h;simpa[yH] using h
theorem SP{f:yw}{cap:yL Dv}{v:yh}(j:f < big)(h:yJ σ (.fn f cap) v):∃cs,v=.func (.func f) #[] cs/\aH σ cap cs.toList:=by
 obtain⟨m,cs,l,g,y⟩:=uS h;rw[yW j]at g;subst g;unfold fV at l;grind
theorem ZxF{t:yc}{x ix:yp}(ok:Ok σ)(yM:aD σ ts a)(ho:o.op=.indexAddr t x ix)(h:bj P o ts hs=ab (C,d,hs'))(hc:aX C):YL P o a σ d σ.H:=by
 simp only[bj,ho]at h;have l:=Zq (P:=P) yM t x;have f:=Zq (P:=P) yM 0 ix
 have run:∀v,(Instr.indexAt t (a.eval x) (a.eval ix)).run P σ.w=.ok v σ.w->(execOp a.eval o).run P σ.w=.ok (.value v) σ.w:=λv F=>by
  simp[execOp,ho,F]
 split at h
 .rename_i e nn s X k i E g j;rw[g]at l;rw[j]at f;split at h
  .rename_i y J;split at h
   .rename_i m;simp only[yi,yP]at m;cases h;obtain⟨z,A,c,F,M,R,S,T,Q⟩:=X2 l;obtain⟨v,U,W⟩:=SL (k:=k) (c:=c) ok E m.1 m.2 z Q hc.1 hc.2.1;exact Zk ok (run v (by rw[F,ZD f];exact U)) W
   .cases h
  .cases h
 .rename_i e id nn s X k i E g j;rw[g]at l;rw[j]at f;split at h
  .rename_i y J;split at h
   .rename_i m;simp only[yi,yP]at m;cases h;obtain⟨z,A,c,F,M,R,S,T,Q,_⟩:=QV l;obtain⟨v,U,W⟩:=SL (k:=k) (c:=c) ok E m.1 m.2 z Q hc.1 hc.2.1;exact Zk ok (run v (by rw[F,ZD f];exact U)) W
   .cases h
  .cases h
 .rename_i e id off yQ s lo n k i E g j;rw[g]at l;rw[j]at f;split at h
  .rename_i m;simp only[yi,yP]at m;cases h;obtain⟨G,z,_⟩:=hc;obtain⟨b,c,aa,Y,F,l,M,R,S⟩:=nG l;have e1:=S (by omega);subst e1;refine Zk (v:=.pointer (ab ⟨b,off+(lo+i.toNat)*s,ad⟩)) ok (run _ ?_) ?_
   .rw[l,ZD f];have I:0<=i/\i < (n:Int):=⟨G,z⟩;simp[Instr.indexAt,asIntOf,run_underlying E,I,Z1 m.2,m.1,Addr.bI,yba,Nat.add_assoc]
   .rw[Zh (by rfl)];simp only[yH];exact⟨b,Y,F,rfl⟩
  .cases h
 .rename_i e id v s lo n k i E g j;rw[g]at l;rw[j]at f;split at h
  .rename_i m;simp only[yi,yP]at m;cases h;obtain⟨G,z,_⟩:=hc;obtain⟨A,c,l,M,R,S,T,Q⟩:=ji l;obtain⟨b,Z,rfl⟩:=T (by omega);refine Zk (v:=.pointer (ab ⟨b,Z+i.toNat*s,ad⟩)) ok (run _ ?_) ?_
   .rw[l,ZD f];have I:0<=i/\i < (n:Int):=⟨G,z⟩;simp[Instr.indexAt,asIntOf,run_underlying E,I,Z1 m.2,m.1,Addr.bI]
   .rw[yba];exact BO (BP (ZEM Q (by omega)))
  .cases h
 .rename_i n e id v off yQ k i E g j;rw[g]at l;rw[j]at f;split at h
  .rename_i m;cases h;obtain⟨G,z,_⟩:=hc;obtain⟨b,Z,l,M⟩:=uR l;refine Zk (v:=.pointer (ab ⟨b,Z+i.toNat*P.cellsOf e,ad⟩)) ok (run _ ?_) ?_
   .rw[l,ZD f];have I:0<=i/\i < (n:Int):=⟨G,z⟩;simp[Instr.indexAt,asIntOf,run_underlying E,I,Z1 m,Instr.sureAddr,Addr.bI]
   .exact BO (BP M)
  .cases h
 .rename_i n e id off yQ k i E g j;rw[g]at l;rw[j]at f;split at h
  .rename_i m;cases h;obtain⟨G,z,_⟩:=hc;obtain⟨b,Y,F,l⟩:=lr l;refine Zk (v:=.pointer (ab ⟨b,off+i.toNat*P.cellsOf e,ad⟩)) ok (run _ ?_) ?_
   .rw[l,ZD f];have I:0<=i/\i < (n:Int):=⟨G,z⟩;simp[Instr.indexAt,asIntOf,run_underlying E,I,Z1 m,Instr.sureAddr,Addr.bI]
   .rw[Zh (by rfl)];simp only[yH];exact⟨b,Y,F,rfl⟩
  .cases h
 .rename_i n e n' s X k i E g j;rw[g]at l;rw[j]at f;split at h
  .rename_i y J;split at h
   .rename_i m;simp only[yi,yP]at m;obtain⟨⟨rfl,m⟩,hk2⟩:=m;cases h;obtain⟨G,z,_⟩:=hc;obtain⟨b,off,us,l,M,R⟩:=qL l;simp only[aB]at M;obtain⟨S,T,Q⟩:=M;obtain⟨uy,U,W⟩:=uL T Q R z;have hlt:i.toNat < X.length:=(yu.1 z).1;refine Zk (v:=.pointer (ab ⟨b,off+i.toNat*s,ad⟩)) ok (run _ ?_) ?_
    .rw[l,ZD f];have I:0<=i/\i < (n:Int):=⟨G,by omega⟩;simp[Instr.indexAt,asIntOf,run_underlying E,I,Z1 hk2,m,Instr.sureAddr,Addr.bI]
    .rw[Zh (by rfl)];simp only[yH];exact⟨b,_,uy,rfl,U,W⟩
   .cases h
  .cases h
 .cases h
theorem ZH6{t:yc}{x:yp}{lo hi:yO yp}(ok:Ok σ)(y:aD σ ts a)(ho:o.op=.slice t x lo hi ad)(h:bj P o ts hs=ab (C,d,hs'))(hc:aX C):YL P o a σ d σ.H:=by
 simp only[bj,ho]at h;have j:=Zq (P:=P) y t x
 have run:∀v,(Instr.sliceAt t (a.eval x) (lo.map a.eval) (hi.map a.eval) ad).run P σ.w=.ok v σ.w->(execOp a.eval o).run P σ.w=.ok (.value v) σ.w:=λv I=>by
  simp[execOp,ho,I]
 split at h
 .rename_i e nn s M l r E g F G;rw[g]at j;split at h
  .rename_i f;simp only[yi,yP]at f;cases h;obtain⟨h1,A,c,I,z,S,J,W,T⟩:=X2 j;obtain⟨p,q,m,Q,U,rfl,rfl⟩:=nF (P:=P) (w:=σ.w) ae M.length c _ _ _ _ (YB y F) (YB y G) hc z;obtain⟨Y,R,Z,k4,k5,k6,k7⟩:=uP h1 z S W T Q U;refine Zk ok (run _ (by rw[I];simp[Instr.sliceAt,Instr.slice,run_underlying E,m,Z1 f.2,f.1];rfl)) ?_;rw[uQ M l r hc, <-R];exact Yy Y (by rw[R];exact Z) k4 (λb m=>by rw[k5];exact J b m) k6 k7
  .cases h
 .rename_i e id nn s M l r E g F G;rw[g]at j;split at h
  .rename_i f;simp only[yi,yP]at f;cases h;obtain⟨h1,A,c,I,z,S,J,W,T,_⟩:=QV j;obtain⟨p,q,m,Q,U,rfl,rfl⟩:=nF (P:=P) (w:=σ.w) ae M.length c _ _ _ _ (YB y F) (YB y G) hc z;obtain⟨Y,R,Z,k4,k5,k6,k7⟩:=uP h1 z S W T Q U;refine Zk ok (run _ (by rw[I];simp[Instr.sliceAt,Instr.slice,run_underlying E,m,Z1 f.2,f.1];rfl)) ?_;rw[uQ M l r hc, <-R];exact Yy Y (by rw[R];exact Z) k4 (λb m=>by rw[k5];exact J b m) k6 k7
  .cases h
 .rename_i e id off yQ s lo n l r E g F G;rw[g]at j;split at h
  .rename_i f;simp only[yi,yP]at f;cases h;obtain⟨b,c,aa,X,I,j,z,S,J⟩:=nG j;obtain⟨p,q,m,Q,U,rfl,rfl⟩:=nF (P:=P) (w:=σ.w) ae n c _ _ _ _ (YB y F) (YB y G) hc z;refine Zk ok (run _ (by rw[j];simp[Instr.sliceAt,Instr.slice,run_underlying E,m,Z1 f.2,f.1];rfl)) ?_;rw[Zh (by rfl)];simp only[yH];by_cases hcl:c=(l.getD 0).toNat
   .exact⟨b,c - (l.getD 0).toNat,aa,X,I,by rw[yW hcl],by omega,by omega,λh0=>absurd h0 (by omega)⟩
   .refine⟨b,c - (l.getD 0).toNat,aa.add ((l.getD 0).toNat*s),X,I,by rw[yX hcl],by omega,by omega,λh0=> ?_⟩;rw[J (by omega),Addr.bI,yba,Nat.add_assoc]
  .cases h
 .rename_i e id v s lo n l r E g F G;rw[g]at j;split at h
  .rename_i hs'';split at h
   .rename_i f;simp only[yi,yP]at f;cases h;obtain⟨A,c,j,z,S,J,W,T⟩:=ji j;obtain⟨p,q,m,Q,U,rfl,rfl⟩:=nF (P:=P) (w:=σ.w) ae n c _ _ _ _ (YB y F) (YB y G) hc z;refine Zk ok (run _ (by rw[j];simp[Instr.sliceAt,Instr.slice,run_underlying E,m,Z1 f.2,f.1];rfl)) ?_;by_cases hz:0 < (r.getD (n:Int)).toNat - (l.getD 0).toNat
    .obtain⟨b,o',rfl⟩:=W (by omega);exact SN z S J (λ_=>⟨b,o',rfl⟩) T Q (by omega)
    .rw[Zh (by rfl)];simp only[yH];refine⟨_,_,rfl,by omega,by omega,λhA=> ?_,λhp=>absurd hp hz,SM T (by omega)⟩;split at hA
     .omega
     .have hA':A=ad:=by simpa using hA
      have:=J hA';omega
   .cases h
  .cases h
 .rename_i n e n' s M l r E g F G;rw[g]at j;split at h
  .rename_i f;simp only[yi,yP]at f;obtain⟨⟨⟨rfl,f⟩,hk2⟩,X⟩:=f;cases h;obtain⟨b,off,us,hx',z,S⟩:=qL j;simp only[aB]at z;obtain⟨J,W,T⟩:=z;subst J;obtain⟨p,q,m,Q,U,rfl,rfl⟩:=nF (P:=P) (w:=σ.w) af M.length M.length _ _ _ _ (YB y F) (YB y G) hc (ym _);obtain⟨Y,R,Z,k4,k5,k6,k7⟩:=uP (A:=ab ⟨b,off,ad⟩) W (ym _) X (λhA=>by cases hA) (λ_=>⟨b,off,us,rfl,T,S⟩) Q U;refine Zk ok (run _ (by rw[hx'];simp[Instr.sliceAt,Instr.sureAddr,run_underlying E,m,Z1 hk2,f];rfl)) ?_;rw[uQ M l r hc, <-R];have:=Yy (σ:=σ) Y (by rw[R];exact Z) k4 (QT k5) k6 k7;rw[R]at this ⊢;simpa[apply_ite] using this
  .cases h
 .rename_i n e id off yQ l r E g F G;rw[g]at j;split at h
  .rename_i hs'';split at h
   .rename_i f;simp only[yi,yP]at f;obtain⟨f,hm'⟩:=f;cases h;obtain⟨b,X,I,j⟩:=lr j;obtain⟨p,q,m,Q,U,rfl,rfl⟩:=nF (P:=P) (w:=σ.w) af n n _ _ _ _ (YB y F) (YB y G) hc (ym _);refine Zk ok (run _ (by rw[j];simp[Instr.sliceAt,Instr.sureAddr,run_underlying E,m,Z1 f];rfl)) ?_;rw[Zh (by rfl)];simp only[yH];refine⟨b,_,_,X,I,rfl,by omega,by omega,λh0=> ?_⟩;rw[yX (by omega),Addr.bI]
   .cases h
  .cases h
 .cases h
theorem ZxG{P:yg}{w:yr}(isSlice:Bool)(len cap:Nat){k1 k2 k3:IntKind}{l h m:Int}(f:0<=l)(h1:l<=h)(h2:h<=m)(h3:m<=(cap:Int)):
 (Instr.sliceBounds isSlice len cap (ab (.int k1 l)) (ab (.int k2 h)) (ab (.int k3 m))).run P w=.ok (l.toNat,h.toNat,m.toNat) w:=by
 have g:0<=m/\m<=(cap:Int):=⟨by omega,h3⟩;have j:0<=h/\h<=(m.toNat:Int):=⟨by omega,by omega⟩;have y:0<=l/\l<=(h.toNat:Int):=⟨f,by omega⟩;simp[Instr.sliceBounds,Instr.sliceBound,asIntOf,g,j,y];grind
theorem ZEP{t:yc}{x:yp}{lo hi:yO yp}{j:yp}(ok:Ok σ)(f:aD σ ts a)(ho:o.op=.slice t x lo hi (ab j))(h:bj P o ts hs=ab (C,d,hs'))(hc:aX C):YL P o a σ d σ.H:=by
 simp only[bj,ho]at h;have g:=Zq (P:=P) f t x;split at h
 .rename_i e id v s l0 n l r m I y J M Q;rw[y]at g;split at h
  .rename_i z;cases h;obtain⟨R,S,T,c4,_⟩:=hc;obtain⟨A,c,g,h2,h3,_⟩:=ji g;rcases YB f J with⟨_,q⟩|⟨U,i1,W,X⟩
   .cases q
   rcases YB f M with⟨_,q⟩|⟨Y,i2,Z,q2⟩
   .cases q
   rcases YB f Q with⟨_,q⟩|⟨G,i3,e3,q3⟩
   .cases q
   cases X;cases q2;cases q3;have hb:=ZxG (P:=P) (w:=σ.w) ae n c (k1:=U) (k2:=Y) (k3:=G) R S T (by omega:m<=(c:Int))
   have E:∃u,(Instr.sliceAt t (a.eval x) (lo.map a.eval) (hi.map a.eval) (ab (a.eval j))).run P σ.w=.ok u σ.w:=by
    have F:a.eval j=.int G m:=by simpa using e3
    rw[g,W,Z,F];exact⟨_,by simp[Instr.sliceAt,Instr.slice,run_underlying I,hb,Z1 z];rfl⟩
   obtain⟨u,E⟩:=E;exact Zk (v:=u) ok (by simp[execOp,ho,E]) Yr
  .cases h
 .cases h
end
end Go.Ev
end
section
namespace Go.Ev
theorem SQ(off:Nat):∀(vs:yL yh)(k:Nat)(cs:Array yh),off+k+vs.length<=cs.size->
 ((vs.zipIdx k).foldl (λcs q=>cs.setIfInBounds (off+q.2) q.1) cs).toList=cs.toList.take (off+k)++vs++cs.toList.drop (off+k+vs.length)
 |[],k,cs,_=>by simp
 |v::vs,k,cs,h=>by
  simp only[List.zipIdx_cons,List.foldl_cons,yaf]at h ⊢;rw[SQ off vs (k+1) _ (by simp;omega)];apply ybq;intro j;have A:cs.toList.length=cs.size:=yax;simp only[Array.toList_setIfInBounds,List.getElem?_append,yl,yaa,ybu,A,ycd,ybx,List.getElem?_drop,yaf];by_cases z:j < off+k
  .have l:j < min (off+(k+1)) cs.size:=by omega
   have y:j < min (off+k) cs.size:=by omega
   have f:¬(off+k=j):=by omega
   have e4:j < off+(k+1):=by omega
   have m:j < min (off+(k+1)) cs.size+vs.length:=by omega
   have g:j < min (off+k) cs.size+(vs.length+1):=by omega
   simp[l,y,f,e4,m,g,z]
  .by_cases E:j=off+k
   .subst E;have l:off+k < min (off+(k+1)) cs.size:=by omega
    have y:¬(off+k < min (off+k) cs.size):=by omega
    have f:min (off+k) cs.size=off+k:=by omega
    have e4:off+k < min (off+(k+1)) cs.size+vs.length:=by omega
    have m:off+k < cs.size:=by omega
    have g:off+k < off+(k+1):=by omega
    simp[l,f,e4,m,g]
   .by_cases I:j < off+(k+1)+vs.length
    .have l:¬(j < min (off+(k+1)) cs.size):=by omega
     have y:¬(j < min (off+k) cs.size):=by omega
     have f:min (off+k) cs.size=off+k:=by omega
     have e4:min (off+(k+1)) cs.size=off+(k+1):=by omega
     have m:j < off+k+(vs.length+1):=by omega
     have g:j < off+(k+1)+vs.length:=by omega
     have F:j - (off+k)=(j - (off+(k+1)))+1:=by omega
     have G:¬(j < off+(k+1)):=by omega
     simp[f,e4,m,g,z,F,G]
    .have l:min (off+k) cs.size=off+k:=by omega
     have y:min (off+(k+1)) cs.size=off+(k+1):=by omega
     have f:¬(j < off+(k+1)+vs.length):=by omega
     have e4:¬(j < off+k+(vs.length+1)):=by omega
     have m:¬(off+k=off+(k+1)+vs.length+(j - (off+(k+1)+vs.length))):=by omega
     have g:off+(k+1)+vs.length+(j - (off+(k+1)+vs.length))=off+k+(vs.length+1)+(j - (off+k+(vs.length+1))):=by omega
     simp only[l,y,f,e4,if_false,g];rw[yX (by omega)]
theorem ZEQ(off:Nat)(vs cs:Array yh)(h:off+vs.size<=cs.size):
 (vs.zipIdx.foldl (λcs(q:yh×Nat)=>cs.setIfInBounds (off+q.2) q.1) cs).toList=cs.toList.take off++vs.toList++cs.toList.drop (off+vs.size):=by
 have:=SQ off vs.toList 0 cs (by simpa using h);simp only[Nat.add_zero,yax]at this;rw[<-this, <-Array.foldl_toList,Array.toList_zipIdx]
theorem oX:∀(f:yL Dv),Dv.sizes f=(f.map Dv.size).sum
 |[]=>rfl
 |d::f=>by simp[Dv.sizes,oX f]
theorem oY:∀(f:yL Pl),Pl.sizes f=(f.map Pl.size).sum
 |[]=>rfl
 |d::f=>by simp[Pl.sizes,oY f]
theorem SR{σ:Sg}{d:Dv}{v:yh}(hd:d.isAgg=ae\/v.oneCell'=ae)(h:yJ σ d v):yH σ d v.cells.toList:=by
 cases f:d.isAgg with
 |true=>
  obtain⟨j,rfl,g⟩:=(ZY f).1 h
  exact g
 |false=>
  have g:=(Zh f).1 h
  have:v.cells= #[v]:=by
   rcases hd with hd|hd
   .rw[f]at hd;cases hd
   .cases v <;> first|rfl|(simp[Value.oneCell']at hd)
  rw[this];exact g
mutual
theorem qM{σ:Sg}:∀(d:Dv)(vs:yL yh),d.bF=ae->yH σ d vs->∀u,u∈vs->u.oneCell'=ae
 |.p x,vs,_,h,u,f=>by simp only[yH]at h;exact BJ x vs h u f
 |.elem _,_,_,h,u,f=>by simp only[yH]at h;obtain⟨b,o,l,rfl,_⟩:=h;cases ybc.1 f;rfl
 |.aj _ _ _,_,_,h,u,f=>by simp only[yH]at h;obtain⟨b,_,_,rfl⟩:=h;cases ybc.1 f;rfl
 |.own _ _ _ _,_,_,h,u,f=>by simp only[yH]at h;obtain⟨_,A,c,rfl,_⟩:=h;cases ybc.1 f;rfl
 |.view _ _ _ _ _ _,_,_,h,u,f=>by simp only[yH]at h;obtain⟨b,c,a,_,_,rfl,_⟩:=h;cases ybc.1 f;rfl
 |.agg g,vs,hs,h,u,f=>by simp only[yH]at h;simp only[Dv.bF]at hs;exact ew g vs hs h u f
 |.arr n s g,vs,hs,h,u,f=>by simp only[yH]at h;simp only[Dv.bF]at hs;exact ew g vs hs h.2.2 u f
 |.fn _ _,_,_,h,u,f=>by simp only[yH]at h;obtain⟨m,j,rfl,_⟩:=h;cases ybc.1 f;rfl
 |.iface _ _,_,_,h,u,f=>by simp only[yH]at h;obtain⟨j,rfl,_⟩:=h;cases ybc.1 f;rfl
 |.bp _,_,hs,_,_,_=>by simp[Dv.bF]at hs
 |.mp _,_,_,h,u,f=>by simp only[yH]at h;obtain⟨b,_,_,rfl⟩:=h;cases ybc.1 f;rfl
 |.rv _ _ _ _ _,_,_,h,u,f=>by simp only[yH]at h;obtain⟨A,c,rfl,_⟩:=h;cases ybc.1 f;rfl
 |.aZ _ _ _ _,_,_,h,u,f=>by simp only[yH]at h;obtain⟨b,o,rfl,_⟩:=h;cases ybc.1 f;rfl
 |.an,_,hs,_,_,_=>by simp[Dv.bF]at hs
theorem ew{σ:Sg}:∀(j:yL Dv)(vs:yL yh),Dv.ej j=ae->aM σ j vs->∀u,u∈vs->u.oneCell'=ae
 |[],_,_,h,u,f=>by simp only[aM]at h;subst h;cases f
 |x::l,vs,hs,h,u,f=>by
  simp only[Dv.ej,yi]at hs;simp only[aM]at h;obtain⟨m,g,rfl,y,z⟩:=h;rcases ycm.1 f with h3|h3
  .exact qM x m hs.1 y u h3
  .exact ew l g hs.2 z u h3
end
theorem Vj{σ:Sg}{d:Dv}{v:yh}(hs:d.bF=ae)(h:yJ σ d v):yH σ d v.cells.toList:=by
 cases f:d.isAgg with
 |true=>exact SR (.inl f) h
 |false=>
  have g:=(Zh f).1 h;exact SR (.inr (qM d _ hs g v (by simp))) h
theorem qN{σ:Sg}{place:Nat->yO (Nat×Nat)}{sz:yL Nat}(hp:∀i s,sz[i]? =ab s->place i=ab ((sz.take i).sum,s)):
 ∀(parts:yL (Nat×Dv×yh))(A y:yL Dv)(cells:Array yh),A.map Dv.size=sz->aM σ A cells.toList->(∀q,q∈parts->q.2.1.bF=ae/\yJ σ q.2.1 q.2.2)->
  iK A (parts.map λq=>(q.1,q.2.1))=ab y->∃f,Instr.fill place cells (parts.map λq=>(q.1,q.2.2))=ab f/\aM σ y f.toList/\y.map Dv.size=sz
 |[],A,y,cells,z,M,_,h=>by
  simp only[List.map_nil,iK,yn]at h;subst h
  exact⟨cells,rfl,M,z⟩
 |(i,d,v)::yK,A,y,cells,z,M,Z,h=>by
  simp only[yah,iK,yf]at h;obtain⟨ds1,F,h2⟩:=h;unfold uF at F;split at F
  .rename_i old l;split at F
   .rename_i g;cases F;obtain⟨a,b,c,e,ha,hb,Q,h3,h4⟩:=md M l;obtain⟨R,S⟩:=Z (i,d,v) (yau ..);have m:=Vj R S;have T:v.cells.toList.length=d.size:=XC _ _ m;have hi:i < A.length:=(yu.1 l).1;have G:sz[i]? =ab d.size:=by rw[<-z,yao,l];simp[g]
    have U:=hp i _ G;have I:(sz.take i).sum=a.length:=by rw[ha,oX, <-z,List.map_take]
    have hcs:cells.size=a.length+(b.length+c.length):=by
     rw[<-yax,e];simp
    have J:b.length=d.size:=by rw[Q,g]
    have W:v.cells.size=d.size:=by rw[<-T,yax]
    have E:=qN hp yK (A.set i d) y (v.cells.zipIdx.foldl (λcs(q:yh×Nat)=>cs.setIfInBounds (a.length+q.2) q.1) cells) (by
     rw[<-z,List.map_set,g.symm];apply ybq;intro j;rw[ybx];split
     .rename_i X;subst X;rw[yao,l];simp[hi]
     .rfl) (by
     rw[ZEQ _ _ _ (by omega),e];have e1:(a++(b++c)).take a.length=a:=by simp
     have e2:(a++(b++c)).drop (a.length+v.cells.size)=c:=by
      rw[W, <-J, <-yac, <-yl];simp
     rw[e1,e2,yac]
     have e3:A.set i d=A.take i++(d::A.drop (i+1)):=by
      rw[List.set_eq_take_append_cons_drop,yW hi]
     rw[e3];refine qI h3 ?_;simp only[aM];exact⟨_,_,rfl,m,h4⟩) (λq Y=>Z q (yav _ Y)) h2
    obtain⟨f,k1,k2,k3⟩:=E;refine⟨f, ?_,k2,k3⟩;simp only[yah,Instr.fill,U,I];rw[yX (by simp;omega)];exact k1
   .cases F
  .cases F
theorem BQ{σ:Sg}:∀{j:yL Dv}{xs:yL Pl}{us:yL yh},jz j=ab xs->aM σ j us->ar σ.w σ.bf xs us
 |[],xs,us,h,g=>by simp only[jz,yn]at h;subst h;simpa[aM,ar] using g
 |d::j,xs,us,h,g=>by
  simp only[jz]at h;split at h
  .rename_i x Q f m;cases h;simp only[aM]at g;obtain⟨a,b,rfl,l,y⟩:=g;simp only[ar];refine⟨a,b,rfl, ?_,BQ m y⟩;unfold Dv.plain at f;split at f
   .cases f;simpa[yH] using l
   .cases f;simp only[yH]at l;obtain⟨z,A,c,E,F,G,I,J,M,_⟩:=l;simp only[aB];exact⟨z,A,c,E,F,G,I,J,M⟩
   .cases f
  .cases h
theorem SS:∀{g:yL Dv}{xs:yL Pl},jz g=ab xs->xs.map Pl.size=g.map Dv.size
 |[],xs,h=>by simp only[jz,yn]at h;subst h;rfl
 |d::g,xs,h=>by
  simp only[jz]at h;split at h
  .rename_i x l f j;cases h;simp only[yah,SS j];congr 1;unfold Dv.plain at f;split at f <;> first|(cases f;rfl)|cases f
  .cases h
mutual
theorem uT:∀(d:Dv)(x:Pl),d.flat=ab x->x.size=d.size
 |.p y,x,h=>by rw[Dv.flat]at h;cases h;rfl
 |.own id l s g,x,h=>by rw[Dv.flat]at h;cases h;rfl
 |.agg j,x,h=>by
  rw[Dv.flat]at h
  cases f:Dv.aS j with
  |none=>rw[f]at h;cases h
  |some g=>
   rw[f]at h;cases h;rw[Pl.size,Dv.size]
   exact fa j g f
 |.elem _,x,h=>by simp[Dv.flat]at h
 |.aj _ _ _,x,h=>by simp[Dv.flat]at h
 |.view _ _ _ _ _ _,x,h=>by simp[Dv.flat]at h
 |.arr _ _ _,x,h=>by simp[Dv.flat]at h
 |.fn _ _,x,h=>by simp[Dv.flat]at h
 |.iface _ _,x,h=>by simp[Dv.flat]at h
 |.bp _,x,h=>by simp[Dv.flat]at h
 |.mp _,x,h=>by simp[Dv.flat]at h
 |.rv _ _ _ _ _,x,h=>by simp[Dv.flat]at h
 |.aZ _ _ _ _,x,h=>by simp[Dv.flat]at h
 |.an,x,h=>by simp[Dv.flat]at h
theorem fa:∀(f:yL Dv)(xs:yL Pl),Dv.aS f=ab xs->Pl.sizes xs=Dv.sizes f
 |[],xs,h=>by rw[Dv.aS]at h;cases h;rfl
 |d::f,xs,h=>by
  rw[Dv.aS]at h;split at h
  .rename_i x g j l;cases h;rw[Pl.sizes,Dv.sizes,uT d x j,fa f g l]
  .cases h
end
theorem ST:∀{f:yL Dv}{xs:yL Pl},Dv.aS f=ab xs->xs.map Pl.size=f.map Dv.size
 |[],xs,h=>by rw[Dv.aS]at h;cases h;rfl
 |d::f,xs,h=>by
  rw[Dv.aS]at h;split at h
  .rename_i x l g j;cases h;simp only[yah,ST j,uT d x g]
  .cases h
mutual
theorem SU:∀(d:Dv)(x:Pl),d.flat=ab x->d.bF=ae
 |.p y,x,h=>rfl
 |.own id l s f,x,h=>rfl
 |.agg g,x,h=>by
  rw[Dv.flat]at h
  cases j:Dv.aS g with
  |none=>rw[j]at h;cases h
  |some f=>rw[Dv.bF];exact eK g f j
 |.elem _,x,h=>by simp[Dv.flat]at h
 |.aj _ _ _,x,h=>by simp[Dv.flat]at h
 |.view _ _ _ _ _ _,x,h=>by simp[Dv.flat]at h
 |.arr _ _ _,x,h=>by simp[Dv.flat]at h
 |.fn _ _,x,h=>by simp[Dv.flat]at h
 |.iface _ _,x,h=>by simp[Dv.flat]at h
 |.bp _,x,h=>by simp[Dv.flat]at h
 |.mp _,x,h=>by simp[Dv.flat]at h
 |.rv _ _ _ _ _,x,h=>by simp[Dv.flat]at h
 |.aZ _ _ _ _,x,h=>by simp[Dv.flat]at h
 |.an,x,h=>by simp[Dv.flat]at h
theorem eK:∀(f:yL Dv)(xs:yL Pl),Dv.aS f=ab xs->Dv.ej f=ae
 |[],xs,h=>rfl
 |d::f,xs,h=>by
  rw[Dv.aS]at h;split at h
  .rename_i x g j l;rw[Dv.ej,SU d x j,eK f g l];rfl
  .cases h
end
theorem SV:∀{g:yL Dv}{xs:yL Pl},Dv.aS g=ab xs->∀d,d∈g->d.bF=ae
 |[],_,_,d,f=>by cases f
 |x::g,xs,h,d,f=>by
  rw[Dv.aS]at h;split at h
  .rename_i y m j l
   cases f with
   |head=>exact SU _ _ j
   |tail _ f=>exact SV l d f
  .cases h
theorem ZC5{σ:Sg}{f:yL Dv}{xs:yL Pl}{us:yL yh}(h:Dv.aS f=ab xs)(g:aM σ f us):ar σ.w σ.bf xs us:=ep f xs us h g
theorem ZC6{σ:Sg}{f:yL Dv}{cs:Array yh}(g:aM σ f cs.toList):yJ σ (qC f) (.agg cs):=by
 unfold qC;split
 .rename_i j h;rw[ZY rfl];exact⟨cs,rfl,by simp only[yH,aB];exact BQ h g⟩
 .rw[ZY rfl];exact⟨cs,rfl,by simp only[yH];exact g⟩
theorem BR{P:yg}{σ:Sg}{t:yc}{d:Dv}(h:bg P t=d)(f:d≠ .an):∃i v,P.info? t=ab i/\i.zero=ab v/\yJ σ d v:=by
 unfold bg at h;split at h
 .rename_i i g;split at h
  .rename_i v j;exact⟨i,v,g,j,by rw[<-h];exact ny⟩
  .exact absurd h.symm f
 .exact absurd h.symm f
theorem BS{P:yg}:∀(j:yL Field),(∀f,f∈j->(P.info? f.type).isSome=ae)->
 j.mapM (λf=>(P.info? f.type).map λi=>(f.offset,i.size))=ab (j.map λf=>(f.offset,P.cellsOf f.type))
 |[],_=>by simp
 |f::j,h=>by
  have m:=h f (yau ..)
  cases l:P.info? f.type with
  |none=>simp[l]at m
  |some i=>
   simp[List.mapM_cons,l,BS j (λg y=>h g (yav _ y)),Program.cellsOf]
section
variable{P:yg}{o:yj}{a:Act}{σ:Sg}{ts:yL Dv}{hs hs':yL ao}{C:yL Prop}{d:Dv}
theorem uU(j:aD σ ts a)(f:Nat->yc)(parts:yL (Nat×yp))(g:mb (gZ P ts f parts)=ae):
 ∃h:yL (Nat×Dv×yh),(h.map λq=>(q.1,q.2.1))=gZ P ts f parts/\(h.map λq=>(q.1,q.2.2))=parts.map (λq=>(q.1,a.eval q.2))/\(∀q,q∈h->q.2.1.bF=ae/\yJ σ q.2.1 q.2.2):=by
 refine⟨parts.map λq=>(q.1,aF P ts (f q.1) q.2,a.eval q.2),by simp[gZ],by simp,λq l=> ?_⟩;obtain⟨x,m,rfl⟩:=ybw.1 l;refine⟨?_,Zq j _ _⟩;simp only[mb,gZ,List.all_map,yal]at g;exact g x m
theorem SW(n s i:Nat)(h:i<=n):((yx n s).take i).sum=i*s:=by
 rw[List.take_replicate,yay h,List.sum_replicate_nat]
theorem ZH7{t:yc}{parts:Array (Nat×yp)}(ok:Ok σ)(yM:aD σ ts a)(ho:o.op=.build t parts)(h:bj P o ts hs=ab (C,d,hs')):YL P o a σ d σ.H:=by
 simp only[bj,ho]at h
 have run:∀cells,P.built t (parts.map λq=>(q.1,a.eval q.2)).toList=ab cells->(execOp a.eval o).run P σ.w=.ok (.value (.agg cells)) σ.w:=λcells hv=>by
  have:=run_build (P:=P) σ.w t (parts.map λq=>(q.1,a.eval q.2)) cells hv;simp[execOp,ho,this]
 split at h
 .rename_i R zs hu hz;split at h
  .rename_i hk;simp only[yi,yT]at hk;obtain⟨⟨A,zW⟩,zU⟩:=hk;simp only[yv,yq]at h;obtain⟨Z,l,rfl,rfl,rfl⟩:=h;obtain⟨it,z,T,E,F⟩:=BR (σ:=σ) hz (by simp);obtain⟨cs,rfl,m⟩:=(ZY rfl).1 F;simp only[yH,aB]at m
   have hf:∀i,i < R.size->∃f z,R[i]? =ab f/\zs[i]? =ab z/\f.offset=Pl.sizes (zs.take i)/\P.cellsOf f.type=z.size/\(P.info? f.type).isSome=ae:=by
    intro i G;have S:i < zs.length:=by omega
    have I:=yal.1 zU i (List.mem_range.2 S);unfold kv at I;have hzi:zs.getD i default=zs[i]:=by simp[List.getD,S]
    rw[hzi]at I;have hfi:R[i]? =ab R[i]:=Array.getElem?_eq_getElem G;rw[hfi]at I;simp only[yi,yT]at I;obtain⟨⟨⟨⟨⟨h2,h3⟩,h4⟩,_⟩,_⟩,_⟩:=I;exact⟨R[i],zs[i],hfi,yab S,h2,h3,h4⟩
   have hmap:=BS (P:=P) R.toList (λf hf'=>by
    obtain⟨i,G,rfl⟩:=List.getElem_of_mem hf';obtain⟨f,z,I,_,_,_,h2⟩:=hf i (by simpa using G)
    have:R.toList[i]=f:=by
     have:=(Array.getElem?_eq_some_iff.1 I).2;simpa using this
    rw[this];exact h2)
   obtain⟨qs,U,W,X⟩:=uU (P:=P) yM (jA P t) parts.toList A;rw[<-U]at l
   obtain⟨g,y,hr,_⟩:=qN (σ:=σ) (place:=((R.toList.map λf=>(f.offset,P.cellsOf f.type)).toArray[·]?)) (sz:=zs.map Pl.size) (by
    intro i s G;rw[yao]at G;obtain⟨z,hz1,hz2⟩:=yv.1 G;have S:i < zs.length:=(yu.1 hz1).1;obtain⟨f,z',I,h2,h3,h4,_⟩:=hf i (by omega);rw[hz1]at h2;cases h2;have:R.toList[i]? =ab f:=by simpa using I
    simp only[List.getElem?_toArray,yao,this,Option.map_some,h3,h4,hz2,oY,List.map_take]) qs (zs.map .p) Z cs (by simp[Dv.size,Function.comp_def]) (jC.2 m) X l
   have hb:P.built t (parts.map λq=>(q.1,a.eval q.2)).toList=ab g:=by
    unfold Program.built;rw[T,hu];simp only[E,hmap,Value.cells];rw[Array.toList_map, <-W];exact y
   exact Zk ok (run _ hb) (ZC6 hr)
  .cases h
 .rename_i n e n' s zs hu hz;split at h
  .rename_i hk;simp only[yi,yP]at hk;obtain⟨⟨A,hse⟩,hie⟩:=hk;simp only[yf]at h;obtain⟨Z,l,h⟩:=h;obtain⟨it,z,T,E,F⟩:=BR (σ:=σ) hz (by simp);obtain⟨cs,rfl,m⟩:=(ZY rfl).1 F;simp only[yH,aB]at m;obtain⟨hzl,hzs,m⟩:=m;obtain⟨qs,U,W,X⟩:=uU (P:=P) yM (jA P t) parts.toList A;rw[<-U]at l
   have hszs:(zs.map Dv.p).map Dv.size=yx n' s:=by
    rw[<-hzl];apply ybq;intro j;simp only[yao,List.getElem?_replicate]
    cases hj:zs[j]? with
    |none=>
     have:=List.getElem?_eq_none_iff.1 hj
     simp;omega
    |some x=>
     have I:=(yu.1 hj).1;simp[I,Dv.size,hzs x (List.mem_of_getElem? hj)]
   obtain⟨g,y,hr,J⟩:=qN (σ:=σ) (place:=λi=>ab (i*s,s)) (sz:=yx n' s) (by
    intro i s' G;simp only[List.getElem?_replicate]at G;split at G
    .cases G;rw[SW _ _ _ (by omega)]
    .cases G) qs (zs.map .p) Z cs hszs (jC.2 m) X l
   have M:Z.length=n':=by
    have:=congrArg List.length J;simpa using this
   have Y:∀x,x∈Z->x.size=s:=by
    intro x hx;have:x.size∈Z.map Dv.size:=List.mem_map_of_mem hx;rw[J]at this;exact List.eq_of_mem_replicate this
   have hb:P.built t (parts.map λq=>(q.1,a.eval q.2)).toList=ab g:=by
    unfold Program.built;rw[T,hu]
    cases Q:P.info? e with
    |none=>simp[Q]at hie
    |some ie=>
     have:ie.size=s:=by rw[<-hse];simp[Program.cellsOf,Q]
     simp only[E,Q,Value.cells,this];rw[Array.toList_map, <-W];exact y
   split at h
   .rename_i xs hxs;cases h;refine Zk ok (run _ hb) ?_;rw[ZY rfl];have hps:=SS hxs
    refine⟨g,rfl,by
     simp only[yH,aB];refine⟨?_, ?_,BQ hxs hr⟩
     .have:=congrArg List.length hps;simp only[yad]at this;rw[this,M]
     .intro x hx;have:x.size∈xs.map Pl.size:=List.mem_map_of_mem hx;rw[hps,J]at this;exact List.eq_of_mem_replicate this⟩
   .cases h;refine Zk ok (run _ hb) ?_;rw[ZY rfl];exact⟨g,rfl,by simp only[yH];exact⟨M,Y,hr⟩⟩
  .cases h
 .cases h
end
theorem SX(s:Nat):∀(new pre post:yL Dv),post.length=new.length->(∀x,x∈post->x.size=s)->(∀x,x∈new->x.size=s)->
 iK (pre++post) ((List.range' pre.length new.length).zip new)=ab (pre++new)
 |[],pre,post,f,_,_=>by
  have:post=[]:=ybj (by simpa using f);subst this
  simp[iK]
 |d::new,pre,[],f,_,_=>by simp at f
 |d::new,pre,q::post,f,h,j=>by
  simp only[yaf,List.range'_succ,List.zip_cons_cons,iK];have e:(pre++q::post)[pre.length]? =ab q:=by simp
  have hs:q.size=d.size:=by rw[h q (yau ..),j d (yau ..)]
  have l:(pre++q::post).set pre.length d=(pre++[d])++post:=by simp
  simp only[uF,e,hs,if_true,Option.bind_some,l];have:=SX s new (pre++[d]) post (by simpa using f) (λx g=>h x (yav _ g)) (λx g=>j x (yav _ g));simp only[yl,yaf,List.length_nil,yar,yac,List.singleton_append]at this ⊢;exact this
theorem SY{α β γ:Type}(f:α->β)(g:α->γ):∀(l:yL α),l.map (λq=>(f q,g q))=(l.map f).zip (l.map g)
 |[]=>rfl
 |x::l=>by simp[SY f g l]
theorem SZ{σ:Sg}:∀(us:yL yh),aM σ (yx us.length .an) us
 |[]=>by simp[aM]
 |u::us=>by
  simp only[yaf,List.replicate_succ,aM];exact⟨[u],us,rfl,by simp[yH],SZ us⟩
def oZ(s:Nat):Dv:=.agg (yx s .an)
theorem TA(s:Nat):(oZ s).size=s:=by
 show Dv.sizes (yx s .an)=s;rw[oX,List.map_replicate,List.sum_replicate_nat];simp[Dv.size]
theorem ZC7{σ:Sg}{s:Nat}{us:yL yh}(h:us.length=s):yH σ (oZ s) us:=by
 subst h;show yH σ (.agg (yx us.length .an)) us;simp only[yH];exact SZ us
theorem TB{σ:Sg}{s:Nat}:∀(n:Nat)(us:yL yh),us.length=n*s->aM σ (yx n (oZ s)) us
 |0,us,h=>by
  have:us=[]:=ybj (by simpa using h);subst this
  simp[aM]
 |n+1,us,h=>by
  rw[yba,Nat.one_mul]at h;simp only[List.replicate_succ,aM];exact⟨us.take s,us.drop s,(ybb s us).symm,ZC7 (by rw[yaa];omega),TB n _ (by rw[List.length_drop];omega)⟩
section
variable{P:yg}{o:yj}{a:Act}{σ:Sg}{ts:yL Dv}{hs hs':yL ao}{C:yL Prop}{d:Dv}
theorem ZC8(T:aD σ ts a){e:yc}{s len:Nat}{parts:yL (Nat×yp)}{xs:yL Pl}(h:XI P ts e s len parts=ab xs)(Z:Array yh)(U:Z.size=len*s):
 ∃cells:Array yh,Instr.fill (λi=>ab (i*s,s)) Z (parts.map λq=>(q.1,a.eval q.2))=ab cells/\ar σ.w σ.bf xs cells.toList/\xs.length=len/\aW s xs:=by
 unfold XI at h;split at h
 .rename_i W;have m:parts.map (·.1)=yo len:=by simpa using W
  split at h
  .rename_i X G;split at h
   .rename_i Y;cases h
    have z:∀x,x∈xs->x.size=s:=by
     intro x g;have:=yal.1 Y x g;simpa using this
    have A:=ST G
    have j:(parts.map λq=>aF P ts e q.2).length=len:=by
     have:=congrArg List.length m;simpa using this
    have I:∀x,x∈(parts.map λq=>aF P ts e q.2)->x.size=s:=by
     intro x g;have E:x.size∈(parts.map λq=>aF P ts e q.2).map Dv.size:=List.mem_map_of_mem g;rw[<-A]at E;obtain⟨y,hy,he⟩:=ybw.1 E;rw[<-he];exact z y hy
    have J:xs.length=len:=by
     have:=congrArg List.length A;simp only[yad]at this;rw[this];simpa using j
    obtain⟨qs,M,Q,R⟩:=uU (P:=P) T (λ_=>e) parts (by
     simp only[mb,gZ,List.all_map,yal];intro q hq;exact SV G _ (List.mem_map_of_mem hq))
    have f:iK (yx len (oZ s)) (gZ P ts (λ_=>e) parts)=ab (parts.map λq=>aF P ts e q.2):=by
     have E:=SX s (parts.map λq=>aF P ts e q.2) [] (yx len (oZ s)) (by simpa using j.symm) (λx g=>by rw[List.eq_of_mem_replicate g,TA]) I;simp only[List.nil_append,List.length_nil]at E
     have h2:gZ P ts (λ_=>e) parts=(List.range' 0 (parts.map λq=>aF P ts e q.2).length).zip (parts.map λq=>aF P ts e q.2):=by
      rw[j, <-List.range_eq_range', <-m];exact SY _ _ parts
     rw[h2];exact E
    rw[<-M]at f
    obtain⟨cells,l,S,_⟩:=qN (σ:=σ) (place:=λi=>ab (i*s,s)) (sz:=yx len s) (by
     intro i s' F;simp only[List.getElem?_replicate]at F;split at F
     .cases F;rw[SW _ _ _ (by omega)]
     .cases F) qs (yx len (oZ s)) _ Z (by simp[TA]) (TB len _ (by simpa using U)) R f
    refine⟨cells, ?_,ZC5 G S,J,λx g=>z x g⟩;rw[<-Q];exact l
   .cases h
  .cases h
 .cases h
theorem Zq5{e t:yc}{i:TypeInfo}{len:Nat}{parts:Array (Nat×yh)}{Q:Array yh->Prop}(w:yr)(hu:P.underlying t=ab (.slice e))(hi:P.info? e=ab i)(hz:cu i=ae)
 (hsz:len*i.size<=16777216) (f:∀Z:Array yh,Z.size=len*i.size->∃cells,Instr.fill (λj=>ab (j*i.size,i.size)) Z parts.toList=ab cells/\Q cells):
 ∃cells,(Instr.buildSlice t len parts).run P w=.ok (.slice (ab ⟨w.heap.size,0,ad⟩) len len) (w.alloc (.cells cells e))/\Q cells:=by
 unfold cu at hz;split at hz
 .rename_i z h;have y:¬(16777216 < len*i.size):=by omega
  by_cases l:len*i.size=0
  .obtain⟨cells,g,m⟩:=f ((Array.range (len*i.size)).map (#[][· % (#[]:Array yh).size]!)) (by simp);refine⟨cells, ?_,m⟩;simp only[l]at g;simp[Instr.buildSlice,run_underlying hu,sizeOf,typeInfo,hi,l,newRow];simp at g;simp[g]
  .obtain⟨cells,g,m⟩:=f ((Array.range (len*i.size)).map (z.cells[· % z.cells.size]!)) (by simp);exact⟨cells,by simp[Instr.buildSlice,run_underlying hu,sizeOf,typeInfo,zeroValue,hi,h,y,l,newRow,g],m⟩
 .cases hz
end
theorem cL{α:Type}{l:yL α}{i j:Nat}{x:α}(h:i≠j):(l.set i x)[j]? =l[j]? :=by
 rw[ybx,yX h]
theorem ak{α:Type}{l:yL α}{i:Nat}{x y:α}(h:l[i]? =ab y):(l.set i x)[i]? =ab x:=by
 rw[ybx,yW rfl,yW (yu.1 h).1]
theorem YN{σ σ':Sg}(ok:Ok σ){id:Nat}{mi mi':yO Nat}{X I:aq}(hH:σ.H[id]? =ab X)(hm:σ.m[id]? =ab mi)
 (eF:σ'.F=σ.F) (Y:σ'.B=σ.B) (eH:σ'.H=σ.H.set id I) (em:σ'.m=σ.m.set id mi')
 (hos:σ'.w.os=σ.w.os) (htape:σ'.w.tape=σ.w.tape) (hout:σ'.w.output=σ.w.output) (hsize:σ.w.heap.size<=σ'.w.heap.size)
 (zV:∀b,b < σ.w.heap.size->mi≠ab b->σ'.w.heap[b]? =σ.w.heap[b]?)
 (hown:∀b o v,mi=ab b->X.bB o->σ.w.cell? ⟨b,o,ad⟩=ab v->σ'.w.cell? ⟨b,o,ad⟩=ab v)
 (hunl:∀o,mi'=mi->X.bB o->I.bB o)
 (hmi:mi'=mi\/∃b',mi'=ab b'/\σ.w.heap.size<=b'/\b' < σ'.w.heap.size)
 (hvar:(∃d st,X=.var d st)->mi'=mi/\∃d st,I=.var d st)
 (hmap:(∃t bS,X=.map t bS)->mi'=mi/\∃t bS,I=.map t bS)
 (hlog:∀s e xs,X=.log s e xs->∃S,I=.log s e S/\xs.length<=S.length/\(S.length=xs.length->mi'=mi/\∀b,b < σ.w.heap.size->σ'.w.heap[b]? =σ.w.heap[b]?))
 (hent:ck σ σ'->dH σ' mi' I)
 (hrow:∀v s st e d,X=.row v s st e d->∃v' J d',I=.row v' s J e d'/\v<=v'/\(v'=v->mi'=mi/\∀b cur,mi=ab b->σ.w.heap[b]? =ab (.cells cur e (0,0))->∃Z,σ'.w.heap[b]? =ab (.cells Z e (0,0))/\Z.size=cur.size):=by
   intro _ _ _ _ _ h;cases h):To σ σ'/\Ok σ':=by
 have hlt:∀b,mi=ab b->b < σ.w.heap.size:=λb h=>ok.lt id b (by rw[hm,h]);have y:∀j,j≠id->σ'.m[j]? =σ.m[j]? :=λj G=>by rw[em,cL (Ne.symm G)]
 have g:σ'.m[id]? =ab mi':=by rw[em];exact ak hm
 have Hset:∀j,j≠id->σ'.H[j]? =σ.H[j]? :=λj G=>by rw[eH,cL (Ne.symm G)]
 have Hself:σ'.H[id]? =ab I:=by rw[eH];exact ak hH
 have hob:∀j b,j≠id->σ.m[j]? =ab (ab b)->σ'.w.heap[b]? =σ.w.heap[b]? :=λj b G h=>
  zV b (ok.lt j b h) (λR=>G (ok.inj j id b h (by rw[hm,R])))
 have T:ck σ σ':=by
  refine⟨λb o v l z=>⟨?_, ?_, ?_⟩,λj b l z=> ?_,λj s len A c l=> ?_,λj b l z=> ?_,λj v s st e d l=> ?_⟩
  .by_cases Q:mi=ab b
   .exact hown b o v Q (z.2 id X (by rw[hm,Q]) hH) l
   .rw[World.cell?_of_block (w:=σ.w) (zV b (Wj l) Q)];exact l
  .rcases z.1 with h3|h3
   .exact .inl (by rw[eF];exact h3)
   .exact .inr (by rw[Y];exact h3)
  .intro j e G R;by_cases f:j=id
   .subst f;rw[g]at G;rw[Hself]at R;cases R;have M:mi'=ab b:=by simpa using G
    rcases hmi with h3|⟨b',h3,W,_⟩
    .have hmb:mi=ab b:=by rw[<-h3,M]
     exact hunl o h3 (z.2 j X (by rw[hm,hmb]) hH)
    .have:b'=b:=by rw[h3]at M;exact ybl M
     have:=Wj l;omega
   .rw[y j f]at G;rw[Hset j f]at R;exact z.2 j e G R
  .by_cases f:j=id
   .subst f;obtain⟨d,st,z⟩:=z;rw[hH]at z;obtain⟨h3,d',J,W⟩:=hvar ⟨d,st,ybl z⟩;rw[hm]at l;exact⟨by rw[g,h3];exact l,d',J,by rw[Hself,W]⟩
   .exact⟨by rw[y j f];exact l,by rw[Hset j f];exact z⟩
  .obtain⟨e,ys,z,h3,W⟩:=l;by_cases f:j=id
   .subst f;rw[hH]at z;obtain⟨S,k1,k2,k3⟩:=hlog s e ys (ybl z);refine⟨e,S,by rw[Hself,k1],by omega,λhl=> ?_⟩;obtain⟨k4,k5⟩:=k3 (by omega);rcases W (by omega) with⟨U,h6⟩|⟨b,cur,U,h6,h7,h8⟩
    .exact .inl ⟨by rw[g,k4, <-hm];exact U,h6⟩
    .exact .inr ⟨b,cur,by rw[g,k4, <-hm];exact U,h6,(k5 b (ok.lt j b U)).trans h7,h8⟩
   .refine⟨e,ys,by rw[Hset j f];exact z,h3,λhl=> ?_⟩;rcases W hl with⟨U,h6⟩|⟨b,cur,U,h6,h7,h8⟩
    .exact .inl ⟨by rw[y j f];exact U,h6⟩
    .exact .inr ⟨b,cur,by rw[y j f];exact U,h6,(hob j b f U).trans h7,h8⟩
  .by_cases f:j=id
   .subst f;obtain⟨d,st,z⟩:=z;rw[hH]at z;obtain⟨h3,d',J,W⟩:=hmap ⟨d,st,ybl z⟩;rw[hm]at l;exact⟨by rw[g,h3];exact l,d',J,by rw[Hself,W]⟩
   .exact⟨by rw[y j f];exact l,by rw[Hset j f];exact z⟩
  .by_cases f:j=id
   .subst f;rw[hH]at l;obtain⟨v',J,d',k1,k2,k3⟩:=hrow v s st e d (ybl l);refine⟨v',J,d',by rw[Hself,k1],k2,λhv=> ?_⟩;obtain⟨k4,k5⟩:=k3 hv;exact⟨by rw[g,k4, <-hm],λb cur Q hc=>k5 b cur (by rw[hm]at Q;exact ybl Q) hc⟩
   .exact⟨v,st,d,by rw[Hset j f];exact l,ym _,λ_=>⟨y j f,λb cur Q hc=>⟨cur,(hob j b f Q).trans hc,rfl⟩⟩⟩
 have E:∀j b,σ'.m[j]? =ab (ab b)->(σ.m[j]? =ab (ab b)/\(j=id->mi'=mi))\/(j=id/\σ.w.heap.size<=b/\b < σ'.w.heap.size):=by
  intro j b G;by_cases f:j=id
  .subst f;rw[g]at G;have M:mi'=ab b:=by simpa using G
   rcases hmi with h3|⟨b',h3,W,U⟩
   .exact .inl ⟨by rw[hm, <-h3,M],λ_=>h3⟩
   .have:b'=b:=by rw[h3]at M;exact ybl M
    subst this;exact .inr ⟨rfl,W,U⟩
  .rw[y j f]at G;exact .inl ⟨G,λh=>absurd h f⟩
 refine⟨⟨T,eF,Y,hos,htape,hout,hsize,λb Q hn=>zV b Q (λR=>hn id (by rw[hm,R])),λj b G=> ?_,by rw[em,ybu];exact ym _⟩, ?_, ?_, ?_, ?_, ?_, ?_⟩
 .rcases E j b G with⟨h,_⟩|⟨_,h,_⟩
  .exact .inl h
  .exact .inr h
 .rw[em,eH,ybu,ybu];exact ok.len
 .intro i j b hi G;rcases E i b hi with⟨l,_⟩|⟨l,z,_⟩ <;> rcases E j b G with⟨h3,_⟩|⟨h3,W,_⟩
  .exact ok.inj i j b l h3
  .have:=ok.lt i b l;omega
  .have:=ok.lt j b h3;omega
  .rw[l,h3]
 .intro i b hi;rcases E i b hi with⟨l,_⟩|⟨_,_,z⟩
  .exact Nat.lt_of_lt_of_le (ok.lt i b l) hsize
  .exact z
 .intro i e a R ha;by_cases f:i=id
  .subst f;rw[g]at ha;rw[Hself]at R;cases R;cases ha;exact hent T
  .rw[y i f]at ha;rw[Hset i f]at R;exact nB T (λb Q=>hob i b f (by rw[ha,Q])) (ok.dF i e a R ha)
 .intro b Q;rw[Y];exact ok.new b (ybt hsize Q)
 .intro i b hi;rw[Y];rcases E i b hi with⟨l,_⟩|⟨_,l,_⟩
  .exact ok.own i b l
  .exact ok.new b l
theorem WD{σ σ':Sg}(ok:Ok σ){mi:yO Nat}{en:aq}(eF:σ'.F=σ.F)(I:σ'.B=σ.B)(eH:σ'.H=σ.H++[en])(em:σ'.m=σ.m++[mi])
 (S:σ.w.grownBy σ'.w ad) (hmi:mi=ad\/∃b,mi=ab b/\σ.w.heap.size<=b/\b < σ'.w.heap.size) (W:ck σ σ'->dH σ' mi en):To σ σ'/\Ok σ':=by
 have X:∀b,b < σ.w.heap.size->σ'.w.heap[b]? =σ.w.heap[b]? :=λb J=>S.block b J (by simp)
 have M:∀j a,σ.m[j]? =ab a->σ'.m[j]? =ab a:=λj a h=>by
  rw[em,ybe (yu.1 h).1];exact h
 have Q:∀j e,σ.H[j]? =ab e->σ'.H[j]? =ab e:=λj a h=>by
  rw[eH,ybe (yu.1 h).1];exact h
 have l:∀j a,σ'.m[j]? =ab a->σ.m[j]? =ab a\/(j=σ.m.length/\a=mi):=λj a h=>by
  rw[em]at h;rcases Nat.lt_or_ge j σ.m.length with h1|h1
  .rw[ybe h1]at h;exact .inl h
  .rw[yaq h1]at h;have R:j - σ.m.length < 1:=(yu.1 h).1;have:j=σ.m.length:=by omega
   subst this;simp at h;exact .inr ⟨rfl,h.symm⟩
 have Y:∀j e,σ'.H[j]? =ab e->σ.H[j]? =ab e\/(j=σ.H.length/\e=en):=λj a h=>by
  rw[eH]at h;rcases Nat.lt_or_ge j σ.H.length with h1|h1
  .rw[ybe h1]at h;exact .inl h
  .rw[yaq h1]at h;have R:j - σ.H.length < 1:=(yu.1 h).1;have:j=σ.H.length:=by omega
   subst this;simp at h;exact .inr ⟨rfl,h.symm⟩
 have G:ck σ σ':=by
  refine⟨λb o v h1 g=>⟨?_, ?_, ?_⟩,λj b h1 g=> ?_,λj s len A c h1=> ?_,λj b h1 g=> ?_,λj v s st e d h1=>⟨v,st,d,Q _ _ h1,ym _,λ_=>⟨?_,λb T J hc=>⟨T,(X b (ok.lt j b J)).trans hc,rfl⟩⟩⟩⟩
  .rw[World.cell?_of_block (w:=σ.w) (X b (Wj h1))];exact h1
  .rcases g.1 with h3|h3
   .exact .inl (by rw[eF];exact h3)
   .exact .inr (by rw[I];exact h3)
  .intro j e R he;rcases l j _ R with h3|⟨h3,U⟩
   .rcases Y j _ he with f|⟨f,_⟩
    .exact g.2 j e h3 f
    .have:=(yu.1 h3).1;have:=ok.len;omega
   .rcases hmi with f|⟨Z,f,E,_⟩
    .rw[f]at U;cases U
    .rw[f]at U;have:=Wj h1;cases U;omega
  .obtain⟨d,st,g⟩:=g;exact⟨M _ _ h1,d,st,Q _ _ g⟩
  .obtain⟨e,ys,g,h3,U⟩:=h1;refine⟨e,ys,Q _ _ g,h3,λhl=> ?_⟩;rcases U hl with⟨f,E⟩|⟨b,T,f,E,h7,h8⟩
   .exact .inl ⟨M _ _ f,E⟩
   .exact .inr ⟨b,T,M _ _ f,E,(X b (ok.lt j b f)).trans h7,h8⟩
  .obtain⟨d,st,g⟩:=g;exact⟨M _ _ h1,d,st,Q _ _ g⟩
  .have R:j < σ.m.length:=by rw[ok.len];exact(yu.1 h1).1
   rw[em,ybe R]
 refine⟨⟨G,eF,I,S.os,S.tape,S.output,S.size,λb J _=>X b J,λj b R=> ?_,by rw[em,yl];omega⟩, ?_, ?_, ?_, ?_, ?_, ?_⟩
 .rcases l j _ R with h|⟨_,h⟩
  .exact .inl h
  .rcases hmi with f|⟨Z,f,E,_⟩
   .rw[f]at h;cases h
   .rw[f]at h;cases h;exact .inr E
 .rw[em,eH,yl,yl,ok.len];rfl
 .intro i j b hi R;rcases l i _ hi with h1|⟨h1,y⟩ <;> rcases l j _ R with g|⟨g,z⟩
  .exact ok.inj i j b h1 g
  .have:=ok.lt i b h1;rcases hmi with f|⟨Z,f,E,_⟩
   .rw[f]at z;cases z
   .rw[f]at z;cases z;omega
  .have:=ok.lt j b g;rcases hmi with f|⟨Z,f,E,_⟩
   .rw[f]at y;cases y
   .rw[f]at y;cases y;omega
  .rw[h1,g]
 .intro i b hi;rcases l i _ hi with h1|⟨_,h1⟩
  .exact Nat.lt_of_lt_of_le (ok.lt i b h1) S.size
  .rcases hmi with f|⟨Z,f,_,E⟩
   .rw[f]at h1;cases h1
   .rw[f]at h1;cases h1;exact E
 .intro i e a he ha;rcases Y i _ he with h1|⟨h1,y⟩ <;> rcases l i _ ha with g|⟨g,z⟩
  .exact nB G (λb J=>X b (ok.lt i b (by rw[g,J]))) (ok.dF i e a h1 g)
  .have:=(yu.1 h1).1;have:=ok.len;omega
  .have:=(yu.1 g).1;have:=ok.len;omega
  .rw[y,z];exact W G
 .intro b J;rw[I];exact ok.new b (ybt S.size J)
 .intro i b hi;rw[I];rcases l i _ hi with h1|⟨_,h1⟩
  .exact ok.own i b h1
  .rcases hmi with f|⟨Z,f,E,_⟩
   .rw[f]at h1;cases h1
   .rw[f]at h1;cases h1;exact ok.new b E
end Go.Ev
end
section
namespace Go.Ev
section
variable{P:yg}{o:yj}{a:Act}{σ:Sg}{ts:yL Dv}{hs hs':yL ao}{C:yL Prop}{d:Dv}
theorem lu{i:TypeInfo}(h:cu i=ae):∃z,i.zero=ab z/\z.cells.size=i.size:=by
 unfold cu at h;split at h
 .rename_i z f;exact⟨z,f,by simpa using h⟩
 .cases h
structure Src(P:yg)(w:yr)(u:yc)(size:Nat)(S:yh)(m:Nat)(zX:List yh):Prop where
 ty:(∃e',P.underlying u=ab (.slice e'))\/P.underlying u=ab .string
 len:∀w',(Builtin.lenOf S).run P w'=.ok m w'
 first:(Builtin.firstCells size m S).run P w=.ok zX.toArray w
 BT:(Builtin.firstCells size m S).run P w.drew=.ok zX.toArray w.drew
 cells:zX.length=m*size
theorem TC{w:yr}{S:Nat->Nat->Prop}{u E:yc}{s f:Nat}{xs:yL Pl}{A:yO Addr}{c:Nat}(hu:P.underlying u=ab (.slice E))(hs:f=s\/xs=[])(hsz:aW f xs)
 (F:xs≠[]->∃b o us,A=ab ⟨b,o,ad⟩/\ar w S xs us/\Ww w S b o us):
 ∃zX,Src P w u s (.slice A xs.length c) xs.length zX/\ar w S xs zX:=by
 rcases xs with _|⟨x,xs⟩
 .refine⟨[],⟨.inl ⟨_,hu⟩,λG=>rfl, ?_, ?_,by simp⟩,by simp[ar]⟩
  .cases A <;> simp[Builtin.firstCells,loadCells,loadCellsFrom]
  .cases A <;> simp[Builtin.firstCells,loadCells,loadCellsFrom]
 .have g:f=s:=by
   rcases hs with h|h
   .exact h
   .cases h
  subst g;obtain⟨b,o,us,rfl,y,z⟩:=F (by simp);have l:us.length=(x::xs).length*f:=by rw[aL _ _ y,aN hsz]
  refine⟨us,⟨.inl ⟨_,hu⟩,λG=>rfl, ?_, ?_,l⟩,y⟩
  .exact run_firstCells_some w f _ ⟨b,o,ad⟩ _ c us l (λj v m=>by rw[Addr.bI];exact(z j v m).1)
  .exact run_firstCells_some w.drew f _ ⟨b,o,ad⟩ _ c us l (λj v m=>by rw[Addr.bI];exact(z j v m).1)
theorem Zq6{w:yr}{t u ty e:yc}{i:TypeInfo}{S:yh}{zX:yL yh}(ht:P.underlying t=ab (.slice e))(hi:P.info? e=ab i)(g:Src P w u i.size S 0 zX):
 (Builtin.append_ #[t,u] ty #[.slice ad 0 0,S]).run P w=.ok (.slice ad 0 0) w:=by
 obtain⟨f,h,j,l,y⟩:=g
 rcases f with⟨m,hu⟩|hu <;>
  (simp[Builtin.append_,run_underlying ht,run_underlying hu,sizeOf,typeInfo,hi,h,j])
theorem BU{w:yr}{t u ty e z:yc}{i:TypeInfo}{S:yh}{m:Nat}{zX:yL yh}(ht:P.underlying t=ab (.slice e))(hi:P.info? e=ab i)(A:Src P w u i.size S m zX)
 (h1:∀v,v∈zX->v.oneCell'=ae) {g n cap:Nat} {cur:Array yh} (E:w.heap[g]? =ab (.cells cur z (0,0))) (f:n+m<=cap) (h:cur.size=cap*i.size):
 (Builtin.append_ #[t,u] ty #[.slice (ab ⟨g,0,ad⟩) n cap,S]).run P w=
   .ok (.slice (ab ⟨g,0,ad⟩) (n+m) cap) (w.setRow g (cur.toList.take (n*i.size)++zX++cur.toList.drop (n*i.size+zX.length)).toArray):=by
 obtain⟨y,F,G,I,J⟩:=A;have j:n*i.size+zX.length<=cur.size:=by rw[J,h, <-yba];exact ycb _ f
 have l:=run_storeCells_at P g (n*i.size) z zX 0 cur w E (by simpa using j) h1;simp only[Nat.add_zero]at l
 rcases y with⟨M,hu⟩|hu <;>
  (simp[Builtin.append_,run_underlying ht,run_underlying hu,sizeOf,typeInfo,hi,F,f,G,Addr.add_lit,l])
theorem BV{w:yr}{t u ty e:yc}{i:TypeInfo}{z:yh}{S:yh}{m:Nat}{zX olds:yL yh}(ht:P.underlying t=ab (.slice e))(hi:P.info? e=ab i)(hz:i.zero=ab z)
 (G:Src P w u i.size S m zX) {A:yO Addr} {n cap:Nat} (g:(Builtin.firstCells i.size n (.slice A n cap)).run P w.drew=.ok olds.toArray w.drew) (f:cap < n+m)
 (l:n+m<=maxLen) (hb:(n+m)*i.bytes<=Zt):
 (Builtin.append_ #[t,u] ty #[.slice A n cap,S]).run P w=
   .ok (.slice (ab ⟨w.heap.size,0,ad⟩) (n+m) (grownCap w (n+m) cap e)) (w.drew.alloc (.cells (olds.toArray++zX.toArray++Builtin.zeroCells z.cells (grownCap w (n+m) cap e - (n+m))) e)):=by
 obtain⟨y,I,Q,E,R⟩:=G;have J:¬(n+m<=cap):=by omega
 have h:¬(9223372036854775807 < ((n:Int)+(m:Int))):=by
  simp only[maxLen]at l;omega
 have F:=growslice_fits (old:=cap) f (by simpa[Zt] using hb);have j:¬(281474976710656 < Builtin.nextslicecap (n+m) cap*i.bytes):=by omega
 rcases y with⟨M,hu⟩|hu <;>
  (simp[Builtin.append_,run_underlying ht,run_underlying hu,sizeOf,typeInfo,zeroValue,hi,hz,I,J,h,j,Question.forced,E,g,newRow,grownCap]
   congr 2;apply Array.ext';simp[yac])
theorem YY(w:yr)(f:Obj)(row:yO Nat):w.grownBy (w.drew.alloc f) row:=
 let h:=World.grownBy_alloc w.drew f row
 ⟨h.os,h.tape,h.output,h.size,h.block⟩
theorem pc(R:aD σ ts a){s:Nat}{u ut:yc}{x:yp}{ys:yL Pl}(h:hP P s u (aF P ts ut x)=ab ys):
 ∃zX,Src P σ.w u s (a.eval x) ys.length zX/\ar σ.w σ.bf ys zX/\(ys≠[]->aW s ys):=by
 have f:=Zq (P:=P) R ut x;unfold hP at h;split at h
 .rename_i e S Q T g j;split at h
  .rename_i hc;cases h;rw[j]at f;obtain⟨m,A,c,E,U,W,X,Y,F⟩:=X2 f;rw[E]
   have y:Q=s\/ys=[]:=by
    rcases hc with hc|hc
    .exact .inl hc
    .exact .inr (by simpa using hc)
   obtain⟨zX,G,I⟩:=TC (P:=P) (w:=σ.w) (c:=c) g y m F;refine⟨zX,G,I,λJ=> ?_⟩;rcases y with hc|hc
   .exact hc ▸ m
   .exact absurd hc J
  .cases h
 .rename_i e id S Q T g j;split at h
  .rename_i hc;cases h;rw[j]at f;obtain⟨m,A,c,E,U,W,X,Y,F,_⟩:=QV f;rw[E];obtain⟨zX,G,I⟩:=TC (P:=P) (w:=σ.w) (c:=c) g (.inl hc) m F;exact⟨zX,G,I,λ_=>hc ▸ m⟩
  .cases h
 .rename_i z g j;split at h
  .rename_i hc;cases h;subst hc;rw[j]at f;rw[oV f];have M:(z.data.toList.map λb=>Pl.int .u8 (b.toNat:Int)).length=z.size:=by rw[yad,yax];rfl
   refine⟨z.data.toList.map λb=>Value.int .u8 (b.toNat:Int),⟨.inr g,λw'=>by rw[M];rfl, ?_, ?_,by simp⟩, ?_,λ_=> ?_⟩
   .rw[M];have:=Go.Lib.run_firstCells_string (P:=P) σ.w 1 z;exact this
   .rw[M];have:=Go.Lib.run_firstCells_string (P:=P) σ.w.drew 1 z;exact this
   .generalize z.data.toList=l
    induction l with
    |nil=>simp[ar]
    |cons b r Z=>simp only[yah,ar];exact⟨[.int .u8 b.toNat],_,rfl,by simp[aB],Z⟩
   .intro q hq;obtain⟨b,_,rfl⟩:=ybw.1 hq;rfl
  .cases h
 .cases h
def mq(P:yg)(σ:Sg)(s:Nat)(u:yc)(S:yh)(ys:yL Pl):Prop:=∃f,Src P σ.w u s S ys.length f/\ar σ.w σ.bf ys f/\(ys≠[]->aW s ys)
theorem uV(ok:Ok σ)(Q:aD σ ts a){t u ty e:yc}{i:TypeInfo}{y:yp}{ys:yL Pl}(ht:P.underlying t=ab (.slice e))(hi:P.info? e=ab i)(hz:cu i=ae)(G:i.size≠0)
 (f:mq P σ (P.cellsOf e) u (a.eval y) ys) (hb:ys.length*i.bytes<=Zt) (hm:ys.length<=maxLen):
 (ys=[]/\(Builtin.append_ #[t,u] ty #[.slice ad 0 0,a.eval y]).run P σ.w=.ok (.slice ad 0 0) σ.w)\/
 ∃zX yK,ys≠[]/\aW i.size ys/\ar σ.w σ.bf ys zX/\ys.length<=grownCap σ.w ys.length 0 e/\grownCap σ.w ys.length 0 e<=maxLen/\
  (zX.toArray++yK:Array yh).size=grownCap σ.w ys.length 0 e*i.size/\
  (Builtin.append_ #[t,u] ty #[.slice ad 0 0,a.eval y]).run P σ.w=.ok (.slice (ab ⟨σ.w.heap.size,0,ad⟩) ys.length (grownCap σ.w ys.length 0 e)) (σ.w.drew.alloc (.cells (zX.toArray++yK) e)):=by
 have j:P.cellsOf e=i.size:=by simp[Program.cellsOf,hi]
 rw[j]at f;obtain⟨zX,h,I,J⟩:=f;rcases Nat.eq_zero_or_pos ys.length with h0|h0
 .refine .inl ⟨ybj h0, ?_⟩;rw[h0]at h;exact Zq6 ht hi h
 .have g:ys≠[]:=by
   rintro rfl;simp at h0
  obtain⟨z,l,m⟩:=lu hz;have F:=BV (P:=P) (ty:=ty) (A:=ad) (n:=0) (cap:=0) (olds:=[]) ht hi l h (by simp[Builtin.firstCells]) (by omega) (by omega) (by simpa using hb);simp only[yar]at F;have E:=grownCap_ge σ.w ys.length 0 e;refine .inr ⟨zX,Builtin.zeroCells z.cells (grownCap σ.w ys.length 0 e - ys.length),g,J g,I,E,grownCap_le_maxLen σ.w ys.length 0 e hm, ?_,by simpa using F⟩;have M:=h.cells;simp only[Array.size_append,List.size_toArray,size_zeroCells,m,M, <-yba];congr 1;omega
theorem nH{σ':Sg}{b:Nat}{cells:yL yh}{cs:Array yh}{t:yc}(hb:σ'.w.heap[b]? =ab (.cells cs t (0,0)))(f:∀o,o < cells.length->σ'.bf b o)(hp:cs.toList.take cells.length=cells):Ww σ'.w σ'.bf b 0 cells:=by
 intro j u g;have h:j < cells.length:=(yu.1 g).1;rw[yar];refine⟨?_,f j h⟩;rw[cell_of_row σ'.w b j cs t (0,0) hb, <-yby];rw[<-hp,ycd,yW h]at g;exact g
theorem TE{σ':Sg}{s:Nat}{xs:yL Pl}{b c:Nat}{cells:yL yh}{cs:Array yh}{t:yc}{nn:yO Bool}(g:jb nn (ab ⟨b,0,ad⟩))(ok:Ok σ')(j:aW s xs)(l:ar σ'.w σ'.bf xs cells)(hb:σ'.w.heap[b]? =ab (.cells cs t (0,0)))
 (f:σ'.B b) (h:∀(id:Nat),σ'.m[id]? ≠ab (ab b)) (hp:cs.toList.take cells.length=cells) (hc:xs.length<=c) (hm:c<=maxLen):yJ σ' (.p (.sl nn s xs)) (.slice (ab ⟨b,0,ad⟩) xs.length c):=
 Yy j hc hm g (by simp) (λ_=>⟨b,0,cells,rfl,l,nH hb (λo _=>SJ ok f h) hp⟩)
theorem nI{s:Nat}{v:yh}(h:yJ σ (.p (.sl (ab af) s [])) v):v=.slice ad 0 0:=by
 obtain⟨_,A,c,rfl,_,_,f,g,_⟩:=X2 h;have:A=ad:=by simpa using f af rfl
 grind
theorem Yq{x y:yp}{t u:yc}{c:Call}(ho:o.op=.call c)(hc:c.callee=.builtin .append)(g:c.args.toList=[x,y])(f:c.argTypes.toList=[t,u]){v:yh}{w':yr}
 (h:(Builtin.append_ #[t,u] o.type #[a.eval x,a.eval y]).run P σ.w=.ok v w'):(execOp a.eval o).run P σ.w=.ok (.value v) w':=by
 have j:c.args= #[x,y]:=by rw[<-ycf (xs:=c.args),g]
 have l:c.argTypes= #[t,u]:=by rw[<-ycf (xs:=c.argTypes),f]
 simp[execOp,ho,resolve,hc,j,l,invoke,builtin,h]
theorem nJ{x:yp}{t:yc}{c:Call}(ho:o.op=.call c)(hc:c.callee=.builtin .len)(g:c.args.toList=[x])(f:c.argTypes.toList=[t]){v:yh}
 (h:(Builtin.len_ #[t] o.type #[a.eval x]).run P σ.w=.ok v σ.w):(execOp a.eval o).run P σ.w=.ok (.value v) σ.w:=by
 have j:c.args= #[x]:=by rw[<-ycf (xs:=c.args),g]
 have l:c.argTypes= #[t]:=by rw[<-ycf (xs:=c.argTypes),f]
 simp[execOp,ho,resolve,hc,j,l,invoke,builtin,h]
theorem ZES{x y:yp}{t u:yc}{c:Call}(ho:o.op=.call c)(hc:c.callee=.builtin .max)(g:c.args.toList=[x,y])(f:c.argTypes.toList=[t,u]){v:yh}
 (h:(Builtin.max_ #[t,u] o.type #[a.eval x,a.eval y]).run P σ.w=.ok v σ.w):(execOp a.eval o).run P σ.w=.ok (.value v) σ.w:=by
 have j:c.args= #[x,y]:=by rw[<-ycf (xs:=c.args),g]
 have l:c.argTypes= #[t,u]:=by rw[<-ycf (xs:=c.argTypes),f]
 simp[execOp,ho,resolve,hc,j,l,invoke,builtin,h]
theorem ZET{x y:yp}{t u:yc}{c:Call}(ho:o.op=.call c)(hc:c.callee=.builtin .min)(g:c.args.toList=[x,y])(f:c.argTypes.toList=[t,u]){v:yh}
 (h:(Builtin.min_ #[t,u] o.type #[a.eval x,a.eval y]).run P σ.w=.ok v σ.w):(execOp a.eval o).run P σ.w=.ok (.value v) σ.w:=by
 have j:c.args= #[x,y]:=by rw[<-ycf (xs:=c.args),g]
 have l:c.argTypes= #[t,u]:=by rw[<-ycf (xs:=c.argTypes),f]
 simp[execOp,ho,resolve,hc,j,l,invoke,builtin,h]
theorem BW(ok:Ok σ)(id:Nat):σ.m[id]? ≠ab (ab σ.w.heap.size):=λh=>by
 have:=ok.lt id _ h;omega
theorem Ztu(ok:Ok σ)(A:aD σ ts a){c:Call}{x y:yp}{t u e:yc}{i:TypeInfo}{ys:yL Pl}(ho:o.op=.call c)(Q:c.callee=.builtin .append)(R:c.args.toList=[x,y])
 (f:c.argTypes.toList=[t,u]) (ht:P.underlying t=ab (.slice e)) {s:Nat} (E:aF P ts t x=.p (.sl (ab af) s [])) (hi:P.info? e=ab i) (hz:cu i=ae) (F:i.size≠0)
 (g:hP P (P.cellsOf e) u (aF P ts u y)=ab ys) (hb:ys.length*i.bytes<=Zt) (hm:ys.length<=maxLen):YL P o a σ (.p (.sl ad (P.cellsOf e) ys)) σ.H:=by
 have j:=Zq (P:=P) A t x;rw[E]at j;have l:=nI j;have G:P.cellsOf e=i.size:=by simp[Program.cellsOf,hi]
 rcases uV (P:=P) (ty:=o.type) ok A ht hi hz F (pc (P:=P) A g) hb hm with⟨rfl,I⟩|⟨z,S,W,T,U,J,M,X,I⟩
 .refine Zk ok (Yq ho Q R f (by rw[l];exact I)) ?_;exact Yy (λ_ E=>by cases E) (ym _) (by simp[maxLen]) (Ym _) (λ_=>rfl) (λh=>absurd rfl h)
 .obtain⟨to,m⟩:=nC ok (YY σ.w (.cells (z.toArray++S) e) ad);refine ZM (σ':={ σ with w:=σ.w.drew.alloc (.cells (z.toArray++S) e)}) (Yq ho Q R f (by rw[l];exact I)) to m ?_;rw[G];have Y:z.length=ys.length*i.size:=by rw[aL _ _ U,aN T]
  refine TE (Ym _) m T (aE to.leaf.cells _ _ U) (b:=σ.w.heap.size) (cells:=z) (heap_alloc_new σ.w.drew _) (ok.new _ (ym _)) (BW ok) (by simp) J M
theorem ZvH(ok:Ok σ)(Q:aD σ ts a){c:Call}{x y:yp}{t u e:yc}{i:TypeInfo}{ys:yL Pl}(ho:o.op=.call c)(zL:c.callee=.builtin .append)(yR:c.args.toList=[x,y])
 (j:c.argTypes.toList=[t,u]) (ht:P.underlying t=ab (.slice e)) {s:Nat} (R:aF P ts t x=.p (.sl (ab af) s [])) (hi:P.info? e=ab i) (hz:cu i=ae) (S:i.size≠0)
 (z:hP P (P.cellsOf e) u (aF P ts u y)=ab ys) (hb:ys.length*i.bytes<=Zt) (hm:ys.length<=maxLen):YL P o a σ (.own σ.H.length ad i.size ys) (σ.H++[.log i.size e ys]):=by
 have A:=Zq (P:=P) Q t x;rw[R]at A;have E:=nI A;rcases uV (P:=P) (ty:=o.type) ok Q ht hi hz S (pc (P:=P) Q z) hb hm with⟨rfl,T⟩|⟨F,U,W,X,Y,G,I,J,T⟩
 .obtain⟨to,g⟩:=WD (σ':={ σ with m:=σ.m++[ad],H:=σ.H++[.log i.size e []]}) ok rfl rfl rfl rfl (World.grownBy.refl σ.w ad) (.inl rfl) (λ_=>.inl ⟨rfl,rfl⟩);refine ZM (σ':={ σ with m:=σ.m++[ad],H:=σ.H++[.log i.size e []]}) (Yq ho zL yR j (by rw[E];exact T)) to g ?_;rw[Zh rfl];simp only[yH];refine⟨λ_ R=>(by cases R),ad,0,rfl,ym _,by simp[maxLen],Ym _,λ_=>rfl,λh=>absurd rfl h,e,[],by simp,ym _,λ_=>.inl ⟨?_,rfl,rfl⟩⟩;rw[yaq (by rw[ok.len];exact ym _),ok.len];simp
 .let l:Sg:={ σ with m:=σ.m++[ab σ.w.heap.size],H:=σ.H++[.log i.size e ys],w:=σ.w.drew.alloc (.cells (F.toArray++U) e)};have zW:F.length=ys.length*i.size:=by rw[aL _ _ Y,aN X]
  have Z:l.w.heap[σ.w.heap.size]? =ab (.cells (F.toArray++U) e (0,0)):=heap_alloc_new σ.w.drew _
  have f:l.m[σ.H.length]? =ab (ab σ.w.heap.size):=by
   show(σ.m++[ab σ.w.heap.size])[σ.H.length]? =_;rw[yaq (by rw[ok.len];exact ym _),ok.len];simp
  obtain⟨to,g⟩:=WD (σ':=l) ok rfl rfl rfl rfl (YY σ.w (.cells (F.toArray++U) e) ad) (.inr ⟨_,rfl,ym _,by simp[l]⟩)
   (λM=>.inr ⟨σ.w.heap.size,_,grownCap σ.w ys.length 0 e,rfl,Z,J,G,I,X,by
     rw[<-zW];simpa using aE M.cells _ _ Y⟩)
  refine ZM (σ':=l) (Yq ho zL yR j (by rw[E];exact T)) to g ?_;have hemp:(!ys.isEmpty)=ae:=by cases ys <;> first|exact absurd rfl W|rfl
  rw[Zh rfl];simp only[yH]
  refine⟨X,_,_,rfl,G,I,Ym _,λh=>(by cases h),λ_=>⟨σ.w.heap.size,0,F,rfl,aE to.leaf.cells _ _ Y,nH Z (λo ho=>⟨.inr (ok.new _ (ym _)),λid e' h1 h2=> ?_⟩) (by simp)⟩,
   e,ys,by simp[l],ym _,λ_=>.inr ⟨_,_,f,rfl,Z,J⟩⟩
  have:id=σ.H.length:=g.inj id σ.H.length _ h1 f;subst this;have h3:l.H[σ.H.length]? =ab (.log i.size e ys):=by simp[l]
  rw[h3]at h2;cases h2;show o < ys.length*i.size;omega
theorem ZvI(ok:Ok σ)(yM:aD σ ts a){c:Call}{x y:yp}{t u e:yc}{i:TypeInfo}{xs ys:yL Pl}{id s:Nat}{nn:yO Bool}(ho:o.op=.call c)(zL:c.callee=.builtin .append)
 (yR:c.args.toList=[x,y]) (X:c.argTypes.toList=[t,u]) (ht:P.underlying t=ab (.slice e)) (hx:aF P ts t x=.own id nn s xs) (hi:P.info? e=ab i) (hz:cu i=ae) (hs:i.size=s) (hne:s≠0)
 (hsrc:mq P σ s u (a.eval y) ys) (hH:σ.H[id]? =ab (.log s e xs)) (hb:(xs.length+ys.length)*i.bytes<=Zt) (hm:xs.length+ys.length<=maxLen):
 YL P o a σ (.own id ad s (xs++ys)) (σ.H.set id (.log s e (xs++ys))):=by
 subst hs;have hxv:=Zq (P:=P) yM t x;rw[hx]at hxv;obtain⟨h1,A,cp,hv,h2,h3,h4,h5,h6,e0,ys0,h7,h8,h9⟩:=QV hxv;rw[hH]at h7;cases h7;have hsrc2:=hsrc;obtain⟨Y,hS,hr,zU⟩:=hsrc2;obtain⟨z,hzz,hzs⟩:=lu hz;have hH':=hH;have hidlt:id < σ.m.length:=by rw[ok.len];exact(yu.1 hH).1
 have G:σ.m[id]? =ab σ.m[id]:=yab hidlt;have hent:=ok.dF id _ _ hH G
 have R:aW i.size (xs++ys):=by
  by_cases hy:ys=[]
  .grind
  .exact X6 h1 (zU hy)
 have hnl:Y.length=ys.length*i.size:=hS.cells;have hone:∀v,v∈Y->v.oneCell'=ae:=cf _ _ hr;have zW:(xs++ys).length=xs.length+ys.length:=yl;rcases h9 rfl with⟨k1,rfl,rfl⟩|⟨b,g,k1,rfl,k3,k4⟩
 . 
  have hxs:xs=[]:=by
   all_goals grind
  subst hxs;have hmn:σ.m[id]=ad:=by rw[G]at k1;exact ybl k1
  skip
  skip
  rcases uV (P:=P) (ty:=o.type) (u:=u) (y:=y) (ys:=ys) ok yM ht hi hz hne (by simpa[Program.cellsOf,hi] using hsrc) (by simpa using hb) (by simpa using hm) with⟨rfl,zB⟩|⟨I,yK,hys,W,hr2,hge,hcm,hcs,zB⟩
  .obtain⟨to,Q⟩:=YN (σ':={ σ with m:=σ.m.set id ad,H:=σ.H.set id (.log i.size e ([]++[]))}) (mi:=ad) (mi':=ad) ok hH (by rw[G,hmn]) rfl rfl rfl rfl rfl rfl rfl (ym _)
    (λ_ _ _=>rfl) (λb o v h=>by cases h) (λo _ h=>h) (.inl rfl) (λ⟨d,st,h⟩=>by cases h) (λ⟨d,st,h⟩=>by cases h) (λs e' xs h=>⟨[],by cases h;rfl,by cases h;exact ym _,λ_=>⟨rfl,λ_ _=>rfl⟩⟩) (λ_=>.inl ⟨rfl,rfl⟩)
   refine ZM (σ':={ σ with m:=σ.m.set id ad,H:=σ.H.set id (.log i.size e ([]++[]))}) (Yq ho zL yR X (by rw[hv];exact zB)) to Q ?_;rw[Zh rfl];simp only[yH];exact⟨λ_ hx=>(by cases hx),ad,0,rfl,ym _,by simp[maxLen],Ym _,λ_=>rfl,λh=>absurd rfl h,e,[],ak hH,ym _,λ_=>.inl ⟨ak G,rfl,rfl⟩⟩
  .let F:Sg:={ σ with m:=σ.m.set id (ab σ.w.heap.size),H:=σ.H.set id (.log i.size e ([]++ys)),w:=σ.w.drew.alloc (.cells (I.toArray++yK) e)};have hl2:I.length=ys.length*i.size:=by rw[aL _ _ hr2,aN W]
   have Z:F.w.heap[σ.w.heap.size]? =ab (.cells (I.toArray++yK) e (0,0)):=heap_alloc_new σ.w.drew _;have hg:=YY σ.w (.cells (I.toArray++yK) e) ad;have S:∀b,b < σ.w.heap.size->F.w.heap[b]? =σ.w.heap[b]? :=λb hb=>hg.block b hb (by simp);have l:F.m[id]? =ab (ab σ.w.heap.size):=ak G;have E:F.H[id]? =ab (.log i.size e ([]++ys)):=ak hH
   obtain⟨to,Q⟩:=YN (σ':=F) (mi:=ad) (mi':=ab σ.w.heap.size) ok hH (by rw[G,hmn]) rfl rfl rfl rfl rfl rfl rfl hg.size
    (λb hb _=>S b hb) (λb o v h=>by cases h) (λo h _=>by cases h) (.inr ⟨_,rfl,ym _,by simp[F]⟩) (λ⟨d,st,h⟩=>by cases h) (λ⟨d,st,h⟩=>by cases h)
    (λs' e' xs' h=>⟨ys,by cases h;rfl,by cases h;exact Nat.zero_le _,λhh=>by
      cases h;exact absurd (ybj (by simpa using hh)) hys⟩)
    (λJ=>.inr ⟨σ.w.heap.size,_,grownCap σ.w ys.length 0 e,rfl,Z,hcs,hge,hcm,W,by
      show ar F.w F.bf ([]++ys) _;rw[List.nil_append, <-hl2];simpa using aE J.cells _ _ hr2⟩)
   refine ZM (σ':=F) (Yq ho zL yR X (by rw[hv];exact zB)) to Q ?_;have hemp:(!ys.isEmpty)=ae:=by cases ys <;> first|exact absurd rfl hys|rfl
   rw[Zh rfl];simp only[yH]
   refine⟨W,_,_,rfl,hge,hcm,Ym _,λh=>(by cases h),λ_=>⟨σ.w.heap.size,0,I,rfl,aE to.leaf.cells _ _ hr2,nH Z (λo ho=>⟨.inr (ok.new _ (ym _)),λj e' g1 g2=> ?_⟩) (by simp)⟩,
    e,_,E,ym _,λ_=>.inr ⟨_,_,l,rfl,Z,hcs⟩⟩
   have:j=id:=Q.inj j id _ g1 l;subst this;rw[E]at g2;cases g2;show o < ([]++ys).length*i.size;grind
 .have hmb:σ.m[id]=ab b:=by rw[G]at k1;exact ybl k1
  rcases hent with⟨h,_⟩|⟨b',cur',cap,h,g3,g4,g5,g6,g7,g8⟩
  .grind
  .rw[hmb]at h;cases h;rw[k3]at g3;cases g3
   have hcap:cp=cap:=by
    have:cp*i.size=cap*i.size:=by rw[<-k4, <-g4]
    exact Nat.eq_of_mul_eq_mul_right (Nat.pos_of_ne_zero hne) this
   subst hcap;have hus:(g.toList.take (xs.length*i.size)).length=xs.length*i.size:=by rw[aL _ _ g8,aN h1]
   skip
   skip
   by_cases T:xs.length+ys.length<=cp
   . 
    have zB:=BU (P:=P) (ty:=o.type) ht hi hS hone k3 T g4;let f:Array yh:=(g.toList.take (xs.length*i.size)++Y++g.toList.drop (xs.length*i.size+Y.length)).toArray;let F:Sg:={ σ with m:=σ.m.set id (ab b),H:=σ.H.set id (.log i.size e (xs++ys)),w:=σ.w.setRow b f};have hfit:xs.length*i.size+Y.length<=g.size:=by rw[hnl,g4, <-yba];exact ycb _ T
    have U:f.size=cp*i.size:=by
     grind
    have Z:F.w.heap[b]? =ab (.cells f e (0,0)):=setRow_heap σ.w b g _ e _ k3;have hoth:∀j,b≠j->F.w.heap[j]? =σ.w.heap[j]? :=λj hj=>setRow_other σ.w b j _ (Ne.symm hj);have l:F.m[id]? =ab (ab b):=ak G;have E:F.H[id]? =ab (.log i.size e (xs++ys)):=ak hH
    have hpre:∀o,o < xs.length*i.size->f[o]? =g[o]? :=by
     grind
    have hcl:(g.toList.take (xs.length*i.size)++Y).length=(xs++ys).length*i.size:=by
     grind
    have htk:f.toList.take ((xs++ys).length*i.size)=g.toList.take (xs.length*i.size)++Y:=by
     grind
    have hbl:ys.length=0->f=g:=by
     intro h0;have:Y=[]:=ybj (by rw[hnl,h0];simp);grind
    obtain⟨to,Q⟩:=YN (σ':=F) (mi:=ab b) (mi':=ab b) ok hH (by rw[G,hmb]) rfl rfl rfl rfl rfl rfl rfl (by simp[F])
     (λj hj hne=>hoth j (λhh=>hne (by rw[hh]))) (λb' o v hb' hu M=>by
       cases hb';rw[cell_of_row σ.w b o g e (0,0) k3]at M;show(σ.w.setRow b f).cell? ⟨b,o,ad⟩=ab v;rw[cell_of_row _ b o f e (0,0) Z,hpre o hu];exact M)
     (λo _ hu=>by
       have hu':o < xs.length*i.size:=hu;show o < (xs++ys).length*i.size;rw[zW,yba];omega) (.inl rfl) (λ⟨d,st,h⟩=>by cases h) (λ⟨d,st,h⟩=>by cases h)
     (λs' e' xs' h=>⟨xs++ys,by cases h;rfl,by cases h;simp,λhh=>by
       cases h;refine⟨rfl,λj _=> ?_⟩;have h0:ys.length=0:=by rw[zW]at hh;omega
       by_cases hj:b=j
       .subst hj;rw[Z,k3,hbl h0]
       .exact hoth j hj⟩)
     (λJ=>.inr ⟨b,f,cp,rfl,Z,U,by rw[zW];exact T,h3,R,by
       rw[htk];exact Z7 (aE J.cells _ _ g8) (aE J.cells _ _ hr)⟩)
    refine ZM (σ':=F) (Yq ho zL yR X (by rw[hv];exact zB)) to Q ?_;rw[Zh rfl];simp only[yH,Bool.true_or]
    refine⟨R,ab ⟨b,0,ad⟩,cp,by rw[zW],by rw[zW];exact T,h3,Ym _,λh=>(by cases h),λ_=>⟨b,0,g.toList.take (xs.length*i.size)++Y,rfl,
     Z7 (aE to.leaf.cells _ _ g8) (aE to.leaf.cells _ _ hr),nH Z (λo ho=> ?_) ?_⟩,e,_,E,ym _,λ_=>.inr ⟨b,f,l,rfl,Z,U⟩⟩
    .refine⟨.inr (ok.own id b k1),λj e' g1 g2=> ?_⟩;have:j=id:=Q.inj j id _ g1 l;subst this;rw[E]at g2;cases g2;show o < (xs++ys).length*i.size;grind
    grind
   . 
    have hgr:cp < xs.length+ys.length:=by omega
    have hold:(Builtin.firstCells i.size xs.length (.slice (ab ⟨b,0,ad⟩) xs.length cp)).run P σ.w.drew=.ok (g.toList.take (xs.length*i.size)).toArray σ.w.drew:=
     run_firstCells_some σ.w.drew i.size _ ⟨b,0,ad⟩ _ cp _ hus (λj v hj=>by
      rw[Addr.bI,yar];show σ.w.cell? ⟨b,j,ad⟩=ab v
      have hj2:j < xs.length*i.size:=by
       grind
      rw[cell_of_row σ.w b j g e (0,0) k3];rw[ycd,yW hj2]at hj;simpa using hj)
    have zB:=BV (P:=P) (ty:=o.type) ht hi hzz hS hold hgr hm hb;have hge:=grownCap_ge σ.w (xs.length+ys.length) cp e;have hcm:=grownCap_le_maxLen σ.w (xs.length+ys.length) cp e hm;let q:Nat:=grownCap σ.w (xs.length+ys.length) cp e;let yK:Array yh:=Builtin.zeroCells z.cells (q - (xs.length+ys.length));let f:Array yh:=(g.toList.take (xs.length*i.size)).toArray++Y.toArray++yK;let F:Sg:={ σ with m:=σ.m.set id (ab σ.w.heap.size),H:=σ.H.set id (.log i.size e (xs++ys)),w:=σ.w.drew.alloc (.cells f e)}
    have hcl:(g.toList.take (xs.length*i.size)++Y).length=(xs++ys).length*i.size:=by
     grind
    have U:f.size=q*i.size:=by
     simp only[f,yK,Array.size_append,List.size_toArray,size_zeroCells,hzs,hus,hnl, <-yba];congr 1;omega
    have htk:f.toList.take ((xs++ys).length*i.size)=g.toList.take (xs.length*i.size)++Y:=by
     grind
    have Z:F.w.heap[σ.w.heap.size]? =ab (.cells f e (0,0)):=heap_alloc_new σ.w.drew _;have hg:=YY σ.w (.cells f e) ad;have S:∀b,b < σ.w.heap.size->F.w.heap[b]? =σ.w.heap[b]? :=λb hb=>hg.block b hb (by simp);have l:F.m[id]? =ab (ab σ.w.heap.size):=ak G;have E:F.H[id]? =ab (.log i.size e (xs++ys)):=ak hH
    obtain⟨to,Q⟩:=YN (σ':=F) (mi:=ab b) (mi':=ab σ.w.heap.size) ok hH (by rw[G,hmb]) rfl rfl rfl rfl rfl rfl rfl hg.size
     (λb hb _=>S b hb) (λb' o v hb' _ M=>by
       rw[World.cell?_of_block (w:=σ.w) (S b' (Wj M))];exact M)
     (λo h _=>by
       have:=ok.lt id b k1;cases h;omega) (.inr ⟨_,rfl,ym _,by simp[F]⟩) (λ⟨d,st,h⟩=>by cases h) (λ⟨d,st,h⟩=>by cases h)
     (λs' e' xs' h=>⟨xs++ys,by cases h;rfl,by cases h;simp,λhh=>by
       cases h;rw[zW]at hh;omega⟩)
     (λJ=>.inr ⟨σ.w.heap.size,f,q,rfl,Z,U,by rw[zW];exact hge,hcm,R,by
       rw[htk];exact Z7 (aE J.cells _ _ g8) (aE J.cells _ _ hr)⟩)
    refine ZM (σ':=F) (Yq ho zL yR X (by rw[hv];exact zB)) to Q ?_;rw[Zh rfl];simp only[yH,Bool.true_or]
    refine⟨R,ab ⟨σ.w.heap.size,0,ad⟩,q,by rw[zW],by rw[zW];exact hge,hcm,Ym _,λh=>(by cases h),λ_=>⟨σ.w.heap.size,0,g.toList.take (xs.length*i.size)++Y,rfl,
     Z7 (aE to.leaf.cells _ _ g8) (aE to.leaf.cells _ _ hr),nH Z (λo ho=> ?_) ?_⟩,e,_,E,ym _,λ_=>.inr ⟨_,f,l,rfl,Z,U⟩⟩
    .refine⟨.inr (ok.new _ (ym _)),λj e' g1 g2=> ?_⟩;have:j=id:=Q.inj j id _ g1 l;subst this;rw[E]at g2;cases g2;show o < (xs++ys).length*i.size;grind
    grind
theorem qO{t:yc}{len:Nat}{parts:Array (Nat×yp)}(ho:o.op=.buildSlice t len parts){v:yh}{w':yr}
 (h:(Instr.buildSlice t len (parts.map λq=>(q.1,a.eval q.2))).run P σ.w=.ok v w'):(execOp a.eval o).run P σ.w=.ok (.value v) w':=by
 simp[execOp,ho,h]
theorem qP(l:aD σ ts a){t e:yc}{i:TypeInfo}{len:Nat}{parts:Array (Nat×yp)}{xs:yL Pl}(hu:P.underlying t=ab (.slice e))(hi:P.info? e=ab i)(hz:cu i=ae)
 (hsz:len*i.size<=16777216) (hl:XI P ts e (P.cellsOf e) len parts.toList=ab xs):
 ∃cells:Array yh,(Instr.buildSlice t len (parts.map λq=>(q.1,a.eval q.2))).run P σ.w=.ok (.slice (ab ⟨σ.w.heap.size,0,ad⟩) len len) (σ.w.alloc (.cells cells e))/\
  ar σ.w σ.bf xs cells.toList/\xs.length=len/\aW i.size xs/\cells.size=len*i.size:=by
 have f:P.cellsOf e=i.size:=by simp[Program.cellsOf,hi]
 rw[f]at hl
 obtain⟨cells,m,g,h,j⟩:=Zq5 (P:=P) (t:=t) (parts:=parts.map λq=>(q.1,a.eval q.2)) (Q:=λcells=>ar σ.w σ.bf xs cells.toList/\xs.length=len/\aW i.size xs) σ.w hu hi hz hsz (λZ y=>by
  obtain⟨cells,z,A⟩:=ZC8 (P:=P) l hl Z y;exact⟨cells,by rw[Array.toList_map];exact z,A⟩)
 exact⟨cells,m,g,h,j,by rw[<-yax,aL _ _ g,aN j,h]⟩
theorem TF(ok:Ok σ)(l:aD σ ts a){t e:yc}{i:TypeInfo}{len:Nat}{parts:Array (Nat×yp)}{xs:yL Pl}(ho:o.op=.buildSlice t len parts)(hu:P.underlying t=ab (.slice e))
 (hi:P.info? e=ab i) (hz:cu i=ae) (g:i.size≠0) (hsz:len*i.size<=16777216) (hl:XI P ts e (P.cellsOf e) len parts.toList=ab xs):YL P o a σ (.p (.sl (ab ae) i.size xs)) σ.H:=by
 obtain⟨cells,m,y,j,z,A⟩:=qP (P:=P) l hu hi hz hsz hl;obtain⟨to,f⟩:=nC ok (World.grownBy_alloc σ.w (.cells cells e) ad)
 have h:len<=maxLen:=by
  have:=Nat.le_mul_of_pos_right len (Nat.pos_of_ne_zero g);simp only[maxLen];omega
 refine ZM (σ':={ σ with w:=σ.w.alloc (.cells cells e)}) (qO ho m) to f ?_;rw[<-j];exact TE (QT rfl) f z (aE to.leaf.cells _ _ y) (b:=σ.w.heap.size) (heap_alloc_new σ.w _) (ok.new _ (ym _)) (BW ok) (ycc (ym _)) (ym _) (by rw[j];exact h)
theorem ZC9(ok:Ok σ)(Q:aD σ ts a){t e:yc}{i:TypeInfo}{len:Nat}{parts:Array (Nat×yp)}{xs:yL Pl}(ho:o.op=.buildSlice t len parts)(hu:P.underlying t=ab (.slice e))
 (hi:P.info? e=ab i) (hz:cu i=ae) (E:i.size≠0) (hsz:len*i.size<=16777216) (hl:XI P ts e (P.cellsOf e) len parts.toList=ab xs):
 YL P o a σ (.own σ.H.length (ab ae) i.size xs) (σ.H++[.log i.size e xs]):=by
 obtain⟨cells,R,I,A,J,j⟩:=qP (P:=P) Q hu hi hz hsz hl
 have l:len<=maxLen:=by
  have:=Nat.le_mul_of_pos_right len (Nat.pos_of_ne_zero E);simp only[maxLen];omega
 let g:Sg:={ σ with m:=σ.m++[ab σ.w.heap.size],H:=σ.H++[.log i.size e xs],w:=σ.w.alloc (.cells cells e)};have F:g.w.heap[σ.w.heap.size]? =ab (.cells cells e (0,0)):=heap_alloc_new σ.w _
 have f:g.m[σ.H.length]? =ab (ab σ.w.heap.size):=by
  show(σ.m++[ab σ.w.heap.size])[σ.H.length]? =_;rw[yaq (by rw[ok.len];exact ym _),ok.len];simp
 have G:cells.toList.take (xs.length*i.size)=cells.toList:=ycc (by rw[A, <-j];simp)
 obtain⟨to,y⟩:=WD (σ':=g) ok rfl rfl rfl rfl (World.grownBy_alloc σ.w (.cells cells e) ad) (.inr ⟨_,rfl,ym _,by simp[g]⟩)
  (λz=>.inr ⟨σ.w.heap.size,cells,len,rfl,F,j,by rw[A];exact ym _,l,J,by rw[G];exact aE z.cells _ _ I⟩)
 refine ZM (σ':=g) (qO ho R) to y ?_;rw[Zh rfl];simp only[yH]
 refine⟨J,ab ⟨σ.w.heap.size,0,ad⟩,len,by rw[A],by rw[A];exact ym _,l,QT rfl,λh=>(by cases h),λ_=>⟨σ.w.heap.size,0,cells.toList,rfl,aE to.leaf.cells _ _ I,nH F (λS T=>⟨.inr (ok.new _ (ym _)),λid X U M=> ?_⟩) (ycc (ym _))⟩,
  e,xs,by simp[g],ym _,λ_=>.inr ⟨_,cells,f,rfl,F,j⟩⟩
 have:id=σ.H.length:=y.inj id σ.H.length _ U f;subst this;have W:g.H[σ.H.length]? =ab (.log i.size e xs):=by simp[g]
 rw[W]at M;cases M;show S < xs.length*i.size;grind
theorem TG(ok:Ok σ){t:yc}{dd:Dv}{v:yh}{st:Bool}(g:dd.bF=ae)(A:yJ σ dd v)(E:(execOp a.eval o).run P σ.w=.ok (.value (.pointer (ab ⟨σ.w.heap.size,0,ad⟩))) (σ.w.alloc (.cells v.cells t))):
 YL P o a σ (.aj σ.H.length 0 []) (σ.H++[.var dd st]):=by
 have f:=Vj g A;let h:Sg:={ σ with m:=σ.m++[ab σ.w.heap.size],H:=σ.H++[.var dd st],w:=σ.w.alloc (.cells v.cells t)};have F:h.w.heap[σ.w.heap.size]? =ab (.cells v.cells t (0,0)):=heap_alloc_new σ.w _;have j:=XC _ _ f
 have y:h.m[σ.H.length]? =ab (ab σ.w.heap.size):=by
  show(σ.m++[ab σ.w.heap.size])[σ.H.length]? =_;rw[yaq (by rw[ok.len];exact ym _),ok.len];simp
 obtain⟨to,z⟩:=WD (σ':=h) ok rfl rfl rfl rfl (World.grownBy_alloc σ.w (.cells v.cells t) ad) (.inr ⟨_,rfl,ym _,by simp[h]⟩)
  (λl=>⟨σ.w.heap.size,v.cells,t,rfl,F,by rw[<-j,ycc (ym _)];exact Yg l dd _ f,by rw[<-j];simp⟩)
 refine ZM (σ':=h) E to z ?_;rw[Zh rfl];simp only[yH];grind
theorem ZKw(ok:Ok σ){t:yc}{dd:Dv}{v:yh}{st:Bool}{id:Nat}(hid:σ.H[id]? =ab .gone)(l:dd.bF=ae)(Q:yJ σ dd v)(R:(execOp a.eval o).run P σ.w=.ok (.value (.pointer (ab ⟨σ.w.heap.size,0,ad⟩))) (σ.w.alloc (.cells v.cells t))):
 YL P o a σ (.aj id 0 []) (σ.H.set id (.var dd st)):=by
 have f:=Vj l Q;have G:id < σ.m.length:=by rw[ok.len];exact(yu.1 hid).1
 have A:σ.m[id]? =ab σ.m[id]:=yab G;let g:Sg:={ σ with m:=σ.m.set id (ab σ.w.heap.size),H:=σ.H.set id (.var dd st),w:=σ.w.alloc (.cells v.cells t)};have S:g.w.heap[σ.w.heap.size]? =ab (.cells v.cells t (0,0)):=heap_alloc_new σ.w _;have I:=World.grownBy_alloc σ.w (.cells v.cells t) ad;have y:=XC _ _ f;have J:g.m[id]? =ab (ab σ.w.heap.size):=ak A;have E:g.H[id]? =ab (.var dd st):=ak hid
 obtain⟨to,M⟩:=YN (σ':=g) (mi:=σ.m[id]) (mi':=ab σ.w.heap.size) ok hid A rfl rfl rfl rfl rfl rfl rfl I.size
  (λj F _=>I.block j F (by simp)) (λb o v T _ U=>by
    have F:=ok.lt id b (by rw[A,T]);rw[World.cell?_of_block (w:=σ.w) (I.block b F (by simp))];exact U) (λo W X=>by
    have F:=ok.lt id _ (by rw[A, <-W]);omega) (.inr ⟨_,rfl,ym _,by simp[g]⟩) (λ⟨d,st,h⟩=>by cases h) (λ⟨d,st,h⟩=>by cases h) (λs e Y h=>by cases h)
  (λz=>⟨σ.w.heap.size,v.cells,t,rfl,S,by rw[<-y,ycc (ym _)];exact Yg z dd _ f,by rw[<-y];simp⟩)
  (λv s st e d h=>by cases h)
 refine ZM (σ':=g) R to M ?_;rw[Zh rfl];simp only[yH];grind
theorem BX(ok:Ok σ){t:yc}{i:TypeInfo}{id:Nat}(hid:σ.H[id]? =ab .gone)(ho:o.op=.alloc t)(hi:P.info? t=ab i)(hz:i.zero.isSome=ae)(j:gi P t (bg P t)=ae)(g:(bg P t).bF=ae):
 YL P o a σ (.aj id 0 []) (σ.H.set id (.var (bg P t) ae)):=by
 cases f:i.zero with
 |none=>simp[f]at hz
 |some z=>
  have h:yJ σ (bg P t) z:=by
   unfold bg;rw[hi];simp only[f];exact ny
  refine ZKw (v:=z) (t:=t) ok hid g h ?_;simp[execOp,ho,Instr.alloc,zeroValue,typeInfo,hi,f,newVar,newRow]
theorem ZH8(ok:Ok σ){t:yc}{i:TypeInfo}(ho:o.op=.alloc t)(hi:P.info? t=ab i)(hz:i.zero.isSome=ae)(j:gi P t (bg P t)=ae)(g:(bg P t).bF=ae):
 YL P o a σ (.aj σ.H.length 0 []) (σ.H++[.var (bg P t) ae]):=by
 cases f:i.zero with
 |none=>simp[f]at hz
 |some z=>
  have h:yJ σ (bg P t) z:=by
   unfold bg;rw[hi];simp only[f];exact ny
  refine TG (v:=z) (t:=t) ok g h ?_;simp[execOp,ho,Instr.alloc,zeroValue,typeInfo,hi,f,newVar,newRow]
theorem ZMk(ok:Ok σ){t:yc}{x:yp}{dd:Dv}(ho:o.op=.box t x)(f:dd.bF=ae)(g:yJ σ dd (a.eval x)):YL P o a σ (.aj σ.H.length 0 []) (σ.H++[.var dd ae]):=by
 refine TG (v:=a.eval x) (t:=t) ok f g ?_;simp[execOp,ho,Instr.box,newVar,newRow]
theorem pd{σ:Sg}:∀(yQ:yL Nat)(dd:Dv)(hs hs':yL ao)(C:yL Prop)(off:Nat)(sub:Dv)(us:yL yh),Yd dd yQ hs=ab (C,off,sub,hs')->aX C->yH σ dd us->
 ∃x y z,us=x++(y++z)/\x.length=off/\yH σ sub y
 |[],dd,hs,hs',C,off,sub,us,h,A,f=>by
  simp only[Yd,yn,yq]at h;obtain⟨rfl,rfl,rfl,rfl⟩:=h
  exact⟨[],us,[],by simp,rfl,f⟩
 |i::yQ,dd,hs,hs',C,off,sub,us,h,A,f=>by
  cases dd with
  |p q=>
   cases q with
   |agg W=>
    simp only[Yd]at h;split at h
    .rename_i x l;simp only[yv,yq]at h;obtain⟨⟨C1,g,j,m⟩,E,rfl,rfl,rfl,rfl⟩:=h;simp only[yH,aB]at f;obtain⟨F,G,I,rfl,J,M,_⟩:=la f l;obtain⟨Q,R,S,rfl,T,U⟩:=pd yQ (.p x) _ _ _ _ _ G E A (by simpa[yH] using M);exact⟨F++Q,R,S++I,by simp,by rw[yl,J,T],U⟩
    .cases h
   |arr n s W=>
    simp only[Yd]at h;split at h
    .rename_i y m;simp only[yv,yq]at h;obtain⟨⟨C1,g,j,m⟩,E,rfl,rfl,rfl,rfl⟩:=h;obtain⟨l,A⟩:=A;simp only[yH,aB]at f;obtain⟨Z,X,f⟩:=f;obtain⟨F,G,I,rfl,J,M,_⟩:=la f l;obtain⟨Q,R,S,rfl,T,U⟩:=pd yQ (.p y) _ _ _ _ _ G E A (by simpa[yH] using M);have Y:i < W.length:=(yu.1 l).1;exact⟨F++Q,R,S++I,by simp,by rw[yl,J,T,aN (Vq X i),yaa,yay (Nat.le_of_lt Y)],U⟩
    .cases h
   |_=>simp[Yd]at h
  |agg W=>
   simp only[Yd]at h;split at h
   .rename_i x l;simp only[yv,yq]at h;obtain⟨⟨C1,g,j,m⟩,E,rfl,rfl,rfl,rfl⟩:=h;simp only[yH]at f;obtain⟨F,G,I,rfl,J,M,_⟩:=md f l;obtain⟨Q,R,S,rfl,T,U⟩:=pd yQ x _ _ _ _ _ G E A M;exact⟨F++Q,R,S++I,by simp,by rw[yl,J,T],U⟩
   .cases h
  |arr n s W=>
   simp only[Yd]at h;split at h
   .rename_i x l;simp only[yv,yq]at h;obtain⟨⟨C1,g,j,m⟩,E,rfl,rfl,rfl,rfl⟩:=h;simp only[yH]at f;obtain⟨Z,X,f⟩:=f;obtain⟨F,G,I,rfl,J,M,_⟩:=md f l;obtain⟨Q,R,S,rfl,T,U⟩:=pd yQ x _ _ _ _ _ G E A M;have Y:i < W.length:=(yu.1 l).1;exact⟨F++Q,R,S++I,by simp,by rw[yl,J,T,df (λy hy=>X y (ybs hy)),yaa,yay (Nat.le_of_lt Y)],U⟩
   .cases h
  |_=>simp[Yd]at h
theorem uW(ok:Ok σ){id off:Nat}{yQ:yL Nat}{dd sub:Dv}{st:Bool}{b:Nat}{C:yL Prop}{off':Nat}(hm:σ.m[id]? =ab (ab b))(hH:σ.H[id]? =ab (.var dd st))(A:Yd dd yQ hs=ab (C,off',sub,hs'))(hc:aX C)(he:off'=off):
 ∃cs t x y z,σ.w.heap[b]? =ab (.cells cs t (0,0))/\dd.size<=cs.size/\cs.toList.take dd.size=x++(y++z)/\x.length=off/\yH σ sub y/\yH σ dd (cs.toList.take dd.size)/\
  (∀(j:Nat)(u:yh),y[j]? =ab u->σ.w.cell? ⟨b,off+j,ad⟩=ab u):=by
 obtain⟨M,cs,t,E,f,g,F⟩:=ok.dF id _ _ hH hm;cases E;obtain⟨x,y,z,h,l,G⟩:=pd yQ dd hs hs' C off' sub _ A hc g;subst he;refine⟨cs,t,x,y,z,f,F,h,l,G,g,λj u I=> ?_⟩;rw[cell_of_row σ.w b _ cs t (0,0) f, <-yby, <-l];have Q:j < y.length:=(yu.1 I).1
 have J:x.length+j < dd.size:=by
  have:=congrArg List.length h;grind
 have R:(cs.toList.take dd.size)[x.length+j]? =ab u:=by
  grind
 grind
theorem TH{d:Dv}{s N:Nat}(h:aR d s=ab N):d.size=N*s:=by
 unfold aR at h;split at h
 .split at h
  .rename_i e;cases h;rw[e];rfl
  .cases h
 .split at h
  .rename_i e;cases h;rw[e];rfl
  .cases h
 .cases h
theorem ZDa(ok:Ok σ){id off v s N:Nat}{yQ:yL Nat}{dd sub:Dv}{st:Bool}{e:yc}{b:Nat}{C:yL Prop}{off':Nat}(hm:σ.m[id]? =ab (ab b))(hH:σ.H[id]? =ab (.row v s st e dd))(E:aR dd s=ab N)
 (Q:Yd dd yQ hs=ab (C,off',sub,hs')) (hc:aX C) (he:off'=off):
 ∃cs cap x y z,σ.w.heap[b]? =ab (.cells cs e (0,0))/\cs.size=cap*s/\N<=cap/\cap<=maxLen/\dd.size<=cs.size/\cs.toList.take dd.size=x++(y++z)/\x.length=off/\yH σ sub y/\yH σ dd (cs.toList.take dd.size)/\
  (∀(j:Nat)(u:yh),y[j]? =ab u->σ.w.cell? ⟨b,off+j,ad⟩=ab u):=by
 obtain⟨N',f,h⟩:=ok.dF id _ _ hH hm;rw[E]at f;cases f;rcases h with⟨h,_⟩|⟨X,cs,cap,R,F,G,I,S,l⟩
 .cases h
 cases R;have g:=TH E;rw[<-g]at l;have A:dd.size<=cs.size:=by rw[g,G];exact ycb _ I
 obtain⟨x,y,z,J,M,T⟩:=pd yQ dd hs hs' C off' sub _ Q hc l;subst he;refine⟨cs,cap,x,y,z,F,G,I,S,A,J,M,T,l,λj u U=> ?_⟩;rw[cell_of_row σ.w b _ cs e (0,0) F, <-yby, <-M];have Y:j < y.length:=(yu.1 U).1
 have W:x.length+j < dd.size:=by
  have:=congrArg List.length J;grind
 have Z:(cs.toList.take dd.size)[x.length+j]? =ab u:=by
  grind
 grind
theorem ZH9(ok:Ok σ){id v s b:Nat}{st:Bool}{e:yc}{dd:Dv}(hm:σ.m[id]? =ab (ab b))(hH:σ.H[id]? =ab (.row v s st e dd)):∃N,aR dd s=ab N:=by
 obtain⟨N',f,_⟩:=ok.dF id _ _ hH hm;grind
theorem TI{id v off f s:Nat}{yQ:yL Nat}{st:Bool}{e:yc}{dd:Dv}{u:yh}(g:yJ σ (.aZ id v off yQ) u)(hH:σ.H[id]? =ab (.row f s st e dd))(hv:f=v):∃b,u=.pointer (ab ⟨b,off,ad⟩)/\σ.m[id]? =ab (ab b):=by
 obtain⟨b,j,l,y,z,h,A,d2,E,F,G⟩:=uR g;grind
theorem ZKx(ok:Ok σ)(W:aD σ ts a){t:yc}{x:yp}(ho:o.op=.load t x)(h:bH P o ts σ.H hs=ab (C,d,hs'))(hc:aX C):YL P o a σ d σ.H:=by
 simp only[bH,ho]at h;have f:=Zq (P:=P) W 0 x;split at h
 .rename_i id off X A;rw[A]at f;split at h
  .rename_i Y st m;split at h
   .rename_i C1 y sub E F;split at h
    .rename_i g;cases h;unfold gi at g;simp only[yi,yT]at g;obtain⟨⟨⟨G,I⟩,J⟩,M⟩:=g;obtain⟨j,l⟩:=Zl.1 hc;obtain⟨b,z,U,f⟩:=lr f;obtain⟨Z,t',p1,p2,p3,_,_,_,_,Q,_,R⟩:=uW ok z m F j l.1;obtain⟨v,S,T⟩:=uM (P:=P) Q R G M J I;exact Zk ok (by simp[execOp,ho,f,Instr.loadAt,Instr.sureAddr,S]) T
    .cases h
   .cases h
  .cases h
 .rename_i id v off X A;rw[A]at f;split at h
  .rename_i v' s' st e Y m;split at h
   .rename_i C1 y sub E F;split at h
    .rename_i g;cases h;unfold gi at g;simp only[yi,yT]at g;obtain⟨⟨⟨⟨G,I⟩,J⟩,M⟩,U⟩:=g;obtain⟨j,l⟩:=Zl.1 hc;obtain⟨b,f,z⟩:=TI f m U;obtain⟨N,hN⟩:=ZH9 ok z m;obtain⟨Z,cap,p1,p2,p3,_,_,_,_,_,_,_,Q,_,R⟩:=ZDa ok z m hN F j l.1;obtain⟨v,S,T⟩:=uM (P:=P) Q R G M J I;exact Zk ok (by simp[execOp,ho,f,Instr.loadAt,Instr.sureAddr,S]) T
    .cases h
   .cases h
  .cases h
 .cases h
end
end Go.Ev
end
