/- Parts of the proof, in one file. -/
import Derived.WalkKit
import Derived.Lib.Bytealg
import Derived.Maps.AppendAt
import Derived.Lib.AppendStr
import Derived.Laws.Externs
import Derived.KernelRfl
import Derived.Lib.SlBytesRow
import Derived.Lib.BufferRead
import Derived.Lib.ConvBytes
import Derived.Lib.BytesEntry
import Derived.ChangeKeysEq
import Derived.Laws.StructEq
import Derived.MapKept
import Derived.WideKeyRuns
import Derived.Scope
import Derived.Below
import Derived.ChangeSame
import Derived.ChangeCalls
import Derived.ChangeStays
import Derived.OpenShut
import Derived.ProofKit
import Derived.JoinedCond
import Derived.Test.YtekdgjajmennjaaGreatProg
import Derived.Lib.Walk
import Derived.Lib.SliceRun
import Derived.Lib.AppendZerosOnto
import Derived.Test.YtekdgjajmennjaaGreatRows
open Option renaming some → ab, none → ae
open Bool renaming true → af, false → ag
open Decidable renaming decide → ah
abbrev yL.{u}(α:Type u):=List α
abbrev yO.{u}(α:Type u):=Option α
abbrev yU:=UInt64
abbrev yB:=UInt8
abbrev yV:=UInt32
theorem zZ:True:=trivial
theorem yW.{u}{c:Prop}{h:Decidable c}(hc:c){α:Sort u}{t e:α}:(ite c t e)=t:=if_pos hc
theorem yX.{u}{c:Prop}{h:Decidable c}(hc:¬c){α:Sort u}{t e:α}:(ite c t e)=e:=if_neg hc
theorem yY{p:Prop}[inst:Decidable p](h:p):decide p=af:=decide_eq_true h
theorem yZ{p:Prop}[inst:Decidable p](h:¬p):decide p=ag:=decide_eq_false h
theorem yP{p:Prop}[Decidable p]:(decide p=af)=p:=decide_eq_true_eq
theorem yN{p:Prop}[Decidable p]:decide p=af↔p:=decide_eq_true_iff
theorem yT.{u}{α:Type u}[BEq α][LawfulBEq α]{a b:α}:(a==b)=af↔a=b:=beq_iff_eq
theorem yE.{u}{α:Type u}[BEq α][LawfulBEq α]{a b:α}:(a != b)=af↔a≠b:=bne_iff_ne
theorem yF{p:Prop}[inst:Decidable p](h:decide p=af):p:=of_decide_eq_true h
open Array renaming length_toList → yby, getElem?_toList → ycf, toArray_toList → ycl, toList_map → ycu
open BitVec renaming ofInt → ycb
open Bool renaming and_eq_true → yi
open Go renaming TypeId → yc, Program → yg, Value → yh, Operand → ym, FuncId → yq
open List renaming length_append → yl, getElem?_eq_some_iff → yo, range → yu, replicate → yw, length_take → yx, length_map → yab, getElem?_eq_getElem → yac, append_assoc → yad, cons_append → yae, map_cons → yag, getElem?_map → yak, length_cons → yam, getElem?_append_right → yaq, mem_singleton → yas, mem_cons_self → yax, getElem?_cons_succ → yay, mem_cons_of_mem → yaz, length_set → yba, take_append_drop → ybd, getElem?_append_left → ybe, eq_nil_of_length_eq_zero → ybh, ext_getElem? → ybj, getElem?_cons_zero → ybm, mem_of_mem_take → ybn, take_of_length_le → ybs, all_eq_true → ybx, getElem?_set → yca, mem_map → yci, getElem?_take → ycr
open Nat renaming le_refl → yj, zero_add → yat, add_mul → yau, min_eq_left → ybc, le_trans → ybk, add_zero → ybu, mul_le_mul_right → ycg, lt_or_ge → ych
open Option renaming bind_eq_some_iff → yf, map_eq_some_iff → yn
open Option.some renaming injEq → yp, inj → yaw
open Prod.mk renaming injEq → yz
set_option linter.unusedVariables false
set_option linter.unusedSimpArgs false
namespace Go.Ev
abbrev ct:yL yB:=[0,0,0,0,0,0,0,0,0,0,0,0,0,0,0,0,0,0,0,0,0,0,0,0,0,0,0,0,0,0,0,0]
theorem cE {c:Prop} [Decidable c] (h:¬c):¬decide c=af:=by simpa using h
theorem ao:True:=trivial
end Go.Ev
section
namespace Go.Ev
inductive Pl where
 |int (k:IntKind) (n:Int)
 |bool (b:Bool)
 |str (s:ByteArray)
 |bE|fn0|dE|bU
 |fS (f:yq)
 |agg (xs:List Pl)
 |arr (n s:Nat) (xs:List Pl)
 |sl (nn:Option Bool) (s:Nat) (xs:List Pl)
 |iface (t:yc) (x:Pl)
 deriving Inhabited
mutual
def Pl.size:Pl->Nat
 |.agg xs=>Pl.sizes xs
 |.arr n s _=>n*s
 |_=>1
def Pl.sizes:yL Pl->Nat
 |[]=>0
 |x::r=>x.size+Pl.sizes r
end
def Pl.isAgg:Pl->Bool
 |.agg _=>af
 |.arr _ _ _=>af
 |_=>ag
def aR(s:Nat)(xs:yL Pl):Prop:=∀x,x∈xs->x.size=s
def iK(nn:yO Bool)(A:yO Addr):Prop:=∀b,nn=ab b->A.isSome=b
theorem YE(A:yO Addr):iK ae A:=λb h=>by cases h
theorem lK{A:yO Addr}(h:A.isSome=af):iK (ab af) A:=λb e=>by cases e;exact h
theorem ZyQ{A:yO Addr}(h:A=ae):iK (ab ag) A:=λb e=>by cases e;rw[h];rfl
def VJ(w:World)(S:Nat->Nat->Prop)(b o:Nat)(us:yL yh):Prop:=
 ∀j u,us[j]? =ab u->w.cell? ⟨b,o+j,ae⟩=ab u/\S b (o+j)
mutual
def aw(w:World)(S:Nat->Nat->Prop):Pl->yL yh->Prop
 |.int k n,vs=>vs=[.int k n]
 |.bool b,vs=>vs=[.bool b]
 |.str s,vs=>vs=[.string s]
 |.bE,vs=>vs=[.pointer ae]
 |.fn0,vs=>vs=[.nilFunc]
 |.dE,vs=>vs=[.nilIface]
 |.bU,vs=>vs=[.map ae]
 |.fS f,vs=>vs=[.func (.func f) #[] #[]]
 |.agg xs,vs=>aq w S xs vs
 |.arr n s xs,vs=>xs.length=n/\aR s xs/\aq w S xs vs
 |.sl nn s xs,vs=>aR s xs/\∃A c,vs=[.slice A xs.length c]/\xs.length<=c/\c<=maxLen/\iK nn A/\(A=ae->c=0)/\
   (xs≠[]->∃b o us,A=ab ⟨b,o,ae⟩/\aq w S xs us/\VJ w S b o us)
 |.iface t x,vs=>∃v,vs=[.iface t v]/\(x.isAgg=af->∃cs:Array yh,v=.agg cs/\aw w S x cs.toList)/\(x.isAgg=ag->aw w S x [v])
def aq(w:World)(S:Nat->Nat->Prop):yL Pl->yL yh->Prop
 |[],vs=>vs=[]
 |x::xs,vs=>∃us us',vs=us++us'/\aw w S x us/\aq w S xs us'
end
mutual
def Pl.soft:Pl->Pl
 |.agg xs=>.agg (Pl.cv xs)
 |.arr n s xs=>.arr n s (Pl.cv xs)
 |.sl _ s xs=>.sl ae s xs
 |.iface t x=>.iface t (Pl.soft x)
 |x=>x
def Pl.cv:yL Pl->yL Pl
 |[]=>[]
 |x::r=>x.soft::Pl.cv r
end
inductive Dv where
 |p (x:Pl)
 |elem (x:Pl)
 |am (id off:Nat) (yM:List Nat)
 |own (id:Nat) (nn:Option Bool) (s:Nat) (xs:List Pl)
 |view (id off:Nat) (yM:List Nat) (s lo n:Nat)
 |agg (xs:List Dv)
 |arr (n s:Nat) (xs:List Dv)
 |fn (f:yq) (cap:List Dv)
 |iface (t:yc) (x:Dv)
 |bi (xs:List Dv)
 |mp (id:Nat)
 |rv (id v s lo n:Nat)
 |aZ (id v off:Nat) (yM:List Nat)
 |aA
 deriving Inhabited
mutual
def Dv.size:Dv->Nat
 |.p x=>x.size
 |.agg xs=>Dv.sizes xs
 |.arr n s _=>n*s
 |_=>1
def Dv.sizes:yL Dv->Nat
 |[]=>0
 |x::r=>x.size+Dv.sizes r
end
def Dv.isAgg:Dv->Bool
 |.p x=>x.isAgg
 |.agg _=>af
 |.arr _ _ _=>af
 |_=>ag
inductive ay where
 |var (d:Dv) (st:Bool)
 |log (s:Nat) (e:yc) (xs:List Pl)
 |map (t:yc) (bu:List (Pl×Pl))
 |row (v s:Nat) (st:Bool) (e:yc) (d:Dv)
 |gone
 deriving Inhabited
structure Sg where
 F:Nat->Nat->Prop
 B:Nat->Prop
 m:List (Option Nat)
 H:List ay
 w:World
def aY:Dv->Nat->yO Nat
 |.p (.arr n s' _),s=>if s'=s then ab n else ae
 |.arr n s' _,s=>if s'=s then ab n else ae
 |_,_=>ae
def ay.bp:ay->Nat->Prop
 |.var _ st,_=>st=ag
 |.log s _ xs,o=>o < xs.length*s
 |.map _ _,_=>False
 |.row _ s st _ d,o=>st=ag/\∃N,aY d s=ab N/\o < N*s
 |.gone,_=>True
def Sg.aU(σ:Sg)(b o:Nat):Prop:=
 (σ.F b o\/σ.B b)/\∀(id:Nat)(e:ay),σ.m[id]? =ab (ab b)->σ.H[id]? =ab e->e.bp o
def cL(σ:Sg)(id s:Nat)(len:Nat)(A:yO Addr)(c:Nat):Prop:=
 ∃e ys,σ.H[id]? =ab (.log s e ys)/\len<=ys.length/\(ys.length=len->
  (σ.m[id]? =ab ae/\A=ae/\c=0)\/
  ∃b cur,σ.m[id]? =ab (ab b)/\A=ab ⟨b,0,ae⟩/\σ.w.heap[b]? =ab (.cells cur e (0,0))/\cur.size=c*s)
def rowAt(σ:Sg)(id v s lo:Nat)(A:yO Addr)(c:Nat):Prop:=
 ∃v' s' st e d,σ.H[id]? =ab (.row v' s' st e d)/\v<=v'/\(v'=v->s'=s/\
  ((σ.m[id]? =ab ae/\A=ae/\lo+c=0)\/∃b cur,σ.m[id]? =ab (ab b)/\σ.w.heap[b]? =ab (.cells cur e (0,0))/\cur.size=(lo+c)*s/\(0 < c->A=ab ⟨b,lo*s,ae⟩)))
def rowIs(σ:Sg)(id v b o off:Nat):Prop:=∃v' s st e d,σ.H[id]? =ab (.row v' s st e d)/\v<=v'/\(v'=v->σ.m[id]? =ab (ab b)/\o=off)
def big:Nat:=4294967296
def dY(f:yq):yq:=if f < big then f else f - big
mutual
def yG(σ:Sg):Dv->yL yh->Prop
 |.p x,vs=>aw σ.w σ.aU x vs
 |.elem x,vs=>∃b o us,vs=[.pointer (ab ⟨b,o,ae⟩)]/\aw σ.w σ.aU x us/\VJ σ.w σ.aU b o us
 |.am id off _,vs=>∃b,σ.m[id]? =ab (ab b)/\(∃d st,σ.H[id]? =ab (.var d st))/\vs=[.pointer (ab ⟨b,off,ae⟩)]
 |.own id nn s xs,vs=>aR s xs/\∃A c,vs=[.slice A xs.length c]/\xs.length<=c/\c<=maxLen/\iK nn A/\(A=ae->c=0)/\
   (xs≠[]->∃b o us,A=ab ⟨b,o,ae⟩/\aq σ.w σ.aU xs us/\VJ σ.w σ.aU b o us)/\cL σ id s xs.length A c
 |.view id off _ s lo n,vs=>∃b c a,σ.m[id]? =ab (ab b)/\(∃d st,σ.H[id]? =ab (.var d st))/\vs=[.slice (ab a) n c]/\n<=c/\c<=maxLen/\
   (0 < n->a=⟨b,off+lo*s,ae⟩)
 |.agg xs,vs=>aI σ xs vs
 |.arr n s xs,vs=>xs.length=n/\(∀x,x∈xs->x.size=s)/\aI σ xs vs
 |.fn f cap,vs=>∃fs cs,vs=[.func (.func (dY f)) fs cs]/\(if f < big then fs else cs)= #[]/\aC σ cap (fs++cs).toList
 |.iface t x,vs=>∃v,vs=[.iface t v]/\(x.isAgg=af->∃cs:Array yh,v=.agg cs/\yG σ x cs.toList)/\(x.isAgg=ag->yG σ x [v])
 |.bi xs,vs=>∃cs,vs=[.tuple cs]/\aC σ xs cs.toList
 |.mp id,vs=>∃b,σ.m[id]? =ab (ab b)/\(∃t bu,σ.H[id]? =ab (.map t bu))/\vs=[.map (ab b)]
 |.rv id v s lo n,vs=>∃A c,vs=[.slice A n c]/\n<=c/\c<=maxLen/\(A=ae->c=0)/\(0 < n->∃b o,A=ab ⟨b,o,ae⟩)/\rowAt σ id v s lo A c
 |.aZ id v off _,vs=>∃b o,vs=[.pointer (ab ⟨b,o,ae⟩)]/\rowIs σ id v b o off
 |.aA,vs=>vs.length=1
def aI(σ:Sg):yL Dv->yL yh->Prop
 |[],vs=>vs=[]
 |x::xs,vs=>∃us us',vs=us++us'/\yG σ x us/\aI σ xs us'
def aC(σ:Sg):yL Dv->yL yh->Prop
 |[],vs=>vs=[]
 |x::xs,vs=>∃v vs',vs=v::vs'/\((x.isAgg=af->∃cs:Array yh,v=.agg cs/\yG σ x cs.toList)/\(x.isAgg=ag->yG σ x [v]))/\aC σ xs vs'
end
def yH(σ:Sg)(d:Dv)(v:yh):Prop:=
 (d.isAgg=af->∃cs:Array yh,v=.agg cs/\yG σ d cs.toList)/\(d.isAgg=ag->yG σ d [v])
theorem VJ.mono{w w':World}{S S':Nat->Nat->Prop}(h:∀(b o:Nat)(v:yh),w.cell? ⟨b,o,ae⟩=ab v->S b o->w'.cell? ⟨b,o,ae⟩=ab v/\S' b o)
 {b o:Nat} {us:yL yh} (hc:VJ w S b o us):VJ w' S' b o us:=
 λj u hu=>let ⟨h1,h2⟩:=hc j u hu;h _ _ _ h1 h2
mutual
theorem jS{w w':World}{S S':Nat->Nat->Prop}(h:∀(b o:Nat)(v:yh),w.cell? ⟨b,o,ae⟩=ab v->S b o->w'.cell? ⟨b,o,ae⟩=ab v/\S' b o):∀(x:Pl)(vs:yL yh),aw w S x vs->aw w' S' x vs
 |.int _ _,_,hr=>by simpa[aw] using hr
 |.bool _,_,hr=>by simpa[aw] using hr
 |.str _,_,hr=>by simpa[aw] using hr
 |.bE,_,hr=>by simpa[aw] using hr
 |.fn0,_,hr=>by simpa[aw] using hr
 |.dE,_,hr=>by simpa[aw] using hr
 |.bU,_,hr=>by simpa[aw] using hr
 |.fS _,_,hr=>by simpa[aw] using hr
 |.agg xs,vs,hr=>by
  simp only[aw]at hr ⊢
  exact aD h xs vs hr
 |.arr n s xs,vs,hr=>by
  simp only[aw]at hr ⊢
  exact⟨hr.1,hr.2.1,aD h xs vs hr.2.2⟩
 |.sl nn s xs,vs,hr=>by
  simp only[aw]at hr ⊢;obtain⟨h1,A,c,h2,h3,h4,h5,h6,h7⟩:=hr;refine⟨h1,A,c,h2,h3,h4,h5,h6,λhne=> ?_⟩;obtain⟨b,o,us,e1,e2,e3⟩:=h7 hne
  exact⟨b,o,us,e1,aD h xs us e2,e3.mono h⟩
 |.iface t x,vs,hr=>by
  simp only[aw]at hr ⊢;obtain⟨v,h1,h2,h3⟩:=hr;refine⟨v,h1,λha=> ?_,λha=>jS h x _ (h3 ha)⟩;obtain⟨cs,e1,e2⟩:=h2 ha;exact⟨cs,e1,jS h x _ e2⟩
theorem aD{w w':World}{S S':Nat->Nat->Prop}(h:∀(b o:Nat)(v:yh),w.cell? ⟨b,o,ae⟩=ab v->S b o->w'.cell? ⟨b,o,ae⟩=ab v/\S' b o):∀(xs:yL Pl)(vs:yL yh),aq w S xs vs->aq w' S' xs vs
 |[],_,hr=>by simpa[aq] using hr
 |x::xs,vs,hr=>by
  simp only[aq]at hr ⊢;obtain⟨us,us',h1,h2,h3⟩:=hr;exact⟨us,us',h1,jS h x us h2,aD h xs us' h3⟩
end
structure cu(σ σ':Sg):Prop where
 cells:∀(b o:Nat)(v:yh),σ.w.cell? ⟨b,o,ae⟩=ab v->σ.aU b o->σ'.w.cell? ⟨b,o,ae⟩=ab v/\σ'.aU b o
 var:∀(id b:Nat),σ.m[id]? =ab (ab b)->(∃d st,σ.H[id]? =ab (.var d st))->σ'.m[id]? =ab (ab b)/\∃d st,σ'.H[id]? =ab (.var d st)
 front:∀(id s len:Nat)(A:Option Addr)(c:Nat),cL σ id s len A c->cL σ' id s len A c
 map:∀(id b:Nat),σ.m[id]? =ab (ab b)->(∃t bu,σ.H[id]? =ab (.map t bu))->σ'.m[id]? =ab (ab b)/\∃t bu,σ'.H[id]? =ab (.map t bu)
 row:∀(id v s:Nat)(st:Bool)(e:yc)(d:Dv),σ.H[id]? =ab (.row v s st e d)->∃v' st' d',σ'.H[id]? =ab (.row v' s st' e d')/\v<=v'/\(v'=v->σ'.m[id]? =σ.m[id]? /\
  ∀b cur,σ.m[id]? =ab (ab b)->σ.w.heap[b]? =ab (.cells cur e (0,0))->∃cur',σ'.w.heap[b]? =ab (.cells cur' e (0,0))/\cur'.size=cur.size)
theorem cu.refl(σ:Sg):cu σ σ:=⟨λ_ _ _ a b=>⟨a,b⟩,λ_ _ a b=>⟨a,b⟩,λ_ _ _ _ _ a=>a,λ_ _ a b=>⟨a,b⟩,λ_ v _ st _ d h=>⟨v,st,d,h,yj _,λ_=>⟨rfl,λb cur _ hc=>⟨cur,hc,rfl⟩⟩⟩⟩
theorem cu.trans{a b c:Sg}(h:cu a b)(k:cu b c):cu a c:=
 ⟨λx o v h1 h2=>let ⟨h3,h4⟩:=h.cells x o v h1 h2;k.cells x o v h3 h4,λi x h1 h2=>let ⟨h3,h4⟩:=h.var i x h1 h2;k.var i x h3 h4,
  λi s l A cc h1=>k.front i s l A cc (h.front i s l A cc h1),λi x h1 h2=>let ⟨h3,h4⟩:=h.map i x h1 h2;k.map i x h3 h4,
  λi v s st e d h1=>by
   obtain⟨v2,st2,d2,k1,k2,k3⟩:=h.row i v s st e d h1;obtain⟨v3,st3,d3,l1,l2,l3⟩:=k.row i v2 s st2 e d2 k1;refine⟨v3,st3,d3,l1,ybk k2 l2,λhv=> ?_⟩;have e1:v2=v:=by omega
   have e2:v3=v2:=by omega
   obtain⟨p1,p2⟩:=k3 e1;obtain⟨q1,q2⟩:=l3 e2;refine⟨q1.trans p1,λb cur hb hc=> ?_⟩;obtain⟨cur',r1,r2⟩:=p2 b cur hb hc;obtain⟨cur2,r3,r4⟩:=q2 b cur' (by rw[p1];exact hb) r1;exact⟨cur2,r3,by rw[r4,r2]⟩⟩
theorem ZHP{σ σ':Sg}(h:cu σ σ'){id v s lo:Nat}{A:yO Addr}{c:Nat}:rowAt σ id v s lo A c->rowAt σ' id v s lo A c:=by
 rintro⟨v',s',st,e,d,h1,h2,h3⟩;obtain⟨v2,st2,d2,k1,k2,k3⟩:=h.row _ _ _ _ _ _ h1;refine⟨v2,s',st2,e,d2,k1,ybk h2 k2,λhv=> ?_⟩;have e1:v'=v:=by omega
 have e2:v2=v':=by omega
 obtain⟨q1,q2⟩:=k3 e2;obtain⟨q3,q4⟩:=h3 e1;refine⟨q3, ?_⟩;rcases q4 with⟨a1,a2⟩|⟨b,cur,a1,a2,a3,a4⟩
 .exact .inl ⟨by rw[q1,a1],a2⟩
 .obtain⟨cur',b1,b2⟩:=q2 b cur a1 a2;exact .inr ⟨b,cur',by rw[q1,a1],b1,by rw[b2,a3],a4⟩
theorem ZHQ{σ σ':Sg}(h:cu σ σ'){id v b o off:Nat}:rowIs σ id v b o off->rowIs σ' id v b o off:=by
 rintro⟨v',s',st,e,d,h1,h2,h3⟩;obtain⟨v2,st2,d2,k1,k2,k3⟩:=h.row _ _ _ _ _ _ h1;refine⟨v2,s',st2,e,d2,k1,ybk h2 k2,λhv=> ?_⟩;have e1:v'=v:=by omega
 have e2:v2=v':=by omega
 rw[(k3 e2).1];exact h3 e1
mutual
theorem Yi{σ σ':Sg}(h:cu σ σ'):∀(d:Dv)(vs:yL yh),yG σ d vs->yG σ' d vs
 |.p x,vs,hr=>by
  simp only[yG]at hr ⊢
  exact jS h.cells x vs hr
 |.elem x,vs,hr=>by
  simp only[yG]at hr ⊢;obtain⟨b,o,us,h1,h2,h3⟩:=hr
  exact⟨b,o,us,h1,jS h.cells x us h2,h3.mono h.cells⟩
 |.am id off yM,vs,hr=>by
  simp only[yG]at hr ⊢;obtain⟨b,h1,h2,h3⟩:=hr
  exact⟨b,(h.var id b h1 h2).1,(h.var id b h1 h2).2,h3⟩
 |.own id nn s xs,vs,hr=>by
  simp only[yG]at hr ⊢;obtain⟨h1,A,c,h2,h3,h4,h5,h6,h7,h8⟩:=hr;refine⟨h1,A,c,h2,h3,h4,h5,h6,λhne=> ?_,h.front _ _ _ _ _ h8⟩;obtain⟨b,o,us,e1,e2,e3⟩:=h7 hne
  exact⟨b,o,us,e1,aD h.cells xs us e2,e3.mono h.cells⟩
 |.view id off yM s lo n,vs,hr=>by
  simp only[yG]at hr ⊢;obtain⟨b,c,a,h1,h2,h3⟩:=hr
  exact⟨b,c,a,(h.var id b h1 h2).1,(h.var id b h1 h2).2,h3⟩
 |.agg xs,vs,hr=>by
  simp only[yG]at hr ⊢
  exact dG h xs vs hr
 |.arr n s xs,vs,hr=>by
  simp only[yG]at hr ⊢
  exact⟨hr.1,hr.2.1,dG h xs vs hr.2.2⟩
 |.fn f cap,vs,hr=>by
  simp only[yG]at hr ⊢;obtain⟨fs,cs,h1,h0,h2⟩:=hr
  exact⟨fs,cs,h1,h0,ce h cap _ h2⟩
 |.iface t x,vs,hr=>by
  simp only[yG]at hr ⊢;obtain⟨v,h1,h2,h3⟩:=hr;refine⟨v,h1,λha=> ?_,λha=>Yi h x _ (h3 ha)⟩;obtain⟨cs,e1,e2⟩:=h2 ha
  exact⟨cs,e1,Yi h x _ e2⟩
 |.bi xs,vs,hr=>by
  simp only[yG]at hr ⊢;obtain⟨cs,h1,h2⟩:=hr
  exact⟨cs,h1,ce h xs _ h2⟩
 |.mp id,vs,hr=>by
  simp only[yG]at hr ⊢;obtain⟨b,h1,h2,h3⟩:=hr
  exact⟨b,(h.map id b h1 h2).1,(h.map id b h1 h2).2,h3⟩
 |.rv id v s lo n,vs,hr=>by
  simp only[yG]at hr ⊢;obtain⟨A,c,h1,h2,h3,h4,h5,h6⟩:=hr
  exact⟨A,c,h1,h2,h3,h4,h5,ZHP h h6⟩
 |.aZ id v off yM,vs,hr=>by
  simp only[yG]at hr ⊢;obtain⟨b,o,h1,h2⟩:=hr
  exact⟨b,o,h1,ZHQ h h2⟩
 |.aA,_,hr=>by simpa[yG] using hr
theorem dG{σ σ':Sg}(h:cu σ σ'):∀(ds:yL Dv)(vs:yL yh),aI σ ds vs->aI σ' ds vs
 |[],_,hr=>by simpa[aI] using hr
 |x::xs,vs,hr=>by
  simp only[aI]at hr ⊢;obtain⟨us,us',h1,h2,h3⟩:=hr;exact⟨us,us',h1,Yi h x us h2,dG h xs us' h3⟩
theorem ce{σ σ':Sg}(h:cu σ σ'):∀(ds:yL Dv)(vs:yL yh),aC σ ds vs->aC σ' ds vs
 |[],_,hr=>by simpa[aC] using hr
 |x::xs,vs,hr=>by
  simp only[aC]at hr ⊢;obtain⟨v,vs',h1,⟨h2,h3⟩,h4⟩:=hr;refine⟨v,vs',h1,⟨λha=> ?_,λha=>Yi h x _ (h3 ha)⟩,ce h xs vs' h4⟩;obtain⟨cs,e1,e2⟩:=h2 ha;exact⟨cs,e1,Yi h x _ e2⟩
end
theorem mT{σ σ':Sg}(h:cu σ σ'){d:Dv}{v:yh}(hr:yH σ d v):yH σ' d v:=by
 obtain⟨h2,h3⟩:=hr;refine⟨λha=> ?_,λha=>Yi h d _ (h3 ha)⟩;obtain⟨cs,e1,e2⟩:=h2 ha;exact⟨cs,e1,Yi h d _ e2⟩
def gr(σ:Sg):yL (Pl×Pl)->yL MapEntry->Prop
 |[],[]=>True
 |q::r,e::es=>yH σ (.p q.1) e.key/\yH σ (.p q.2) e.val/\gr σ r es
 |_,_=>False
def il(σ:Sg)(bu:yL (Pl×Pl))(es:yL MapEntry):Prop:=∃l,l.Perm bu/\(bu.map (·.1)).Nodup/\gr σ l es
def kH(es:Array MapEntry)(clock:Nat):Prop:=
 (∀(q:Nat)en,es[q]? =ab en->en.born < clock)/\∀(q q':Nat)en en',es[q]? =ab en->es[q']? =ab en'->en.born=en'.born->q=q'
def dc(σ:Sg)(a:yO Nat):ay->Prop
 |.var d _=>∃b cs t,a=ab b/\σ.w.heap[b]? =ab (.cells cs t (0,0))/\yG σ d (cs.toList.take d.size)/\d.size<=cs.size
 |.log s e xs=>(a=ae/\xs=[])\/
   ∃b cur cap,a=ab b/\σ.w.heap[b]? =ab (.cells cur e (0,0))/\cur.size=cap*s/\xs.length<=cap/\cap<=maxLen/\aR s xs/\
    aq σ.w σ.aU xs (cur.toList.take (xs.length*s))
 |.map _ bu=>∃b es clock,a=ab b/\σ.w.heap[b]? =ab (.map es clock)/\il σ bu es.toList/\kH es clock
 |.row _ s _ e d=>∃N,aY d s=ab N/\((a=ae/\N=0)\/
   ∃b cur cap,a=ab b/\σ.w.heap[b]? =ab (.cells cur e (0,0))/\cur.size=cap*s/\N<=cap/\cap<=maxLen/\yG σ d (cur.toList.take (N*s)))
 |.gone=>True
structure Ok(σ:Sg):Prop where
 len:σ.m.length=σ.H.length
 inj:∀(i j b:Nat),σ.m[i]? =ab (ab b)->σ.m[j]? =ab (ab b)->i=j
 lt:∀(i b:Nat),σ.m[i]? =ab (ab b)->b < σ.w.heap.size
 cY:∀(i:Nat)(e:ay)(a:Option Nat),σ.H[i]? =ab e->σ.m[i]? =ab a->dc σ a e
 new:∀(b:Nat),σ.w.heap.size<=b->σ.B b
 own:∀(i b:Nat),σ.m[i]? =ab (ab b)->σ.B b
structure To(σ σ':Sg):Prop where
 leaf:cu σ σ'
 F:σ'.F=σ.F
 B:σ'.B=σ.B
 os:σ'.w.os=σ.w.os
 tape:σ'.w.tape=σ.w.tape
 output:σ'.w.output=σ.w.output
 size:σ.w.heap.size<=σ'.w.heap.size
 block:∀(b:Nat),b < σ.w.heap.size->(∀(id:Nat),σ.m[id]? ≠ab (ab b))->σ'.w.heap[b]? =σ.w.heap[b]?
 same:∀(id b:Nat),σ'.m[id]? =ab (ab b)->σ.m[id]? =ab (ab b)\/σ.w.heap.size<=b
 len:σ.m.length<=σ'.m.length
theorem To.refl(σ:Sg):To σ σ:=⟨cu.refl σ,rfl,rfl,rfl,rfl,rfl,yj _,λ_ _ _=>rfl,λ_ _ h=>.inl h,yj _⟩
theorem To.trans{a b c:Sg}(h:To a b)(k:To b c):To a c where
 leaf:=h.leaf.trans k.leaf
 F:=k.F.trans h.F
 B:=k.B.trans h.B
 os:=k.os.trans h.os
 tape:=k.tape.trans h.tape
 output:=k.output.trans h.output
 size:=ybk h.size k.size
 block x hx hn:=(k.block x (Nat.lt_of_lt_of_le hx h.size) (λid he=>by
  rcases h.same id x he with h1|h1
  .exact hn id h1
  .omega)).trans (h.block x hx hn)
 same id x hx:=by
  rcases k.same id x hx with h1|h1
  .exact h.same id x h1
  .exact .inr (ybk h.size h1)
 len:=ybk h.len k.len
def cH(P:yg)(f:yq)(args:yL Dv)(H:yL ay)(r:Dv)(H':yL ay):Prop:=
 ∀(σ:Sg)(vs:yL yh),Ok σ->σ.H=H->aC σ args vs->
  Calls P f vs.toArray σ.w λe w'=>∃v σ',e=.returned v/\σ'.w=w'/\σ'.H=H'/\To σ σ'/\Ok σ'/\yH σ' r v
structure aK(σ:Sg)(ts:List Dv)(a:Act):Prop where
 size:a.tmps.size=ts.length
 at_:∀(i:Nat)(d:Dv),ts[i]? =ab d->yH σ d (a.tmps.getD i undef)
 defers:a.defers=[]
theorem aK.to{σ σ':Sg}{ts:yL Dv}{a:Act}(h:aK σ ts a)(k:cu σ σ'):aK σ' ts a:=
 ⟨h.size,λi d hd=>mT k (h.at_ i d hd),h.defers⟩
inductive Ex where
 |normal
 |exit (id:Nat)
 |ret
 deriving DecidableEq,Inhabited
def Ex.to:Ex->Exit
 |.normal=>.normal
 |.exit id=>.exit id
 |.ret=>.ret
def Vd(P:yg)(c:Code)(ts:yL Dv)(H:yL ay)(ex:Ex)(ts':yL Dv)(H':yL ay):Prop:=
 ∀(σ:Sg)(a:Act),Ok σ->σ.H=H->aK σ ts a->
  c.wp P (λe a' w'=>e=ex.to/\∃σ',σ'.w=w'/\σ'.H=H'/\To σ σ'/\Ok σ'/\aK σ' ts' a') a σ.w
inductive ar where
 |b (t:Bool)
 |el (x:Pl)
 |bare
 |raw
 |call (r:Dv) (H':List ay) (ids:List Nat)
 |sub (t:Nat) (d:Dv)
 |own
 |jj
 |bu (l:List (Pl×Pl))
 |arr
 |cK
 |fresh (dst:Nat)
 |jk (dst:Nat)
 |still (dst:Nat)
 |bP (yM:List Nat) (s:Nat) (e:yc)
 |loop (mask:List Nat) (ex:Ex) (ts':List Dv) (H':List ay)
 |im (g:yq)
 deriving Inhabited
def oI(P:yg)(t:yc)(name:String)(g:yq):Prop:=
 ∀(v:yh)(args:Array yh)(w:World),(callMethod (.iface t v) name args).run P w=(callFunc g (#[v]++args)).run P w
def QW(k:IntKind)(x:Int):Prop:=k.min<=x/\x<=k.max
def ZR1(P:yg)(t:yc):Nat:=
 match P.underlying t with
 |some (.slice e)=>P.cellsOf e
 |_=>0
def WS(P:yg)(t:yc):Bool:=
 match P.underlying t with
 |some (.struct _)=>af
 |some (.array _ _)=>af
 |_=>ag
def uO(P:yg)(t:yc):yh->yO Pl
 |.int k n=>ab (.int k n)
 |.bool b=>ab (.bool b)
 |.string s=>ab (.str s)
 |.pointer ae=>ab .bE
 |.nilFunc=>ab .fn0
 |.nilIface=>ab .dE
 |.map ae=>ab .bU
 |.slice ae 0 0=>ab (.sl (ab ag) (ZR1 P t) [])
 |_=>ae
mutual
def oJ(P:yg):Nat->yc->yL yh->yO (Pl×yL yh)
 |0,_,_=>ae
 |yD+1,t,vs=>
  match P.underlying t with
  |some (.struct fs)=>(cM P yD (fs.toList.map (·.type)) vs).map λr=>(.agg r.1,r.2)
  |some (.array n e)=>(fu P yD e n vs).map λr=>(.arr n (P.cellsOf e) r.1,r.2)
  |some _=>match vs with
   |v::r=>(uO P t v).map λx=>(x,r)
   |[]=>ae
  |none=>ae
def cM(P:yg):Nat->yL yc->yL yh->yO (yL Pl×yL yh)
 |0,_,_=>ae
 |_+1,[],vs=>ab ([],vs)
 |yD+1,t::ts,vs=>
  match oJ P yD t vs with
  |some (x,r)=>(cM P yD ts r).map λq=>(x::q.1,q.2)
  |none=>ae
def fu(P:yg):Nat->yc->Nat->yL yh->yO (yL Pl×yL yh)
 |0,_,_,_=>ae
 |_+1,_,0,vs=>ab ([],vs)
 |yD+1,e,n+1,vs=>
  match oJ P yD e vs with
  |some (x,r)=>if x.size=P.cellsOf e then(fu P yD e n r).map λq=>(x::q.1,q.2) else ae
  |none=>ae
end
def oK(P:yg)(t:yc):yh->Dv
 |.agg cs=>match oJ P 1000 t cs.toList with
  |some (x,[])=>if x.isAgg then .p x else .aA
  |_=>.aA
 |.func (.func f) fst cap=>if fst.size=0/\cap.size=0/\f < big then .fn f [] else .aA
 |v=>match uO P t v with
  |some x=>.p x
  |none=>.aA
def ZB(P:yg)(ts:yL Dv)(t:yc):ym->Dv
 |.tmp i=>ts.getD i .aA
 |.const v=>oK P t v
 |.global _=>.aA
 |.func f=>if f < big then .fn f [] else .aA
mutual
def Dv.bF:Dv->Bool
 |.bi _=>ag
 |.aA=>ag
 |.agg xs=>Dv.dH xs
 |.arr _ _ xs=>Dv.dH xs
 |_=>af
def Dv.dH:yL Dv->Bool
 |[]=>af
 |x::r=>x.bF&&Dv.dH r
end
mutual
def Dv.rn(f:Nat->yO Nat):Dv->yO Dv
 |.p x=>ab (.p x)
 |.elem x=>ab (.elem x)
 |.am id off yM=>(f id).map λi=>.am i off yM
 |.own id nn s xs=>(f id).map λi=>.own i nn s xs
 |.view id off yM s lo n=>(f id).map λi=>.view i off yM s lo n
 |.agg xs=>(Dv.bt f xs).map .agg
 |.arr n s xs=>(Dv.bt f xs).map (.arr n s)
 |.fn g cap=>(Dv.bt f cap).map (.fn g)
 |.iface t x=>(Dv.rn f x).map (.iface t)
 |.bi xs=>(Dv.bt f xs).map .bi
 |.mp id=>(f id).map .mp
 |.rv id v s lo n=>(f id).map λi=>.rv i v s lo n
 |.aZ id v off yM=>(f id).map λi=>.aZ i v off yM
 |.aA=>ab .aA
def Dv.bt(f:Nat->yO Nat):yL Dv->yO (yL Dv)
 |[]=>ab []
 |x::r=>match Dv.rn f x,Dv.bt f r with
  |some y,ab ys=>ab (y::ys)
  |_,_=>ae
end
def ay.rn(f:Nat->yO Nat):ay->yO ay
 |.var d st=>(d.rn f).map λd'=>.var d' st
 |.log s e xs=>ab (.log s e xs)
 |.map t bu=>ab (.map t bu)
 |.row v s st e d=>(d.rn f).map λd'=>.row v s st e d'
 |.gone=>ab .gone
def ay.bt(f:Nat->yO Nat):yL ay->yO (yL ay)
 |[]=>ab []
 |x::r=>match ay.rn f x,ay.bt f r with
  |some y,ab ys=>ab (y::ys)
  |_,_=>ae
def Dv.plain:Dv->yO Pl
 |.p x=>ab x
 |.own _ nn s xs=>ab (.sl nn s xs)
 |_=>ae
mutual
def Dv.flat:Dv->yO Pl
 |.p x=>ab x
 |.own _ nn s xs=>ab (.sl nn s xs)
 |.agg ds=>(Dv.aP ds).map .agg
 |_=>ae
def Dv.aP:yL Dv->yO (yL Pl)
 |[]=>ab []
 |d::r=>match d.flat,Dv.aP r with
  |some x,ab xs=>ab (x::xs)
  |_,_=>ae
end
mutual
def Dv.owns(ids:yL Nat):Dv->Bool
 |.own id _ _ _=>ids.contains id
 |.agg ds=>Dv.de ids ds
 |_=>ag
def Dv.de(ids:yL Nat):yL Dv->Bool
 |[]=>ag
 |d::r=>d.owns ids || Dv.de ids r
end
def Dv.eP(ds:yL Dv):Dv:=
 match Dv.aP ds with
 |some xs=>.p (.agg xs)
 |none=>.agg ds
def jl:yL Dv->yO (yL Pl)
 |[]=>ab []
 |d::r=>match d.plain,jl r with
  |some x,ab xs=>ab (x::xs)
  |_,_=>ae
def qR(ds:yL Dv):Dv:=
 match jl ds with
 |some xs=>.p (.agg xs)
 |none=>.agg ds
abbrev mU:=yO (yL Prop×Dv×yL ar)
abbrev uP:=yO (yL Prop×Dv×yL ay×yL ar)
def fT(k:IntKind)(x:Int):yL ar->mU
 |.bare::hs=>ab ([QW k x],.p (.int k x),hs)
 |.raw::hs=>ab ([],.p (.int k (k.wrap x)),hs)
 |_=>ae
def uQ(op:BinOp)(a b:Nat):yO Nat:=
 match op with
 |.and=>ab (a&&&b)
 |.or=>ab (a|||b)
 |.xor=>ab (a^^^b)
 |_=>ae
def Xz(op:BinOp)(k:IntKind)(x y:Int)(hs:yL ar):mU:=
 match op with
 |.add=>fT k (x+y) hs
 |.sub=>fT k (x - y) hs
 |.mul=>fT k (x*y) hs
 |.quo=>match hs with
  |.bare::hs'=>ab ([0<=x,0 < y,QW k (x / y)],.p (.int k (x / y)),hs')
  |.raw::hs'=>ab ([y≠0],.p (.int k (k.wrap (x.tdiv y))),hs')
  |_=>ae
 |.rem=>match hs with
  |.bare::hs'=>ab ([0<=x,0 < y],.p (.int k (x % y)),hs')
  |.raw::hs'=>ab ([y≠0],.p (.int k (x.tmod y)),hs')
  |_=>ae
 |.and|.or|.xor=>match hs with
  |.bare::hs'=>(uQ op x.toNat y.toNat).map λ(r:Nat)=>([0<=x,QW k x,0<=y,QW k y,QW k (r:Int)],.p (.int k (r:Int)),hs')
  |.raw::hs'=>ab ([],.p (.int k (bits op k x y)),hs')
  |_=>ae
 |.andNot=>match hs with
  |.raw::hs'=>ab ([],.p (.int k (bits op k x y)),hs')
  |_=>ae
 |.eql=>ab ([],.p (.bool (x==y)),hs)
 |.neq=>ab ([],.p (.bool (x !=y)),hs)
 |.lss=>ab ([],.p (.bool (ah (x < y))),hs)
 |.leq=>ab ([],.p (.bool (ah (x<=y))),hs)
 |.gtr=>ab ([],.p (.bool (ah (x > y))),hs)
 |.geq=>ab ([],.p (.bool (ah (x >= y))),hs)
 |_=>ae
def VQ(op:BinOp)(k:IntKind)(x y:Int)(hs:yL ar):mU:=
 match op,hs with
 |.shl,.bare::hs'=>ab ([0<=y,y.toNat < k.bits,QW k (x*2 ^ y.toNat)],.p (.int k (x*2 ^ y.toNat)),hs')
 |.shl,.raw::hs'=>ab ([0<=y],.p (.int k (k.wrap (x*2 ^ (min y.toNat k.bits)))),hs')
 |.shr,.bare::hs'=>ab ([0<=y,y.toNat<=k.bits],.p (.int k (x / 2 ^ y.toNat)),hs')
 |.shr,.raw::hs'=>ab ([0<=y],.p (.int k (x.fdiv (2 ^ (min y.toNat k.bits)))),hs')
 |_,_=>ae
mutual
def Pl.flat:Pl->Bool
 |.int _ _=>af
 |.bool _=>af
 |.agg xs=>Pl.aP xs
 |.arr _ _ xs=>Pl.aP xs
 |_=>ag
def Pl.aP:yL Pl->Bool
 |[]=>af
 |x::r=>x.flat&&Pl.aP r
end
def io(P:yg)(R:yc->Pl->Prop):yL Field->Nat->yL Pl->Prop
 |[],_,[]=>True
 |f::fs,o,y::ys=>f.name≠ "_" /\f.offset=o/\P.cellsOf f.type=y.size/\(P.info? f.type).isSome=af/\(P.underlying f.type).isSome=af/\WS P f.type=y.isAgg/\y.size≠0/\R f.type y/\io P R fs (o+y.size) ys
 |_,_,_=>False
def bh(P:yg):Nat->yc->Pl->Prop
 |0,_,_=>False
 |n+1,t,x=>match P.underlying t,x with
  |some .bool,.bool _=>True
  |some (.int k),.int k' _=>k'=k
  |some (.array m e),.arr m' s xs=>m'=m/\P.cellsOf e=s/\s≠0/\(P.info? e).isSome=af/\(P.underlying e).isSome=af/\∀y,y∈xs->bh P n e y/\y.size=s/\WS P e=y.isAgg
  |some (.struct fs),.agg xs=>P.stoodInHeld t=ag/\io P (bh P n) fs.toList 0 xs
  |_,_=>False
def QO:yL (Pl×Pl)->Pl->yO Pl->Prop
 |[],_,r=>r=ae
 |q::l,k,r=>(k=q.1/\r=ab q.2)\/(k≠q.1/\QO l k r)
def fU:yL (Pl×Pl)->Pl->Pl->yL (Pl×Pl)->Prop
 |[],k,v,l=>l=[(k,v)]
 |q::r,k,v,l=>(k=q.1/\l=(k,v)::r)\/(k≠q.1/\∃l',l=q::l'/\fU r k v l')
def fV:yL (Pl×Pl)->Pl->yL (Pl×Pl)->Prop
 |[],_,l=>l=[]
 |q::r,k,l=>(k=q.1/\l=r)\/(k≠q.1/\∃l',l=q::l'/\fV r k l')
def fW(P:yg)(kt:yc)(bu:yL (Pl×Pl)):Prop:=∀q,q∈bu->bh P 20 kt q.1
def DJ(P:yg)(t:yc):Bool:=match P.info? t with|some i=>i.zero.isSome|none=>ag
def jT(P:yg)(kt:yc):Bool:=
 match P.underlying kt with
 |some (.int _)=>af
 |some .bool=>af
 |some (.array _ _)=>af
 |some (.struct _)=>af
 |_=>ag
def iL(P:yg)(t:yc)(x y:Dv)(hs:yL ar):yO (yL Prop×Bool×yL ar):=
 match P.underlying t,x,y with
 |some .bool,.p (.bool a),.p (.bool b)=>ab ([],a==b,hs)
 |some (.pointer _),.am _ _ _,.p .bE=>ab ([],ag,hs)
 |some (.pointer _),.elem _,.p .bE=>ab ([],ag,hs)
 |some (.pointer _),.aZ _ _ _ _,.p .bE=>ab ([],ag,hs)
 |some (.pointer _),.p .bE,.p .bE=>ab ([],af,hs)
 |some (.slice _),.p (.sl (ab b) _ _),.p (.sl (ab ag) _ [])=>ab ([], !b,hs)
 |some (.slice _),.own _ (ab b) _ _,.p (.sl (ab ag) _ [])=>ab ([], !b,hs)
 |some (.slice _),.view _ _ _ _ _ _,.p (.sl (ab ag) _ [])=>ab ([],ag,hs)
 |some (.slice _),.p (.sl ae _ xs),.p (.sl (ab ag) _ [])=>match hs with
  |.bare::hs'=>ab ([xs≠[]],ag,hs')
  |_=>ae
 |some (.slice _),.own _ ae _ xs,.p (.sl (ab ag) _ [])=>match hs with
  |.bare::hs'=>ab ([xs≠[]],ag,hs')
  |_=>ae
 |some (.func _ _ _),.fn _ _,.p .fn0=>ab ([],ag,hs)
 |some (.func _ _ _),.p .fn0,.p .fn0=>ab ([],af,hs)
 |some (.array _ _),.p (.arr n s xs),.p (.arr m r ys)=>match hs with
  |.b β::hs'=>if P.eqGuardType P.depth t=ag then ab ([bh P 20 t (.arr n s xs),bh P 20 t (.arr m r ys),(β=af↔Pl.arr n s xs=Pl.arr m r ys)],β,hs') else ae
  |_=>ae
 |some (.struct _),.p (.agg xs),.p (.agg ys)=>match hs with
  |.b β::hs'=>if P.eqGuardType P.depth t=ag then ab ([bh P 20 t (.agg xs),bh P 20 t (.agg ys),(β=af↔Pl.agg xs=Pl.agg ys)],β,hs') else ae
  |_=>ae
 |_,_,_=>ae
def DK:BinOp->Bool
 |.shl=>af
 |.shr=>af
 |_=>ag
def gu(P:yg)(op:BinOp)(t:yc)(x y:Dv)(hs:yL ar):mU:=
 match x,y with
 |.p (.int k a),.p (.int k' b)=>if DK op then VQ op k a b hs else if k=k' then Xz op k a b hs else ae
 |.p (.str a),.p (.str b)=>match op with
  |.eql=>ab ([],.p (.bool (a.data.toList==b.data.toList)),hs)
  |.neq=>ab ([],.p (.bool (!(a.data.toList==b.data.toList))),hs)
  |_=>ae
 |x,y=>match op with
  |.eql=>(iL P t x y hs).map λr=>(r.1,.p (.bool r.2.1),r.2.2)
  |.neq=>(iL P t x y hs).map λr=>(r.1,.p (.bool (!r.2.1)),r.2.2)
  |_=>ae
def lL(P:yg)(fs:Array Field)(i:Nat)(before:Nat)(size:Nat)(isAgg:Bool):Bool:=
 match fs[i]? with
 |some f=>f.offset==before&&P.cellsOf f.type==size&&(P.info? f.type).isSome&&WS P f.type==isAgg&&(P.underlying f.type).isSome&&size !=0
 |none=>ag
def iM(P:yg)(t:yc)(x:Dv)(i:Nat):yO Dv:=
 match P.underlying t,x with
 |some (.struct fs),.p (.agg xs)=>match xs[i]? with
  |some y=>if lL P fs i (Pl.sizes (xs.take i)) y.size y.isAgg then ab (.p y) else ae
  |none=>ae
 |some (.struct fs),.agg xs=>match xs[i]? with
  |some y=>if lL P fs i (Dv.sizes (xs.take i)) y.size y.isAgg then ab y else ae
  |none=>ae
 |_,_=>ae
def fX(P:yg)(ts:yL Dv):yO ym->yO (yO Int)
 |none=>ab ae
 |some x=>match ZB P ts 0 x with
  |.p (.int _ i)=>ab (ab i)
  |_=>ae
def QX{α:Type}(xs:yL α):yO Int->yO Int->yL α
 |none,ae=>xs
 |none,ab h=>xs.take h.toNat
 |some l,ae=>xs.drop l.toNat
 |some l,ab h=>(xs.take h.toNat).drop l.toNat
def XD(len:Nat):yO Int->yO Int->yL Prop
 |none,ae=>[]
 |none,ab h=>[0<=h,h<=(len:Int)]
 |some l,ae=>[0<=l,l<=(len:Int)]
 |some l,ab h=>[0<=l,l<=h,h<=(len:Int)]
def uR(ds:yL Dv)(i:Nat)(d:Dv):yO (yL Dv):=
 match ds[i]? with
 |some old=>if old.size=d.size then ab (ds.set i d) else ae
 |none=>ae
def iN:yL Dv->yL (Nat×Dv)->yO (yL Dv)
 |ds,[]=>ab ds
 |ds,(i,d)::r=>(uR ds i d).bind λds'=>iN ds' r
def mV(l:yL (Nat×Dv)):Bool:=l.all λq=>q.2.bF
def iq(P:yg)(ts:yL Dv)(f:Nat->yc)(parts:yL (Nat×ym)):yL (Nat×Dv):=
 parts.map λq=>(q.1,ZB P ts (f q.1) q.2)
def lM(P:yg)(t:yc)(i:Nat):yc:=
 match P.underlying t with
 |some (.struct fs)=>((fs[i]?).map (·.type)).getD 0
 |some (.array _ e)=>e
 |some (.slice e)=>e
 |_=>0
def WH(P:yg)(t:yc):Dv:=
 match P.info? t with
 |some i=>match i.zero with
  |some v=>oK P t v
  |none=>.aA
 |none=>.aA
def Dv.arg:Dv->Dv
 |.own _ nn s xs=>.p (.sl nn s xs)
 |.agg ds=>Dv.eP ds
 |d=>d
def Dv.bL(ids:yL Nat):Dv->Dv
 |.own id nn s xs=>if ids.contains id then .own id nn s xs else .p (.sl nn s xs)
 |.agg ds=>if Dv.de ids ds then .agg ds else Dv.eP ds
 |d=>d
def Z5(P:yg)(ids:yL Nat)(ts:yL Dv)(c:Call)(g:yq)(cap:yL Dv):yL Dv:=
 if g < big then((c.args.toList.zip c.argTypes.toList).map λq=>(ZB P ts q.2 q.1).bL ids)++cap.map (Dv.bL ids)
 else cap.map (Dv.bL ids)++((c.args.toList.zip c.argTypes.toList).map λq=>(ZB P ts q.2 q.1).bL ids)
def mW(P:yg)(g:yq):Bool:=
 ah (g < big)&&match P.funcs[g]? with
 |some fn=>fn.name== "internal/bytealg.Compare" &&fn.body.isNone&&(Extern.findNext fn).isNone
 |none=>ag
def gC(b:ByteArray):yL Pl:=b.data.toList.map λx=>.int .u8 (x.toNat:Int)
def iO(P:yg)(s:Nat)(t:yc)(d:Dv):yO (yL Pl):=
 match P.underlying t,d with
 |some (.slice e),.p (.sl _ s' xs)=>if s'=s\/xs.isEmpty then ab xs else ae
 |some (.slice e),.own _ _ s' xs=>if s'=s then ab xs else ae
 |some .string,.p (.str z)=>if s=1 then ab (z.data.toList.map λb=>.int .u8 (b.toNat:Int)) else ae
 |_,_=>ae
def VR(P:yg)(ts:yL Dv)(e:yc)(s:Nat)(len:Nat)(parts:yL (Nat×ym)):yO (yL Pl):=
 if parts.map (·.1)==yu len then
  match Dv.aP (parts.map λq=>ZB P ts e q.2) with
  |some xs=>if xs.all (λx=>x.size==s) then ab xs else ae
  |none=>ae
 else ae
def Zv:Nat:=140737488355328
def ca(i:TypeInfo):Bool:=
 match i.zero with
 |some z=>z.cells.size==i.size
 |none=>ag
def gv(P:yg)(g:yq):Bool:=
 match P.funcs[g]? with
 |some fn=>fn.body.isSome&& !(fn.name== "runtime.NumGoroutine")
 |none=>ag
def be(P:yg)(o:Oper)(ts:yL Dv)(hs:yL ar):mU:=
 match o.op with
 |.move x=>match hs with
  |.raw::hs'=>ab ([],ZB P ts o.type x,hs')
  |_=>ae
 |.assign x=>match hs with
  |.raw::hs'=>ab ([],ZB P ts o.type x,hs')
  |_=>ae
 |.pick c a b=>match ZB P ts 0 c,hs with
  |.p (.bool t),.b β::hs'=>ab ([t=β],if β then ZB P ts o.type a else ZB P ts o.type b,hs')
  |_,_=>ae
 |.nilCheck x=>match ZB P ts 0 x with
  |.am i f p=>ab ([],.am i f p,hs)
  |.aZ i v f p=>ab ([],.aZ i v f p,hs)
  |.elem y=>ab ([],.elem y,hs)
  |.fn f c=>ab ([],.fn f c,hs)
  |_=>ae
 |.binOp op t x y yt=>gu P op t (ZB P ts t x) (ZB P ts yt y) hs
 |.unOp .not _ x=>match ZB P ts 0 x with
  |.p (.bool t)=>ab ([],.p (.bool (!t)),hs)
  |_=>ae
 |.unOp .neg _ x=>match ZB P ts 0 x with
  |.p (.int k n)=>fT k (0 - n) hs
  |_=>ae
 |.unOp .xor _ x=>match ZB P ts 0 x with
  |.p (.int k n)=>if k.signed then ae else ab ([],.p (.int k (bits .xor k k.max n)),hs)
  |_=>ae
 |.convert src dst x=>match P.underlying src,P.underlying dst,ZB P ts src x with
  |some _,ab (.int k),.p (.int _ n)=>fT k n hs
  |some (.slice e),ab .string,.p (.sl _ s xs)=>match hs,P.underlying e with
   |.el (.str b)::hs',ab (.int .u8)=>if s=1 then ab ([xs=b.data.toList.map λx=>.int .u8 (x.toNat:Int)],.p (.str b),hs') else ae
   |_,_=>ae
  |some (.slice e),ab .string,.own _ _ s xs=>match hs,P.underlying e with
   |.el (.str b)::hs',ab (.int .u8)=>if s=1 then ab ([xs=b.data.toList.map λx=>.int .u8 (x.toNat:Int)],.p (.str b),hs') else ae
   |_,_=>ae
  |some .string,ab (.slice e),.p (.str b)=>match P.underlying e with
   |some (.int .u8)=>ab ([b.size<=maxLen],.p (.sl (ab af) 1 (b.data.toList.map λx=>.int .u8 (x.toNat:Int))),hs)
   |_=>ae
  |_,_,_=>ae
 |.sliceToArrayPointer t x=>match P.underlying t,ZB P ts 0 x with
  |some (.array n e),.p (.sl _ s xs)=>if n !=0 then ab ([n<=xs.length],.elem (.arr n s (xs.take n)),hs) else ae
  |some (.array n e),.own _ _ s xs=>if n !=0 then ab ([n<=xs.length],.elem (.arr n s (xs.take n)),hs) else ae
  |_,_=>ae
 |.makeFunc (.func f) first captured=>if first.isEmpty&&ah (f < big) then ab ([],.fn f (captured.toList.map (ZB P ts 0)),hs) else if captured.isEmpty then ab ([],.fn (f+big) (first.toList.map (ZB P ts 0)),hs) else ae
 |.makeInterface t x=>match P.underlying t with
  |some (.interface _)=>ae
  |some _=>ab ([],.iface t (ZB P ts t x),hs)
  |none=>ae
 |.field t x i=>(iM P t (ZB P ts t x) i).map λd=>([],d,hs)
 |.fieldAddr t x i=>match P.underlying t,ZB P ts 0 x with
  |some (.struct fs),.am id off yM=>match fs[i]? with
   |some f=>if P.cellsOf f.type !=0&&(P.info? f.type).isSome then ab ([],.am id (off+f.offset) (yM++[i]),hs) else ae
   |none=>ae
  |some (.struct fs),.aZ id v off yM=>match fs[i]? with
   |some f=>if P.cellsOf f.type !=0&&(P.info? f.type).isSome then ab ([],.aZ id v (off+f.offset) (yM++[i]),hs) else ae
   |none=>ae
  |some (.struct _),.elem y=>match iM P t (.p y) i with
   |some (.p z)=>ab ([],.elem z,hs)
   |_=>ae
  |_,_=>ae
 |.indexAddr t x ix=>match P.underlying t,ZB P ts t x,ZB P ts 0 ix with
  |some (.slice e),.p (.sl _ s xs),.p (.int _ i)=>match hs with
   |.el y::hs'=>if P.cellsOf e=s&&(P.info? e).isSome then ab ([0<=i,xs[i.toNat]? =ab y],.elem y,hs') else ae
   |_=>ae
  |some (.slice e),.own _ _ s xs,.p (.int _ i)=>match hs with
   |.el y::hs'=>if P.cellsOf e=s&&(P.info? e).isSome then ab ([0<=i,xs[i.toNat]? =ab y],.elem y,hs') else ae
   |_=>ae
  |some (.slice e),.view id off yM s lo n,.p (.int _ i)=>
   if P.cellsOf e=s&&(P.info? e).isSome then ab ([0<=i,i < (n:Int)],.am id (off+(lo+i.toNat)*s) (yM++[lo+i.toNat]),hs) else ae
  |some (.slice e),.rv id v s lo n,.p (.int _ i)=>
   if P.cellsOf e=s&&(P.info? e).isSome then ab ([0<=i,i < (n:Int)],.aZ id v ((lo+i.toNat)*s) [lo+i.toNat],hs) else ae
  |some (.array n e),.aZ id v off yM,.p (.int _ i)=>
   if(P.info? e).isSome then ab ([0<=i,i < (n:Int)],.aZ id v (off+i.toNat*P.cellsOf e) (yM++[i.toNat]),hs) else ae
  |some (.array n e),.am id off yM,.p (.int _ i)=>
   if(P.info? e).isSome then ab ([0<=i,i < (n:Int)],.am id (off+i.toNat*P.cellsOf e) (yM++[i.toNat]),hs) else ae
  |some (.array n e),.elem (.arr n' s xs),.p (.int _ i)=>match hs with
   |.el y::hs'=>if n=n'&&P.cellsOf e=s&&(P.info? e).isSome then ab ([0<=i,xs[i.toNat]? =ab y],.elem y,hs') else ae
   |_=>ae
  |_,_,_=>ae
 |.index t x ix=>match P.underlying t,ZB P ts t x,ZB P ts 0 ix with
  |some (.array n e),.p (.arr n' s xs),.p (.int _ i)=>match hs with
   |.el y::hs'=>if n=n'&&P.cellsOf e=s&&WS P e==y.isAgg&&(P.underlying e).isSome&&(P.info? e).isSome&&s !=0 then ab ([0<=i,xs[i.toNat]? =ab y],.p y,hs') else ae
   |_=>ae
  |some .string,.p (.str s),.p (.int _ i)=>match hs with
   |.el (.int .u8 b)::hs'=>ab ([0<=i,(s.data.toList[i.toNat]?).map (λx:yB=>(x.toNat:Int))=ab b],.p (.int .u8 b),hs')
   |_=>ae
  |_,_,_=>ae
 |.slice t x lo hi ae=>match P.underlying t,ZB P ts t x,fX P ts lo,fX P ts hi with
  |some (.slice e),.p (.sl nn s xs),ab l,ab h=>
   if P.cellsOf e=s&&(P.info? e).isSome then ab (XD xs.length l h,.p (.sl nn s (QX xs l h)),hs) else ae
  |some (.slice e),.own _ nn s xs,ab l,ab h=>
   if P.cellsOf e=s&&(P.info? e).isSome then ab (XD xs.length l h,.p (.sl nn s (QX xs l h)),hs) else ae
  |some (.slice e),.view id off yM s lo n,ab l,ab h=>
   if P.cellsOf e=s&&(P.info? e).isSome then ab (XD n l h,.view id off yM s (lo+(l.getD 0).toNat) ((h.getD n).toNat - (l.getD 0).toNat),hs) else ae
  |some (.slice e),.rv id v s lo n,ab l,ab h=>match hs with
   |.bare::hs'=>if P.cellsOf e=s&&(P.info? e).isSome then ab (XD n l h,.rv id v s (lo+(l.getD 0).toNat) ((h.getD n).toNat - (l.getD 0).toNat),hs') else ae
   |_=>ae
  |some (.array n e),.elem (.arr n' s xs),ab l,ab h=>
   if n=n'&&P.cellsOf e=s&&(P.info? e).isSome&&n<=maxLen then ab (XD n l h,.p (.sl (ab af) s (QX xs l h)),hs) else ae
  |some (.array n e),.am id off yM,ab l,ab h=>match hs with
   |.raw::hs'=>if(P.info? e).isSome&&n<=maxLen then ab (XD n l h,.view id off yM (P.cellsOf e) (l.getD 0).toNat ((h.getD n).toNat - (l.getD 0).toNat),hs') else ae
   |_=>ae
  |_,_,_,_=>ae
 |.slice t x lo hi (ab mx)=>match P.underlying t,ZB P ts t x,fX P ts lo,fX P ts hi,fX P ts (ab mx) with
  |some (.slice e),.rv _ _ _ _ n,ab (ab l),ab (ab h),ab (ab m)=>if(P.info? e).isSome then ab ([0<=l,l<=h,h<=m,m<=(n:Int)],.aA,hs) else ae
  |_,_,_,_,_=>ae
 |.extract x i=>match ZB P ts 0 x with
  |.bi ds=>(ds[i]?).map λd=>([],d,hs)
  |_=>ae
 |.load t a=>match ZB P ts 0 a with
  |.elem y=>if P.cellsOf t=y.size&&WS P t==y.isAgg&&(P.underlying t).isSome&&(P.info? t).isSome then ab ([],.p y,hs) else ae
  |_=>ae
 |.build t parts=>match P.underlying t,WH P t with
  |some (.struct fs),.p (.agg zs)=>
   if mV (iq P ts (lM P t) parts.toList)&&fs.size==zs.length&&(yu zs.length).all λi=>lL P fs i (Pl.sizes (zs.take i)) ((zs.getD i default).size) ((zs.getD i default).isAgg) then
    (iN (zs.map .p) (iq P ts (lM P t) parts.toList)).map λds=>([],qR ds,hs)
   else ae
  |some (.array _ e),.p (.arr n s zs)=>
   if mV (iq P ts (lM P t) parts.toList)&&P.cellsOf e=s&&(P.info? e).isSome then
    (iN (zs.map .p) (iq P ts (lM P t) parts.toList)).bind λds=>match jl ds with
      |some xs=>ab ([],.p (.arr n s xs),hs)
      |none=>ab ([],.arr n s ds,hs)
   else ae
  |_,_=>ae
 |.call c=>match c.callee with
  |.builtin .len=>match c.args.toList,c.argTypes.toList with
   |[x],[t]=>match P.underlying t,ZB P ts t x with
    |some (.slice _),.p (.sl _ _ xs)=>ab ([],.p (.int .i64 (xs.length:Int)),hs)
    |some (.slice _),.own _ _ _ xs=>ab ([],.p (.int .i64 (xs.length:Int)),hs)
    |some (.slice _),.view _ _ _ _ _ n=>ab ([],.p (.int .i64 (n:Int)),hs)
    |some (.slice _),.rv _ _ _ _ n=>ab ([],.p (.int .i64 (n:Int)),hs)
    |some (.array n _),_=>ab ([],.p (.int .i64 (n:Int)),hs)
    |some .string,.p (.str s)=>ab ([],.p (.int .i64 (s.size:Int)),hs)
    |_,_=>ae
   |_,_=>ae
  |.builtin .append=>match c.args.toList,c.argTypes.toList,hs with
   |[x,y],[t,u],.jj::hs'=>match P.underlying t,ZB P ts t x with
    |some (.slice e),.p (.sl (ab ag) _ [])=>match P.info? e,iO P (P.cellsOf e) u (ZB P ts u y) with
     |some i,ab ys=>if ca i&&i.size !=0 then ab ([ys.length*i.bytes<=Zv,ys.length<=maxLen],.p (.sl ae (P.cellsOf e) ys),hs') else ae
     |_,_=>ae
    |_,_=>ae
   |_,_,_=>ae
  |.value f=>match ZB P ts 0 f,hs with
   |.fn g cap,.call r [] []::hs'=>
    if gv P (dY g)&&c.args.size==c.argTypes.size then match Dv.bt (λ_=>ae) (Z5 P [] ts c g cap),r.rn (λ_=>ae) with
     |some args',ab _=>ab ([cH P (dY g) args' [] r []],r,hs')
     |_,_=>ae
    else ae
   |.fn g [],.el (.str x)::.el (.str y)::hs'=>
    if mW P g&&c.args.size==c.argTypes.size then match Z5 P [] ts c g [] with
     |[.p (.sl _ s xs),.p (.sl _ s' ys)]=>if s=1/\s'=1 then ab ([xs=gC x,ys=gC y],.p (.int .i64 (Go.Lib.compareBytes x.data.toList y.data.toList)),hs') else ae
     |_=>ae
    else ae
   |_,_=>ae
  |_=>ae
 |.buildSlice t len parts=>match hs with
  |.jj::hs'=>match P.underlying t with
   |some (.slice e)=>match P.info? e,VR P ts e (P.cellsOf e) len parts.toList with
    |some i,ab xs=>if ca i&&i.size !=0&&len*i.size<=16777216 then ab ([],.p (.sl (ab af) i.size (xs.map Pl.soft)),hs') else ae
    |_,_=>ae
   |_=>ae
  |.bare::hs'=>match P.underlying t with
   |some (.slice e)=>match P.info? e,VR P ts e (P.cellsOf e) len parts.toList with
    |some i,ab xs=>if ca i&&i.size !=0&&len*i.size<=16777216 then ab ([],.p (.sl (ab af) i.size xs),hs') else ae
    |_,_=>ae
   |_=>ae
  |_=>ae
 |_=>ae
def Yy:Dv->yL Nat->yL ar->yO (yL Prop×Nat×Dv×yL ar)
 |d,[],hs=>ab ([],0,d,hs)
 |.p (.agg xs),i::r,hs=>match xs[i]? with
  |some x=>(Yy (.p x) r hs).map λq=>(q.1,Pl.sizes (xs.take i)+q.2.1,q.2.2)
  |none=>ae
 |.p (.arr _ s xs),i::r,hs=>match hs with
  |.el y::hs'=>(Yy (.p y) r hs').map λq=>((xs[i]? =ab y)::q.1,i*s+q.2.1,q.2.2)
  |_=>ae
 |.agg xs,i::r,hs=>match xs[i]? with
  |some x=>(Yy x r hs).map λq=>(q.1,Dv.sizes (xs.take i)+q.2.1,q.2.2)
  |none=>ae
 |.arr _ s xs,i::r,hs=>match xs[i]? with
  |some x=>(Yy x r hs).map λq=>(q.1,i*s+q.2.1,q.2.2)
  |none=>ae
 |_,_,_=>ae
def VS(new:Dv):Dv->yL Nat->yL ar->yO Dv
 |_,[],_=>ab new
 |.p (.agg xs),i::r,hs=>match xs[i]? with
  |some x=>match VS new (.p x) r hs with
   |some (.p y)=>ab (.p (.agg (xs.set i y)))
   |some y=>ab (.agg ((xs.map .p).set i y))
   |none=>ae
  |none=>ae
 |.p (.arr n s xs),i::r,hs=>match hs with
  |.el y::hs'=>match VS new (.p y) r hs' with
   |some (.p z)=>ab (.p (.arr n s (xs.set i z.soft)))
   |some z=>ab (.arr n s ((xs.map .p).set i z))
   |none=>ae
  |_=>ae
 |.agg xs,i::r,hs=>match xs[i]? with
  |some x=>(VS new x r hs).map λy=>.agg (xs.set i y)
  |none=>ae
 |.arr n s xs,i::r,hs=>match xs[i]? with
  |some x=>(VS new x r hs).map λy=>.arr n s (xs.set i y)
  |none=>ae
 |_,_,_=>ae
def gR(P:yg)(t:yc)(d:Dv):Bool:=
 P.cellsOf t==d.size&&WS P t==d.isAgg&&(P.underlying t).isSome&&(P.info? t).isSome
def ir(σ:Sg):Sg:={ F:=λb _=>b < σ.w.heap.size,B:=λb=>σ.w.heap.size<=b,m:=[],H:=[],w:=σ.w}
def cz:yO ay->yO ay
 |some (.var d _)=>ab (.var d af)
 |some (.row v s _ e d)=>ab (.row v s af e d)
 |x=>x
mutual
def Dv.DL:Dv->yO Nat
 |.rv id _ _ _ _=>ab id
 |.view id _ _ _ _ _=>ab id
 |.agg xs=>Dv.fv xs
 |_=>ae
def Dv.fv:yL Dv->yO Nat
 |[]=>ae
 |x::r=>match x.DL with
  |some i=>ab i
  |none=>Dv.fv r
end
def kI(id:Nat)(E:yO ay)(ds:yL Dv)(ps:yL Pl):Prop:=∀(σ:Sg)(vs:yL yh),Ok σ->cz (σ.H[id]?)=E->aC σ ds vs->aC (ir σ) (ps.map Dv.p) vs
def bB(P:yg)(o:Oper)(ts:yL Dv)(H:yL ay)(hs:yL ar):mU:=
 match o.op with
 |.load t a=>match ZB P ts 0 a with
  |.am id off yM=>match H[id]? with
   |some (.var d _)=>match Yy d yM hs with
    |some (C,off',sub,hs')=>if gR P t sub then ab (C++[off'=off],sub,hs') else ae
    |none=>ae
   |_=>ae
  |.aZ id v off yM=>match H[id]? with
   |some (.row v' _ _ _ d)=>match Yy d yM hs with
    |some (C,off',sub,hs')=>if gR P t sub&&v'==v then ab (C++[off'=off],sub,hs') else ae
    |none=>ae
   |_=>ae
  |_=>ae
 |.slice t x lo hi ae=>match P.underlying t,ZB P ts t x,fX P ts lo,fX P ts hi,hs with
  |some (.slice e),.rv id v s lo' n,ab l,ab (ab h),.raw::hs'=>match H[id]? with
   |some (.row v' s' _ _ d)=>match aY d s' with
    |some N=>if P.cellsOf e=s&&(P.info? e).isSome&&v'==v&&s'==s&&s' !=0 then ab ([0<=l.getD 0,l.getD 0<=h,lo'+h.toNat<=N],.rv id v s (lo'+(l.getD 0).toNat) (h.toNat - (l.getD 0).toNat),hs') else ae
    |none=>ae
   |_=>ae
  |some (.array n e),.am id off yM,ab l,ab h,.cK::hs'=>match H[id]? with
   |some (.var d ag)=>match Yy d yM hs' with
    |some (C,off',.p (.arr n' s xs),hs'')=>
     if n=n'&&P.cellsOf e=s&&(P.info? e).isSome&&n<=maxLen then ab (C++[off'=off]++XD n l h,.p (.sl (ab af) s (QX xs l h)),hs'') else ae
    |_=>ae
   |_=>ae
  |_,_,_,_,_=>ae
 |.lookup t x ix ok=>match P.underlying t,ZB P ts t x with
  |some (.map kt et),.mp id=>match ZB P ts kt ix,H[id]?,hs with
   |.p k,ab (.map _ bu),.el v::hs'=>if jT P kt then ab ([bh P 20 kt k,fW P kt bu,QO bu k (ab v)],if ok then .bi [.p v,.p (.bool af)] else .p v,hs') else ae
   |.p k,ab (.map _ bu),.raw::hs'=>if jT P kt&&DJ P et then
     ab ([bh P 20 kt k,fW P kt bu,QO bu k ae],if ok then .bi [WH P et,.p (.bool ag)] else WH P et,hs') else ae
   |_,_,_=>ae
  |_,_=>ae
 |.call c=>match c.callee with
  |.builtin .len=>match c.args.toList,c.argTypes.toList with
   |[x],[t]=>match P.underlying t,ZB P ts t x with
    |some (.map _ _),.mp id=>match H[id]? with
     |some (.map _ bu)=>ab ([],.p (.int .i64 (bu.length:Int)),hs)
     |_=>ae
    |_,_=>ae
   |_,_=>ae
  |.value f=>match ZB P ts 0 f,hs with
   |.fn g cap,.el (.agg ps)::.call (.p r) [] []::hs'=>match Dv.fv (Z5 P [] ts c g cap) with
    |some id=>if gv P (dY g)&&c.args.size==c.argTypes.size&&r.flat then ab ([kI id (cz (H[id]?)) (Z5 P [] ts c g cap) ps,cH P (dY g) (ps.map Dv.p) [] (.p r) []],.p r,hs') else ae
    |none=>ae
   |_,_=>ae
  |_=>ae
 |_=>ae
def aV(ids:yL Nat)(id:Nat):yO Nat:=ids.idxOf? id
def aO(ids:yL Nat)(n:Nat)(j:Nat):yO Nat:=if j < ids.length then ids[j]? else ab (n+(j - ids.length))
def aJ(H:yL ay)(all:yL Nat):yL Nat->yO (yL ay)
 |[]=>ab []
 |id::r=>match (H[id]?).bind (ay.rn (aV all)),aJ H all r with
  |some e,ab es=>ab (e::es)
  |_,_=>ae
def au{α:Type}:yL α->yL Nat->yL α->yL α
 |H,[],Hb=>H++Hb
 |H,id::r,e::Hb=>au (H.set id e) r Hb
 |H,_::_,[]=>H
def once:yL Nat->Bool
 |[]=>af
 |x::r=> !r.contains x&&once r
def Dv.cw(d:Dv):Dv:=
 match d.flat with
 |some x=>.p x
 |none=>d
def jm(yM:yL Nat)(d:Dv)(new:Dv):yO Dv:=
 match d with
 |.p _=>ab new.cw
 |_=>match yM with
  |[]=>ab new.cw
  |_=>ab new
def oL(xs ys:yL Pl)(lo:Nat):yL Pl:=xs.take lo++(ys++xs.drop (lo+ys.length))
def jn(P:yg)(s:Nat)(t:yc)(H:yL ay)(hs:yL ar)(d:Dv):yO (yL Prop×yL Pl×yL ar):=
 match d with
 |.view id off yM s' lo n=>match P.underlying t,H[id]? with
  |some (.slice _),ab (.var dd _)=>match Yy dd yM hs with
   |some (C,off',.p (.arr N s'' zs),hs')=>if s'=s&&s''=s then ab (C++[off'=off,lo+n<=N],(zs.drop lo).take n,hs') else ae
   |_=>ae
  |_,_=>ae
 |.rv id v s' lo n=>match P.underlying t,H[id]? with
  |some (.slice _),ab (.row v' s'' _ _ (.p (.arr N s3 zs)))=>if s'=s&&s''=s&&s3=s&&v'==v then ab ([lo+n<=N],(zs.drop lo).take n,hs) else ae
  |_,_=>ae
 |d=>(iO P s t d).map λys=>([],ys,hs)
def jo(d:Dv)(H:yL ay)(hs:yL ar):uP:=
 match d with
 |.view id off yM s lo n=>match H[id]? with
  |some (.var dd _)=>match Yy dd yM hs with
   |some (C,off',.p (.arr n' s' xs),hs')=>if s'=s then ab (C++[off'=off,lo+n<=n'],.p (.sl (ab af) s ((xs.drop lo).take n)),H.set id (.var dd ag),hs') else ae
   |_=>ae
  |_=>ae
 |.rv id v s lo n=>match H[id]? with
  |some (.row v' s' _ e (.p (.arr N s'' xs)))=>if s'=s&&s''=s&&v'==v then ab ([lo+n<=N],.p (.sl ae s ((xs.drop lo).take n)),H.set id (.row v s ag e (.p (.arr N s xs))),hs) else ae
  |_=>ae
 |_=>ae
def WF:Dv->yL Nat->Nat->Dv->yO Dv
 |.p (.sl (ab ag) s' []),[],s,new=>if s'=s then ab new else ae
 |.p (.agg xs),i::r,s,new=>match xs[i]? with
  |some x=>(WF (.p x) r s new).map λy=>.agg ((xs.map Dv.p).set i y)
  |none=>ae
 |.agg xs,i::r,s,new=>match xs[i]? with
  |some x=>(WF x r s new).map λy=>.agg (xs.set i y)
  |none=>ae
 |_,_,_,_=>ae
def YL(d:Dv)(n:Nat):yL ar->Dv×yL ay×yL ar
 |.bP yM s e::hs=>match WF d yM s (.own n ae s []) with
  |some d'=>((YL d' (n+1) hs).1,.log s e []::(YL d' (n+1) hs).2.1,(YL d' (n+1) hs).2.2)
  |none=>(d,[],.bP yM s e::hs)
 |hs=>(d,[],hs)
def mX(d:Dv):Dv:=
 match d.plain with
 |some y=>.p y
 |none=>d
def cx(P:yg)(o:Oper)(ts:yL Dv)(H:yL ay)(hs:yL ar):uP:=
 match o.op with
 |.assign x=>match hs with
  |.fresh t'::hs'=>if o.dst=ab t' then match P.underlying o.type,ZB P ts o.type x with
    |some (.slice e),.p (.sl (ab ag) _ [])=>match P.info? e with
     |some i=>if ca i&&i.size !=0 then ab ([],.own H.length ae i.size [],H++[.log i.size e []],hs') else ae
     |none=>ae
    |_,_=>ae
   else ae
  |.jk t'::hs'=>if o.dst=ab t' then match P.underlying o.type,ZB P ts o.type x with
    |some (.slice e),.p (.sl (ab ag) _ [])=>match P.info? e with
     |some i=>if ca i&&i.size !=0 then ab ([],.rv H.length 0 i.size 0 0,H++[.row 0 i.size af e (.p (.arr 0 i.size []))],hs') else ae
     |none=>ae
    |_,_=>ae
   else ae
  |.still t'::hs'=>if o.dst=ab t' then jo (ZB P ts o.type x) H hs' else ae
  |_=>ae
 |.move x=>match hs with
  |.still t'::hs'=>if o.dst=ab t' then jo (ZB P ts o.type x) H hs' else ae
  |_=>ae
 |.makeSlice t l c=>match P.underlying t,ZB P ts 0 l,ZB P ts 0 c with
  |some (.slice e),.p (.int .i64 n),.p (.int .i64 n')=>match P.info? e,hs with
   |some i,.own::hs'=>if ca i&&i.size !=0 then ab ([n=0,0<=n',n'.toNat*i.bytes<=Zv,n'.toNat<=maxLen],.own H.length (ab af) i.size [],H++[.log i.size e []],hs') else ae
   |some i,.arr::hs'=>if ca i&&i.size !=0 then ab ([n=0,0<=n',n'.toNat*i.bytes<=Zv,n'.toNat<=maxLen],.rv H.length 0 i.size 0 0,H++[.row 0 i.size af e (.p (.arr 0 i.size []))],hs') else ae
   |some i,.raw::hs'=>match WH P e with
    |.p z=>if ca i&&i.size=1&&z.size=1&& !z.isAgg then ab ([n'=n,0<=n,n.toNat*i.bytes<=Zv,n.toNat<=maxLen],.view H.length 0 [] 1 0 n.toNat,H++[.var (.p (.arr n.toNat 1 (yw n.toNat z))) af],hs') else ae
    |_=>ae
   |_,_=>ae
  |_,_,_=>ae
 |.makeMap t ae=>ab ([],.mp H.length,H++[.map t []],hs)
 |.mapUpdate t m k x=>match P.underlying t,ZB P ts t m with
  |some (.map kt et),.mp id=>match ZB P ts kt k,(ZB P ts et x).flat,H[id]?,hs with
   |.p k,ab v,ab (.map t' bu),.bu l::hs'=>if jT P kt then ab ([bh P 20 kt k,fW P kt bu,fU bu k v.soft l],.aA,H.set id (.map t' l),hs') else ae
   |_,_,_,_=>ae
  |_,_=>ae
 |.alloc t=>match P.info? t with
  |some i=>match (YL (WH P t) (H.length+1) hs).2.2 with
   |.raw::hs'=>if ca i&&gR P t (WH P t)&&(WH P t).bF then ab ([],.am H.length 0 [],H++.var (YL (WH P t) (H.length+1) hs).1 af::(YL (WH P t) (H.length+1) hs).2.1,hs') else ae
   |_=>ae
  |none=>ae
 |.box t x=>
  match (YL (mX (ZB P ts t x)) (H.length+1) hs).2.2 with
  |.raw::hs'=>if(mX (ZB P ts t x)).bF then ab ([],.am H.length 0 [],H++.var (YL (mX (ZB P ts t x)) (H.length+1) hs).1 af::(YL (mX (ZB P ts t x)) (H.length+1) hs).2.1,hs') else ae
  |_=>ae
 |.store t a x=>match ZB P ts 0 a,ZB P ts t x with
  |.am id off yM,v=>match H[id]? with
   |some (.var d af)=>match Yy d yM hs with
    |some (C,off',sub,hs')=>match jm yM d v with
     |some new=>match VS new d yM hs with
      |some d'=>if new.bF&&new.size==sub.size&&P.cellsOf t==new.size&&(P.info? t).isSome&&new.isAgg==sub.isAgg then(match (YL d' H.length hs').2.2 with
       |.raw::hs''=>ab (C++[off'=off],.aA,H.set id (.var (YL d' H.length hs').1 af)++(YL d' H.length hs').2.1,hs'')
       |_=>ae) else ae
      |none=>ae
     |none=>ae
    |none=>ae
   |_=>ae
  |.aZ id v off yM,w=>match H[id]? with
   |some (.row v' s af e d)=>match Yy d yM hs with
    |some (C,off',sub,hs')=>match jm yM d w with
     |some new=>match VS new d yM hs with
      |some d'=>if new.bF&&new.size==sub.size&&P.cellsOf t==new.size&&(P.info? t).isSome&&new.isAgg==sub.isAgg&&v'==v&&aY d' s==aY d s then
        ab (C++[off'=off],.aA,H.set id (.row v s af e d'),hs') else ae
      |none=>ae
     |none=>ae
    |none=>ae
   |_=>ae
  |_,_=>ae
 |.buildSlice t len parts=>match hs with
  |.fresh id::hs'=>match P.underlying t,H[id]? with
   |some (.slice e),ab (.row v s st e' dd)=>match P.info? e,VR P ts e (P.cellsOf e) len parts.toList with
    |some i,ab xs=>if ca i&&i.size !=0&&len*i.size<=16777216&&e'==e&&s==i.size then ab ([],.rv id (v+1) i.size 0 len,H.set id (.row (v+1) i.size af e (.p (.arr len i.size (xs.map Pl.soft)))),hs') else ae
    |_,_=>ae
   |_,_=>ae
  |.arr::hs'=>match P.underlying t with
   |some (.slice e)=>match P.info? e,VR P ts e (P.cellsOf e) len parts.toList with
    |some i,ab xs=>if ca i&&i.size !=0&&len*i.size<=16777216 then ab ([],.rv H.length 0 i.size 0 len,H++[.row 0 i.size af e (.p (.arr len i.size (xs.map Pl.soft)))],hs') else ae
    |_,_=>ae
   |_=>ae
  |.own::hs'=>match P.underlying t with
   |some (.slice e)=>match P.info? e,VR P ts e (P.cellsOf e) len parts.toList with
    |some i,ab xs=>if ca i&&i.size !=0&&len*i.size<=16777216 then ab ([],.own H.length (ab af) i.size (xs.map Pl.soft),H++[.log i.size e (xs.map Pl.soft)],hs') else ae
    |_,_=>ae
   |_=>ae
  |_=>ae
 |.slice t x lo hi ae=>match P.underlying t,ZB P ts t x,fX P ts lo,fX P ts hi with
  |some (.array n e),.am id off yM,ab l,ab h=>match hs with
   |.cK::hs'=>match H[id]? with
    |some (.var d _)=>match Yy d yM hs' with
     |some (C,off',.p (.arr n' s xs),hs'')=>
      if n=n'&&P.cellsOf e=s&&(P.info? e).isSome&&n<=maxLen then ab (C++[off'=off]++XD n l h,.p (.sl (ab af) s (QX xs l h)),H.set id (.var d ag),hs'') else ae
     |_=>ae
    |_=>ae
   |_=>ae
  |some (.slice e),.rv id v s lo' n,ab l,ab (ab h)=>match hs with
   |.arr::hs'=>match H[id]? with
    |some (.row v' s' af e' (.p (.arr N s2 xs)))=>if P.cellsOf e=s&&(P.info? e).isSome&&v'==v&&s'==s&&s2==s&&s' !=0&&lo'==0&&l.getD 0==0 then
      ab ([0<=h,h.toNat<=N],.rv id v s 0 h.toNat,H.set id (.row v s af e' (.p (.arr h.toNat s (xs.take h.toNat)))),hs') else ae
    |_=>ae
   |_=>ae
  |_,_,_,_=>ae
 |.call c=>match c.callee with
  |.builtin .append=>match c.args.toList,c.argTypes.toList with
   |[x,y],[t,u]=>match P.underlying t,ZB P ts t x with
    |some (.slice e),.own id nn s xs=>match P.info? e,jn P s u H hs (ZB P ts u y),H[id]? with
     |some i,ab (C,ys,hs'),ab (.log s' e' zs)=>if ca i&&i.size=s&&s'=s&&e'=e&&s !=0 then
       ab (C++[zs=xs,(xs.length+ys.length)*i.bytes<=Zv,xs.length+ys.length<=maxLen],.own id ae s (xs++ys),H.set id (.log s e (xs++ys)),hs') else ae
     |_,_,_=>ae
    |some (.slice e),.p (.sl (ab ag) _ [])=>match hs,P.info? e,iO P (P.cellsOf e) u (ZB P ts u y) with
     |.own::hs',ab i,ab ys=>if ca i&&i.size !=0 then
       ab ([ys.length*i.bytes<=Zv,ys.length<=maxLen],.own H.length ae i.size ys,H++[.log i.size e ys],hs') else ae
     |.arr::hs',ab i,ab ys=>if ca i&&i.size !=0 then
       ab ([ys.length*i.bytes<=Zv,ys.length<=maxLen],.rv H.length 0 i.size 0 ys.length,H++[.row 0 i.size af e (.p (.arr ys.length i.size ys))],hs') else ae
     |_,_,_=>ae
    |some (.slice e),.rv id v s lo n=>match hs with
     |.bare::hs0=>match P.info? e,jn P (P.cellsOf e) u H hs0 (ZB P ts u y) with
      |some i,ab (C,ys,hs')=>if ca i then ab (C++[ys=[]],.rv id v s lo n,H,hs') else ae
      |_,_=>ae
     |.raw::hs0=>match P.info? e,jn P s u H hs0 (ZB P ts u y),H[id]? with
      |some i,ab (C,ys,hs'),ab (.row v' s' st e' (.p (.arr N s'' xs)))=>if ca i&&i.size=s&&s'=s&&s''=s&&e'=e&&s !=0&&v'==v&&lo=0 then
        ab (C++[n<=N,(n+ys.length)*i.bytes<=Zv,n+ys.length<=maxLen,st=af\/n=N],.rv id (v+1) s 0 (n+ys.length),H.set id (.row (v+1) s st e (.p (.arr (n+ys.length) s (xs.take n++ys)))),hs') else ae
      |_,_,_=>ae
     |.jj::hs0=>match P.info? e,jn P s u H hs0 (ZB P ts u y),H[id]? with
      |some i,ab (C,ys,hs'),ab (.row v' s' af e' (.p (.arr N s'' xs)))=>if ca i&&i.size=s&&s'=s&&s''=s&&e'=e&&s !=0&&v'==v&&lo=0 then
        ab (C++[0 < N,n+ys.length<=N],.rv id v s 0 (n+ys.length),H.set id (.row v s af e (.p (.arr N s (xs.take n++(ys++xs.drop (n+ys.length)))))),hs') else ae
      |_,_,_=>ae
     |_=>ae
    |_,_=>ae
   |_,_=>ae
  |.builtin .clear=>match c.args.toList,c.argTypes.toList with
   |[x],[t]=>match P.underlying t,ZB P ts t x with
    |some (.slice e),.rv id v s lo n=>match P.info? e,WH P e,H[id]? with
     |some i,.p z,ab (.row v' s' af e' (.p (.arr N s'' xs)))=>if ca i&&i.size=s&&s'=s&&s''=s&&v'==v&&s !=0&&z.size==s then
       ab ([n=1,lo+1<=N],.bi [],H.set id (.row v s af e' (.p (.arr N s (xs.set lo z.soft)))),hs) else ae
     |_,_,_=>ae
    |_,_=>ae
   |_,_=>ae
  |.builtin .delete=>match c.args.toList,c.argTypes.toList with
   |[x,y],[t,u]=>match P.underlying t,ZB P ts t x with
    |some (.map kt _),.mp id=>match ZB P ts u y,H[id]?,hs with
     |.p k,ab (.map t' bu),.bu l::hs'=>if jT P kt then ab ([bh P 20 kt k,fW P kt bu,fV bu k l],.bi [],H.set id (.map t' l),hs') else ae
     |_,_,_=>ae
    |_,_=>ae
   |_,_=>ae
  |.builtin .copy=>match c.args.toList,c.argTypes.toList with
   |[x,y],[t,u]=>match P.underlying t,ZB P ts t x with
    |some (.slice e),.view id off yM s lo n=>match iO P s u (ZB P ts u y),H[id]? with
     |some ys,ab (.var dd af)=>match Yy dd yM hs with
      |some (C,off',.p (.arr N s' xs),hs')=>match VS (.p (.arr N s' (oL xs ys lo))) dd yM hs with
       |some dd'=>if s'=s&&P.cellsOf e=s&&(P.info? e).isSome then ab (C++[off'=off,ys.length<=n,lo+n<=N],.p (.int .i64 (ys.length:Int)),H.set id (.var dd' af),hs') else ae
       |none=>ae
      |_=>ae
     |_,_=>ae
    |_,_=>ae
   |_,_=>ae
  |.value f=>match ZB P ts 0 f,hs with
   |.fn g cap,.call r H' ids::hs'=>
    if gv P (dY g)&&c.args.size==c.argTypes.size&&once ids&&ids.length<=H'.length then
     match Dv.bt (aV ids) (Z5 P ids ts c g cap),aJ H ids ids,r.rn (aO ids H.length),ay.bt (aO ids H.length) H' with
     |some args',ab Hin,ab r',ab Hb=>ab ([cH P (dY g) args' Hin r H'],r',au H ids Hb,hs')
     |_,_,_,_=>ae
    else ae
   |_,_=>ae
  |.invoke recv name=>match ZB P ts 0 recv,hs with
   |.iface t x,.im g::.call r H' ids::hs'=>
    if gv P g&&c.args.size==c.argTypes.size&&once ids&&ids.length<=H'.length then
     match Dv.bt (aV ids) (x.bL ids::Z5 P ids ts c 0 []),aJ H ids ids,r.rn (aO ids H.length),ay.bt (aO ids H.length) H' with
     |some args',ab Hin,ab r',ab Hb=>ab ([oI P t name g,cH P g args' Hin r H'],r',au H ids Hb,hs')
     |_,_,_,_=>ae
    else ae
   |_,_=>ae
  |_=>ae
 |_=>ae
def eQ(P:yg)(o:Oper)(ts:yL Dv)(H:yL ay)(hs:yL ar):uP:=
 match be P o ts hs with
 |some (C,d,hs')=>ab (C,d,H,hs')
 |none=>match bB P o ts H hs with
  |some (C,d,hs')=>ab (C,d,H,hs')
  |none=>cx P o ts H hs
def fM(ts:yL Dv)(dst:yO Tmp)(d:Dv):yL Dv:=
 match dst with
 |some i=>ts.set i d
 |none=>ts
def iP(dst:yO Tmp)(d:Dv)(hs:yL ar):yL Prop×Dv×yL ar:=([],d,hs)
def cN(P:yg)(ops:Array Oper)(o:Oper)(ts:yL Dv)(H:yL ay)(hs:yL ar):uP:=
 match o.guard with
 |none=>(eQ P o ts H hs).map λ(C,d,H',hs')=>(C++(iP o.dst d hs').1,(iP o.dst d hs').2.1,H',(iP o.dst d hs').2.2)
 |some (j,want)=>match ((ops[j]?).bind (·.dst)).map λt=>ts.getD t .aA,hs with
  |some (.p (.bool t)),.b β::hs'=>
   if β=want then(eQ P o ts H hs').map λ(C,d,H',hs'')=>((t=β)::C++(iP o.dst d hs'').1,(iP o.dst d hs'').2.1,H',(iP o.dst d hs'').2.2)
   else ab ([t=β],.bi [],H,hs')
  |some (.bi []),.raw::hs'=>ab ([],.bi [],H,hs')
  |_,_=>ae
def mY(P:yg)(ops:Array Oper):yL Oper->yL Dv->yL ay->yL ar->yO (yL Prop×yL Dv×yL ay×yL ar)
 |[],ts,H,hs=>ab ([],ts,H,hs)
 |o::yJ,ts,H,hs=>match cN P ops o ts H hs with
  |some (C,d,H',hs')=>match mY P ops yJ (fM ts o.dst d) H' hs' with
   |some (C',ts',H'',hs'')=>ab (C++C',ts',H'',hs'')
   |none=>ae
  |none=>ae
def looks(ops:Array Oper)(o:Oper):yL Nat:=
 (o.op.operands.toList.filterMap λx=>match x with|.tmp t=>ab t|_=>ae)++
 (match o.guard with|some (g,_)=>((ops[g]?).bind (·.dst)).toList|none=>[])
def ZS(keep:yL Nat):Nat->yL Dv->yL Dv
 |_,[]=>[]
 |i,d::r=>(if keep.contains i then d else .aA)::ZS keep (i+1) r
def bG(P:yg)(o:Oper)(ts:yL Dv)(H:yL ay)(hs:yL ar):Nat:=
 match o.guard,hs with
 |some (_,want),.b β::hs'=>if β=want then(if(be P o ts hs').isSome then 0 else if(bB P o ts H hs').isSome then 1 else 2) else 0
 |some _,.raw::_=>0
 |_,hs=>if(be P o ts hs).isSome then 0 else if(bB P o ts H hs).isSome then 1 else 2
def oM(P:yg)(o:Oper)(ts:yL Dv):yO Nat:=
 match o.op with
 |.load t a=>match ZB P ts 0 a with
  |.am id _ _=>ab id
  |.aZ id _ _ _=>ab id
  |_=>ae
 |.slice t x _ _ ae=>match ZB P ts t x with
  |.am id _ _=>ab id
  |_=>ae
 |.lookup t x _ _=>match ZB P ts t x with
  |.mp id=>ab id
  |_=>ae
 |.call c=>match c.callee with
  |.value f=>match ZB P ts 0 f with
   |.fn g cap=>Dv.fv (Z5 P [] ts c g cap)
   |_=>ae
  |_=>ae
 |_=>ae
def jU(P:yg)(o:Oper)(ts:yL Dv)(hs:yL ar):yO (yL Nat):=
 match o.op with
 |.assign _=>ab []
 |.move _=>ab []
 |.makeSlice _ _ _=>ab []
 |.makeMap _ ae=>ab []
 |.alloc _=>ab []
 |.box _ _=>ab []
 |.buildSlice _ _ _=>match hs with
  |.fresh id::_=>ab [id]
  |_::_=>ab []
  |[]=>ae
 |.slice t x _ _ ae=>match ZB P ts t x with
  |.rv id _ _ _ _=>ab [id]
  |_=>ab []
 |.store t x y=>match ZB P ts 0 x with
  |.am id _ _=>ab [id]
  |.aZ id _ _ _=>ab [id]
  |_=>ae
 |.call c=>match c.callee with
  |.builtin .append=>match c.args.toList,c.argTypes.toList with
   |[x,y],[t,u]=>match ZB P ts t x with
    |.own id _ _ _=>ab [id]
    |.rv id _ _ _ _=>ab [id]
    |.p _=>ab []
    |_=>ae
   |_,_=>ae
  |.value _=>match hs with
   |.call _ _ ids::_=>ab ids
   |_=>ae
  |.invoke _ _=>match hs with
   |.im _::.call _ _ ids::_=>ab ids
   |_=>ae
  |_=>ae
 |_=>ae
structure Rec where
 hs:List ar
 C:List Prop
 d:Dv
 H:List ay
 H':List ay
 hs':List ar
 bC:Nat
 rd:Option Nat
 tc:Option (List Nat)
 push:Bool
 loc:Bool
 ex:Bool
def jV(o:Oper):Bool:=match o.op with
 |.slice _ _ _ _ _=>af
 |_=>ag
def mZ(r:Dv)(Hn:yL ay)(ids:yL Nat):Bool:=Hn.length==ids.length&&(r.rn (λj=>ids[j]?)).isSome&&(ay.bt (λj=>ids[j]?) Hn).isSome
def kJ(o:Oper)(hs:yL ar):Bool:=o.guard.isNone&&match o.op with
 |.call c=>match c.callee with
  |.value _=>match hs with
   |.call r Hn ids::_=>mZ r Hn ids
   |_=>ag
  |.invoke _ _=>match hs with
   |.im _::.call r Hn ids::_=>mZ r Hn ids
   |_=>ag
  |_=>ag
 |_=>ag
def iQ(o:Oper)(hs:yL ar)(n:Nat):Bool:=o.guard.isNone&&match o.op with
 |.alloc _=>af
 |.call c=>match c.callee with
  |.value _=>match hs with
   |.call r Hn ids::_=>ids.isEmpty&&mZ r Hn [n]
   |_=>ag
  |_=>ag
 |_=>ag
def qS(P:yg)(o:Oper)(ts:yL Dv):yO Nat:=oM P o ts
def kK(P:yg)(o:Oper)(ts:yL Dv)(hs:yL ar):yO (yL Nat):=if o.guard.isNone then jU P o ts hs else ae
def na(P:yg)(ops:Array Oper):yL Oper->yL Dv->yL ay->yL ar->yO (yL Prop×yL Rec×yL Dv×yL ay×yL ar)
 |[],ts,H,hs=>ab ([],[],ts,H,hs)
 |o::yJ,ts,H,hs=>match cN P ops o (ZS (looks ops o) 0 ts) H hs with
  |some (C,d,H',hs')=>match na P ops yJ (fM ts o.dst d) H' hs' with
   |some (C',rs,ts',H'',hs'')=>ab (C++C',⟨hs,C,d,H,H',hs',bG P o (ZS (looks ops o) 0 ts) H hs,qS P o (ZS (looks ops o) 0 ts),kK P o (ZS (looks ops o) 0 ts) hs,iQ o hs H.length,kJ o hs,jV o⟩::rs,ts',H'',hs'')
   |none=>ae
  |none=>ae
def nb(A:yL Nat)(i:Nat)(o:Oper):Nat:=
 o.after.toList.foldl (λm e=>if Region.binds .any e&&ah (e.on < i) then m|||(1 <<< e.on)|||A.getD e.on 0 else m) 0
def ZRy:yL Oper->Nat->yL Nat->yL Nat
 |[],_,A=>A
 |o::r,i,A=>ZRy r (i+1) (A++[nb A i o])
def DM(ops:yL Oper):yL Nat:=ZRy ops 0 []
def re(l:yL Oper):Nat->Bool
 |i=>match l with
  |[]=>af
  |o::r=>(o.after.toList.all λe=> !Region.binds .any e || decide (e.on < i))&&re r (i+1)
def iR(l:yL Oper)(i:Nat):yO Tmp:=(l[i]?).bind (·.dst)
noncomputable def ZR2(id:Nat)(q:Rec):Bool:=@decide (cz (q.H'[id]?)=cz (q.H[id]?)) (Classical.propDecidable _)
noncomputable def lN(rs:yL Rec)(i j:Nat):Bool:=
 match rs[i]?,rs[j]? with
 |some r,ab q=>(match r.rd with
  |some id=>ah (id < q.H.length)&&ah (id < r.H.length)&&(if r.ex=af then q.push else((match q.tc with|some l=> !l.contains id|none=>ag) || ZR2 id q))
  |none=>ag)
 |_,_=>ag
def uS(rs:yL Rec)(c:Nat)(r:Rec):Bool:=r.loc || (r.push&&r.H'.length==r.H.length+1&&(rs.take c).all λq=>ah (q.H.length<=r.H.length))
def jW(rs:yL Rec)(c i j:Nat):Bool:=((rs[c]?).map (uS rs c)).getD ag&&((i==c&&ah (c < j)&&((rs[j]?).map (·.push)).getD ag) || (j==c&&ah (c < i)&&((rs[i]?).map (·.push)).getD ag))
noncomputable def uT(ops:Array Oper)(rs:yL Rec):Bool:=
 let bC:=rs.map (·.bC);let l:=ops.toList;let A:=DM l;let n:=l.length
 (bC.length==n)&&re l 0&&
 ((yu n).all λi=>match l[i]? with|some o=>A.getD i 0==nb A i o|none=>af)&&
 ((yu n).all λi=>(yu n).all λj=>i==j || iR l i==ae || !(iR l i==iR l j))&&
 ((yu n).all λi=>match l[i]? with
   |some o=>let k:=looks ops o
    (yu n).all λj=>match iR l j with
      |some t=>i==j || !(k.contains t) || (if j < i then(A.getD i 0).testBit j else(A.getD j 0).testBit i)
      |none=>af
   |none=>af)&&
 ((yu (n+1)).any λc=>(yu n).all λi=>bC.getD i 0==0 || (yu n).all λj=>i==j || !(bC.getD j 0==2) || (if j < i then(A.getD i 0).testBit j else(A.getD j 0).testBit i) || (bC.getD i 0==1&&lN rs i j) || jW rs c i j)
noncomputable def uU(P:yg)(ops:Array Oper)(ts:yL Dv)(H:yL ay)(hs:yL ar):yO (yL Prop×yL Dv×yL ay×yL ar):=
 if P.follows .mixedOrders then
  match na P ops ops.toList ts H hs with
  |some (C,rs,ts',H',hs')=>if uT ops rs then ab (C,ts',H',hs') else ae
  |none=>ae
 else ae
def rf(ts:yL Dv):yL Nat->yL Dv
 |[]=>ts
 |i::r=>rf (ts.set i .aA) r
abbrev ZU2:=yO (yL Prop×Ex×yL Dv×yL ay×yL ar)
noncomputable def ev(P:yg):Code->yL Dv->yL ay->yL ar->ZU2
 |.skip,ts,H,hs=>ab ([],.normal,ts,H,hs)
 |.label _,ts,H,hs=>ab ([],.normal,ts,H,hs)
 |.region _ ops draw,ts,H,hs=>if draw then(uU P ops ts H hs).map λ(C,ts',H',hs')=>(C,.normal,ts',H',hs') else(mY P ops ops.toList ts H hs).map λ(C,ts',H',hs')=>(C,.normal,ts',H',hs')
 |.seq x y,ts,H,hs=>match ev P x ts H hs with
  |some (C,.normal,ts',H',hs')=>match ev P y ts' H' hs' with
   |some (C',ex,ts'',H'',hs'')=>ab (C++C',ex,ts'',H'',hs'')
   |none=>ae
  |r=>r
 |.cond c x y,ts,H,hs=>match ZB P ts 0 c,hs with
  |.p (.bool t),.b af::hs'=>(ev P x ts H hs').map λ(C,r)=>((t=af)::C,r)
  |.p (.bool t),.b ag::hs'=>(ev P y ts H hs').map λ(C,r)=>((t=ag)::C,r)
  |_,_=>ae
 |.block id body,ts,H,hs=>match ev P body ts H hs with
  |some (C,.exit id',ts',H',hs')=>ab (C,if id'=id then .normal else .exit id',ts',H',hs')
  |r=>r
 |.loop body,ts,H,hs=>match hs with
  |.loop mask ex ts' H'::hs'=>if ex=.normal then ae else ab ([Vd P (.loop body) (rf ts mask) H ex ts' H'],ex,ts',H',hs')
  |_=>ae
 |.scope body,ts,H,hs=>ev P body ts H hs
 |.exit id,ts,H,hs=>ab ([],.exit id,ts,H,hs)
 |.ret,ts,H,hs=>ab ([],.ret,ts,H,hs)
 |_,_,_,_=>ae
def jX(P:yg)(ts:yL Dv)(H:yL ay):yL ResultVar->yL ar->yO (yL Prop×yL Dv)
 |[],_=>ab ([],[])
 |.tmp t::r,hs=>(jX P ts H r hs).map λq=>(q.1,ts.getD t .aA::q.2)
 |.cell a ty::r,hs=>match ts.getD a .aA with
  |.am id off yM=>match H[id]? with
   |some (.var d _)=>match Yy d yM hs with
    |some (C,off',sub,hs')=>if gR P ty sub then(jX P ts H r hs').map λq=>(C++[off'=off]++q.1,sub::q.2) else ae
    |none=>ae
   |_=>ae
  |_=>ae
def nc:yL Dv->Dv
 |[d]=>d
 |ds=>.bi ds
def fin(P:yg)(fn:Func)(ts:yL Dv)(H:yL ay)(k:Nat)(keep:yL Nat)(hs:yL ar):yO (yL Prop×Dv×yL ay):=
 match jX P ts H fn.results.toList hs with
 |some (C,ds)=>
  let L:=yu k++keep
  match once L,(nc (ds.map Dv.arg)).rn (aV L),(nc ds).rn (aV L),aJ H L L with
  |true,_,ab r,ab H'=>ab (C,r,H')
  |true,ab r,ae,ab H'=>ab (C,r,H')
  |_,_,_,_=>ae
 |none=>ae
def ba:yL Prop->Prop
 |[]=>True
 |p::r=>p/\ba r
end Go.Ev
end
section
namespace Go.Ev
section
variable{σ:Sg}{v:yh}
theorem ZY{k:IntKind}{n:Int}(h:yH σ (.p (.int k n)) v):v=.int k n:=by simpa[yH,Dv.isAgg,Pl.isAgg,yG,aw] using h
theorem Y5{b:Bool}(h:yH σ (.p (.bool b)) v):v=.bool b:=by simpa[yH,Dv.isAgg,Pl.isAgg,yG,aw] using h
theorem oN{b:ByteArray}(h:yH σ (.p (.str b)) v):v=.string b:=by simpa[yH,Dv.isAgg,Pl.isAgg,yG,aw] using h
theorem rg(h:yH σ (.p .bE) v):v=.pointer ae:=by simpa[yH,Dv.isAgg,Pl.isAgg,yG,aw] using h
theorem DN(h:yH σ (.p .fn0) v):v=.nilFunc:=by simpa[yH,Dv.isAgg,Pl.isAgg,yG,aw] using h
theorem ZC(k:IntKind)(n:Int):yH σ (.p (.int k n)) (.int k n):=by simp[yH,Dv.isAgg,Pl.isAgg,yG,aw]
theorem Yr(b:Bool):yH σ (.p (.bool b)) (.bool b):=by simp[yH,Dv.isAgg,Pl.isAgg,yG,aw]
theorem WT:yH σ .aA v:=by simp[yH,Dv.isAgg,yG]
theorem Ye{d:Dv}(ha:d.isAgg=af):yH σ d v↔∃cs:Array yh,v=.agg cs/\yG σ d cs.toList:=by
 simp[yH,ha]
theorem Zi{d:Dv}(ha:d.isAgg=ag):yH σ d v↔yG σ d [v]:=by
 simp[yH,ha]
theorem WY{nn:yO Bool}{s:Nat}{xs:yL Pl}(h:yH σ (.p (.sl nn s xs)) v):
 aR s xs/\∃A c,v=.slice A xs.length c/\xs.length<=c/\c<=maxLen/\iK nn A/\(A=ae->c=0)/\
  (xs≠[]->∃b o us,A=ab ⟨b,o,ae⟩/\aq σ.w σ.aU xs us/\VJ σ.w σ.aU b o us):=by
 rw[Zi (by rfl)]at h;simpa[yG,aw] using h
theorem YM{nn:yO Bool}{s:Nat}{xs:yL Pl}{A:yO Addr}{c:Nat}(h1:aR s xs)(h2:xs.length<=c)(h3:c<=maxLen)(h4:iK nn A)(h5:A=ae->c=0)
 (h6:xs≠[]->∃b o us,A=ab ⟨b,o,ae⟩/\aq σ.w σ.aU xs us/\VJ σ.w σ.aU b o us):yH σ (.p (.sl nn s xs)) (.slice A xs.length c):=by
 rw[Zi (by rfl)];simp only[yG,aw];exact⟨h1,A,c,rfl,h2,h3,h4,h5,h6⟩
theorem lO{id s:Nat}{nn:yO Bool}{xs:yL Pl}(h:yH σ (.own id nn s xs) v):
 aR s xs/\∃A c,v=.slice A xs.length c/\xs.length<=c/\c<=maxLen/\iK nn A/\(A=ae->c=0)/\
  (xs≠[]->∃b o us,A=ab ⟨b,o,ae⟩/\aq σ.w σ.aU xs us/\VJ σ.w σ.aU b o us)/\cL σ id s xs.length A c:=by
 rw[Zi (by rfl)]at h;simpa[yG] using h
theorem oO{id s:Nat}{nn:yO Bool}{xs:yL Pl}(h:yH σ (.own id nn s xs) v):yH σ (.p (.sl nn s xs)) v:=by
 obtain⟨h1,A,c,rfl,h2,h3,h4,h5,h6,_⟩:=lO h;exact YM h1 h2 h3 h4 h5 h6
end
mutual
theorem Ve{w:World}{S:Nat->Nat->Prop}:∀(x:Pl)(vs:yL yh),aw w S x vs->vs.length=x.size
 |.int _ _,_,h=>by simp only[aw]at h;subst h;rfl
 |.bool _,_,h=>by simp only[aw]at h;subst h;rfl
 |.str _,_,h=>by simp only[aw]at h;subst h;rfl
 |.bE,_,h=>by simp only[aw]at h;subst h;rfl
 |.fn0,_,h=>by simp only[aw]at h;subst h;rfl
 |.dE,_,h=>by simp only[aw]at h;subst h;rfl
 |.bU,_,h=>by simp only[aw]at h;subst h;rfl
 |.fS _,_,h=>by simp only[aw]at h;subst h;rfl
 |.agg xs,vs,h=>by
  simp only[aw]at h
  simpa[Pl.size] using aL xs vs h
 |.arr n s xs,vs,h=>by
  simp only[aw]at h;obtain⟨h1,h2,h3⟩:=h;have:=aL xs vs h3;rw[this,Pl.size, <-h1]
  exact aM h2
 |.sl _ _ _,_,h=>by
  simp only[aw]at h;obtain⟨_,A,c,h,_⟩:=h
  subst h;rfl
 |.iface _ _,_,h=>by
  simp only[aw]at h;obtain⟨v,h,_⟩:=h;subst h;rfl
theorem aL{w:World}{S:Nat->Nat->Prop}:∀(xs:yL Pl)(vs:yL yh),aq w S xs vs->vs.length=Pl.sizes xs
 |[],_,h=>by simp only[aq]at h;subst h;rfl
 |x::xs,vs,h=>by
  simp only[aq]at h;obtain⟨us,us',rfl,h1,h2⟩:=h;rw[yl,Ve x us h1,aL xs us' h2,Pl.sizes]
theorem aM{s:Nat}:∀{xs:yL Pl},aR s xs->Pl.sizes xs=xs.length*s
 |[],_=>by simp[Pl.sizes]
 |x::xs,h=>by
  rw[Pl.sizes,h x (yax ..),aM (λy hy=>h y (yaz _ hy)),yam,yau];omega
end
theorem Ym{w:World}{S:Nat->Nat->Prop}{xs ys:yL Pl}{us vs:yL yh}(h:aq w S xs us)(k:aq w S ys vs):aq w S (xs++ys) (us++vs):=by
 induction xs generalizing us with
 |nil=>simp only[aq]at h;subst h;simpa using k
 |cons x xs ih=>
  simp only[aq]at h;obtain⟨a,b,rfl,h1,h2⟩:=h;simp only[yae,aq,yad];exact⟨a,b++vs,rfl,h1,ih h2⟩
theorem Yh{w:World}{S:Nat->Nat->Prop}{xs ys:yL Pl}{us:yL yh}(h:aq w S (xs++ys) us):∃a b,us=a++b/\aq w S xs a/\aq w S ys b:=by
 induction xs generalizing us with
 |nil=>exact⟨[],us,rfl,by simp[aq],h⟩
 |cons x xs ih=>
  simp only[yae,aq]at h;obtain⟨a,b,rfl,h1,h2⟩:=h;obtain⟨c,d,rfl,h3,h4⟩:=ih h2;exact⟨a++c,d,by simp,by simp only[aq];exact⟨a,c,rfl,h1,h3⟩,h4⟩
theorem VT{s:Nat}{xs ys:yL Pl}(h:aR s xs)(k:aR s ys):aR s (xs++ys):=by
 intro x hx;rcases List.mem_append.1 hx with h1|h1
 .exact h x h1
 .exact k x h1
theorem QY{s:Nat}{xs:yL Pl}(h:aR s xs)(n:Nat):aR s (xs.take n):=λx hx=>h x (ybn hx)
theorem uV{s:Nat}{xs:yL Pl}(h:aR s xs)(n:Nat):aR s (xs.drop n):=λx hx=>h x (List.mem_of_mem_drop hx)
theorem VJ.append{w:World}{S:Nat->Nat->Prop}{b o:Nat}{us vs:yL yh}(h:VJ w S b o (us++vs)):VJ w S b o us/\VJ w S b (o+us.length) vs:=by
 constructor
 .intro j u hu;exact h j u (by rw[ybe (yo.1 hu).1];exact hu)
 .intro j u hu;have:=h (us.length+j) u (by rw[yaq (by omega)];simpa using hu)
  rwa [<-Nat.add_assoc]at this
theorem ZyU{P:yg}{t:yc}{v:yh}{x:Pl}(h:uO P t v=ab x)(w:World)(S:Nat->Nat->Prop):aw w S x [v]/\x.isAgg=ag:=by
 unfold uO at h
 split at h <;> first
  |(cases h;done)
  |(simp only[yp]at h;subst h;refine⟨?_,rfl⟩;simp only[aw];done)
  |(simp only[yp]at h;subst h;exact⟨by simp only[aw];exact⟨λ_ hx=>(by cases hx),ae,0,rfl,yj _,Nat.zero_le _,ZyQ rfl,λ_=>rfl,λhn=>absurd rfl hn⟩,rfl⟩)
mutual
theorem DO{P:yg}:∀(yD:Nat)(t:yc)(vs:yL yh)(x:Pl)(r:yL yh),oJ P yD t vs=ab (x,r)->∀w S,∃us,vs=us++r/\aw w S x us
 |0,_,_,_,_,h,_,_=>by simp[oJ]at h
 |yD+1,t,vs,x,r,h,w,S=>by
  simp only[oJ]at h;split at h
  .rename_i fs _;simp only[yn,yz]at h;obtain⟨⟨xs,r'⟩,h1,rfl,rfl⟩:=h;obtain⟨us,e,hr⟩:=dM yD _ _ _ _ h1 w S;exact⟨us,e,by simpa[aw] using hr⟩
  .rename_i n e _;simp only[yn,yz]at h;obtain⟨⟨xs,r'⟩,h1,rfl,rfl⟩:=h;obtain⟨us,e',hl,ha,hr⟩:=fw yD _ _ _ _ _ h1 w S;exact⟨us,e',by simp only[aw];exact⟨hl,ha,hr⟩⟩
  .split at h
   .rename_i v r';simp only[yn,yz]at h;obtain⟨x',h1,rfl,rfl⟩:=h;exact⟨[v],rfl,(ZyU h1 w S).1⟩
   .cases h
  .cases h
theorem dM{P:yg}:∀(yD:Nat)(ts:yL yc)(vs:yL yh)(xs:yL Pl)(r:yL yh),cM P yD ts vs=ab (xs,r)->∀w S,∃us,vs=us++r/\aq w S xs us
 |0,_,_,_,_,h,_,_=>by simp[cM]at h
 |yD+1,[],vs,xs,r,h,w,S=>by
  simp only[cM,yp,yz]at h;obtain⟨rfl,rfl⟩:=h
  exact⟨[],rfl,by simp[aq]⟩
 |yD+1,t::ts,vs,xs,r,h,w,S=>by
  simp only[cM]at h;split at h
  .rename_i x r' h1;simp only[yn,yz]at h;obtain⟨⟨xs',r''⟩,h2,rfl,rfl⟩:=h;obtain⟨us,e1,k1⟩:=DO yD _ _ _ _ h1 w S;obtain⟨us',e2,k2⟩:=dM yD _ _ _ _ h2 w S;subst e2;exact⟨us++us',by rw[e1,yad],by simp only[aq];exact⟨us,us',rfl,k1,k2⟩⟩
  .cases h
theorem fw{P:yg}:∀(yD:Nat)(e:yc)(n:Nat)(vs:yL yh)(xs:yL Pl)(r:yL yh),fu P yD e n vs=ab (xs,r)->
 ∀w S,∃us,vs=us++r/\xs.length=n/\aR (P.cellsOf e) xs/\aq w S xs us
 |0,_,_,_,_,_,h,_,_=>by simp[fu]at h
 |yD+1,e,0,vs,xs,r,h,w,S=>by
  simp only[fu,yp,yz]at h;obtain⟨rfl,rfl⟩:=h
  exact⟨[],rfl,rfl,(λ_ hx=>(by cases hx)),by simp[aq]⟩
 |yD+1,e,n+1,vs,xs,r,h,w,S=>by
  simp only[fu]at h;split at h
  .rename_i x r' h1;split at h
   .rename_i hs;simp only[yn,yz]at h;obtain⟨⟨xs',r''⟩,h2,rfl,rfl⟩:=h;obtain⟨us,e1,k1⟩:=DO yD _ _ _ _ h1 w S;obtain⟨us',e2,hl,ha,k2⟩:=fw yD _ _ _ _ _ h2 w S;subst e2;refine⟨us++us',by rw[e1,yad],by simp[hl], ?_,by simp only[aq];exact⟨us,us',rfl,k1,k2⟩⟩;intro y hy
    cases hy with
    |head=>exact hs
    |tail _ hy=>exact ha y hy
   .cases h
  .cases h
end
theorem ZwQ{σ:Sg}{f:yq}(hf:f < big):yH σ (.fn f []) (.func (.func f) #[] #[]):=by
 have e:dY f=f:=by
  unfold dY;rw[yW hf]
 rw[Zi rfl];simp only[yG];exact⟨#[], #[],by rw[e],yW hf,by simp[aC]⟩
theorem ng{P:yg}{t:yc}{v:yh}{σ:Sg}:yH σ (oK P t v) v:=by
 unfold oK;split
 .rename_i cs;split
  .rename_i x h;split
   .rename_i ha;obtain⟨us,e,hr⟩:=DO _ _ _ _ _ h σ.w σ.aU;rw[Ye (by simpa[Dv.isAgg] using ha)];exact⟨cs,rfl,by simp only[yG];rw[e];simpa using hr⟩
   .exact WT
  .exact WT
 .rename_i f fst cap;split
  .rename_i hh;have h1:fst= #[]:=by simpa using hh.1
   have h2:cap= #[]:=by simpa using hh.2.1
   subst h1;subst h2;exact ZwQ hh.2.2
  .exact WT
 .split
  .rename_i x h;have:=ZyU h σ.w σ.aU;rw[Zi (by simpa[Dv.isAgg] using this.2)];simpa[yG] using this.1
  .exact WT
theorem Zs{P:yg}{σ:Sg}{ts:yL Dv}{a:Act}(h:aK σ ts a)(t:yc)(x:ym):yH σ (ZB P ts t x) (a.eval x):=by
 cases x with
 |tmp i=>
  simp only[ZB,Act.eval]
  cases hi:ts[i]? with
  |none=>simp only[List.getD,hi,Option.getD_none];exact WT
  |some d=>simp only[List.getD,hi,Option.getD_some];exact h.at_ i d hi
 |const v=>exact ng
 |global g=>exact WT
 |func f=>
  simp only[ZB,Act.eval];split
  .rename_i hf;exact ZwQ hf
  .exact WT
theorem ZK4{σ:Sg}{d:Dv}{x:Pl}{v:yh}(h:d.plain=ab x)(hr:yH σ d v):yH σ (.p x) v:=by
 unfold Dv.plain at h;split at h
 .cases h;exact hr
 .cases h;exact oO hr
 .cases h
mutual
theorem rh{σ:Sg}:∀(d:Dv)(x:Pl)(us:yL yh),d.flat=ab x->yG σ d us->aw σ.w σ.aU x us
 |.p y,x,us,h,hr=>by rw[Dv.flat]at h;cases h;simpa[yG] using hr
 |.own id nn s xs,x,us,h,hr=>by
  rw[Dv.flat]at h;cases h;simp only[yG]at hr;obtain⟨k1,A,c,k2,k3,k4,k5,k6,k7,_⟩:=hr;simp only[aw]
  exact⟨k1,A,c,k2,k3,k4,k5,k6,k7⟩
 |.agg ds,x,us,h,hr=>by
  rw[Dv.flat]at h
  cases h2:Dv.aP ds with
  |none=>rw[h2]at h;cases h
  |some xs=>
   rw[h2]at h;cases h;simp only[yG]at hr;simp only[aw]
   exact dI ds xs us h2 hr
 |.elem _,x,us,h,hr=>by rw[Dv.flat]at h <;> simp_all
 |.am _ _ _,x,us,h,hr=>by rw[Dv.flat]at h <;> simp_all
 |.view _ _ _ _ _ _,x,us,h,hr=>by rw[Dv.flat]at h <;> simp_all
 |.arr _ _ _,x,us,h,hr=>by rw[Dv.flat]at h <;> simp_all
 |.fn _ _,x,us,h,hr=>by rw[Dv.flat]at h <;> simp_all
 |.iface _ _,x,us,h,hr=>by rw[Dv.flat]at h <;> simp_all
 |.bi _,x,us,h,hr=>by rw[Dv.flat]at h <;> simp_all
 |.mp _,x,us,h,hr=>by rw[Dv.flat]at h <;> simp_all
 |.rv _ _ _ _ _,x,us,h,hr=>by rw[Dv.flat]at h <;> simp_all
 |.aZ _ _ _ _,x,us,h,hr=>by rw[Dv.flat]at h <;> simp_all
 |.aA,x,us,h,hr=>by rw[Dv.flat]at h <;> simp_all
theorem dI{σ:Sg}:∀(ds:yL Dv)(xs:yL Pl)(us:yL yh),Dv.aP ds=ab xs->aI σ ds us->aq σ.w σ.aU xs us
 |[],xs,us,h,hr=>by rw[Dv.aP]at h;cases h;simpa[aI,aq] using hr
 |d::ds,xs,us,h,hr=>by
  rw[Dv.aP]at h;split at h
  .rename_i x ys h1 h2;cases h;simp only[aI]at hr;obtain⟨a,b,rfl,h3,h4⟩:=hr;simp only[aq];exact⟨a,b,rfl,rh d x a h1 h3,dI ds ys b h2 h4⟩
  .cases h
end
theorem DP{d:Dv}{x:Pl}(h:d.flat=ab x):x.isAgg=d.isAgg:=by
 cases d <;> first
  |(rw[Dv.flat]at h;cases h;rfl)
  |(rename_i ds;rw[Dv.flat]at h;cases h2:Dv.aP ds with
     |none=>rw[h2]at h;cases h
     |some xs=>rw[h2]at h;cases h;rfl)
  |(simp[Dv.flat]at h)
theorem DQ{σ:Sg}{d:Dv}{x:Pl}{v:yh}(h:d.flat=ab x)(hr:yH σ d v):yH σ (.p x) v:=by
 have ha:=DP h
 cases hd:d.isAgg with
 |true=>
  rw[Ye hd]at hr;rw[Ye (by show x.isAgg=_;rw[ha,hd])];obtain⟨cs,rfl,h2⟩:=hr
  exact⟨cs,rfl,by simp only[yG];exact rh d x _ h h2⟩
 |false=>
  rw[Zi hd]at hr;rw[Zi (by show x.isAgg=_;rw[ha,hd])];simp only[yG];exact rh d x _ h hr
theorem ZFv{σ:Sg}{ds:yL Dv}{v:yh}(hr:yH σ (.agg ds) v):yH σ (Dv.eP ds) v:=by
 unfold Dv.eP
 cases h:Dv.aP ds with
 |none=>exact hr
 |some xs=>exact DQ (d:=.agg ds) (by rw[Dv.flat,h];rfl) hr
theorem DR{σ:Sg}{d:Dv}{v:yh}(ids:yL Nat)(hr:yH σ d v):yH σ (d.bL ids) v:=by
 unfold Dv.bL;split
 .split
  .exact hr
  .exact oO hr
 .split
  .exact hr
  .exact ZFv hr
 .exact hr
theorem ZPF{σ:Sg}{d:Dv}{v:yh}(hr:yH σ d v):yH σ d.arg v:=by
 unfold Dv.arg;split
 .exact oO hr
 .exact ZFv hr
 .exact hr
end Go.Ev
end
section
namespace Go.Ev
theorem nh{k:IntKind}{x:Int}(h:QW k x):k.wrap x=x:=by
 obtain⟨h1,h2⟩:=h;cases k <;> simp only[IntKind.min,IntKind.max,IntKind.wrap,IntKind.signed,IntKind.bits] at* <;> simp at* <;> (try split) <;> omega
theorem Zr{A B:yL Prop}:ba (A++B)↔ba A/\ba B:=by
 induction A with
 |nil=>simp[ba]
 |cons p A ih=>simp[ba,ih,and_assoc]
theorem ri{k:IntKind}{x:Int}{hs hs':yL ar}{C:yL Prop}{d:Dv}(h:fT k x hs=ab (C,d,hs'))(hc:ba C)(σ:Sg):yH σ d (.int k (k.wrap x)):=by
 unfold fT at h;split at h
 .cases h;rw[nh hc.1];exact ZC _ _
 .cases h;exact ZC _ _
 .cases h
theorem oP(n a:Nat)(h:a < 2 ^ n):(ycb n (a:Int)).toNat=a:=by
 rw[BitVec.ofInt_natCast,BitVec.toNat_ofNat];exact Nat.mod_eq_of_lt h
theorem ZCb{k:IntKind}{x:Int}(h:QW k x)(h0:0<=x):x.toNat < 2 ^ k.bits:=by
 obtain⟨h1,h2⟩:=h;cases k <;> simp only[IntKind.min,IntKind.max,IntKind.signed,IntKind.bits] at* <;> simp at* <;> omega
theorem uW{op:BinOp}{k:IntKind}{x y:Int}{r:Nat}(hr:uQ op x.toNat y.toNat=ab r)(hx:0<=x)(kx:QW k x)(hy:0<=y)(ky:QW k y)(kr:QW k (r:Int)):
 bits op k x y=(r:Int):=by
 obtain⟨a,rfl⟩:=Int.eq_ofNat_of_zero_le hx;obtain⟨b,rfl⟩:=Int.eq_ofNat_of_zero_le hy;have ha:=ZCb kx hx;have hb:=ZCb ky hy;simp only[Int.toNat_natCast]at ha hb hr;unfold uQ at hr;split at hr
 .cases hr;have e:bits .and k (a:Int) (b:Int)=k.wrap ((ycb k.bits (a:Int)&&&ycb k.bits (b:Int)).toNat:Int):=rfl;rw[e,BitVec.toNat_and,oP _ _ ha,oP _ _ hb];exact nh kr
 .cases hr;have e:bits .or k (a:Int) (b:Int)=k.wrap ((ycb k.bits (a:Int)|||ycb k.bits (b:Int)).toNat:Int):=rfl;rw[e,BitVec.toNat_or,oP _ _ ha,oP _ _ hb];exact nh kr
 .cases hr;have e:bits .xor k (a:Int) (b:Int)=k.wrap ((ycb k.bits (a:Int)^^^ycb k.bits (b:Int)).toNat:Int):=rfl;rw[e,BitVec.toNat_xor,oP _ _ ha,oP _ _ hb];exact nh kr
 .cases hr
theorem ZFw{P:yg}{op:BinOp}{k:IntKind}{x y:Int}{hs hs':yL ar}{C:yL Prop}{d:Dv}(h:Xz op k x y hs=ab (C,d,hs'))(hc:ba C)(σ:Sg)(t:yc):
 ∃v,(binOp op t (.int k x) (.int k y)).run P σ.w=.ok v σ.w/\yH σ d v:=by
 unfold Xz at h;split at h
 .exact⟨_,by rw[binOp_add];rfl,ri h hc σ⟩
 .exact⟨_,by rw[binOp_sub];rfl,ri h hc σ⟩
 .exact⟨_,by rw[binOp_mul];rfl,ri h hc σ⟩
 .split at h
  .cases h;obtain⟨h1,h2,h3,_⟩:=hc;have hy:y≠0:=by omega
   refine⟨_, ?_,ZC k (x / y)⟩;rw[binOp_quo];simp only[Op.intDiv,hy,if_false];rw[Int.tdiv_eq_ediv_of_nonneg h1,nh h3];rfl
  .cases h;have hy:y≠0:=hc.1;refine⟨_, ?_,ZC k _⟩;rw[binOp_quo];simp only[Op.intDiv,hy,if_false];rfl
  .cases h
 .split at h
  .cases h;obtain⟨h1,h2,_⟩:=hc;have hy:y≠0:=by omega
   refine⟨_, ?_,ZC k (x % y)⟩;rw[binOp_rem];simp only[Op.intDiv,hy,if_false];rw[Int.tmod_eq_emod_of_nonneg h1];rfl
  .cases h;have hy:y≠0:=hc.1;refine⟨_, ?_,ZC k _⟩;rw[binOp_rem];simp only[Op.intDiv,hy,if_false];rfl
  .cases h
 .split at h
  .simp only[yn,yz]at h;obtain⟨r,hr,rfl,rfl,rfl⟩:=h;obtain⟨h1,h2,h3,h4,h5,_⟩:=hc;refine⟨_, ?_,ZC k _⟩;rw[binOp_and,intBits_and,uW hr h1 h2 h3 h4 h5];rfl
  .cases h;exact⟨_,by rw[binOp_and,intBits_and];rfl,ZC k _⟩
  .cases h
 .split at h
  .simp only[yn,yz]at h;obtain⟨r,hr,rfl,rfl,rfl⟩:=h;obtain⟨h1,h2,h3,h4,h5,_⟩:=hc;refine⟨_, ?_,ZC k _⟩;rw[binOp_or,intBits_or,uW hr h1 h2 h3 h4 h5];rfl
  .cases h;exact⟨_,by rw[binOp_or,intBits_or];rfl,ZC k _⟩
  .cases h
 .split at h
  .simp only[yn,yz]at h;obtain⟨r,hr,rfl,rfl,rfl⟩:=h;obtain⟨h1,h2,h3,h4,h5,_⟩:=hc;refine⟨_, ?_,ZC k _⟩;rw[binOp_xor,intBits_xor,uW hr h1 h2 h3 h4 h5];rfl
  .cases h;exact⟨_,by rw[binOp_xor,intBits_xor];rfl,ZC k _⟩
  .cases h
 .split at h
  .cases h;exact⟨_,by rw[binOp_andNot,intBits_andNot];rfl,ZC k _⟩
  .cases h
 all_goals first
  |(cases h;done)
  |(cases h
    first
     |exact⟨_,by rw[binOp_eql];rfl,Yr _⟩
     |exact⟨_,by rw[binOp_neq];rfl,Yr _⟩
     |exact⟨_,by rw[binOp_lss];rfl,Yr _⟩
     |exact⟨_,by rw[binOp_leq];rfl,Yr _⟩
     |exact⟨_,by rw[binOp_gtr];rfl,Yr _⟩
     |exact⟨_,by rw[binOp_geq];rfl,Yr _⟩)
theorem ZBu{P:yg}{op:BinOp}{k yk:IntKind}{x y:Int}{hs hs':yL ar}{C:yL Prop}{d:Dv}(h:VQ op k x y hs=ab (C,d,hs'))(hc:ba C)(σ:Sg):
 ∃v,(Op.shift op k x yk y).run P σ.w=.ok v σ.w/\yH σ d v:=by
 unfold VQ at h;split at h
 .cases h;obtain⟨h1,h2,h3,_⟩:=hc;refine⟨_, ?_,ZC k _⟩;have hn:¬y < 0:=by omega
  simp only[Op.shift,hn,if_false];rw[ybc (Nat.le_of_lt h2),nh h3];rfl
 .cases h;refine⟨_, ?_,ZC k _⟩;have hn:¬y < 0:=by have:0<=y:=hc.1;omega
  simp only[Op.shift,hn,if_false];rfl
 .cases h;obtain⟨h1,h2,_⟩:=hc;refine⟨_, ?_,ZC k _⟩;have hn:¬y < 0:=by omega
  simp only[Op.shift,hn,if_false];rw[ybc h2,Int.fdiv_eq_ediv_of_nonneg _ (by exact Int.le_of_lt (Int.pow_pos (by decide)))];rfl
 .cases h;refine⟨_, ?_,ZC k _⟩;have hn:¬y < 0:=by have:0<=y:=hc.1;omega
  simp only[Op.shift,hn,if_false];rfl
 .cases h
mutual
theorem DS{w:World}{S:Nat->Nat->Prop}:∀(x:Pl)(vs:yL yh),aw w S x vs->∀u,u∈vs->u.oneCell'=af
 |.int _ _,_,h,u,hu=>by simp only[aw]at h;subst h;cases yas.1 hu;rfl
 |.bool _,_,h,u,hu=>by simp only[aw]at h;subst h;cases yas.1 hu;rfl
 |.str _,_,h,u,hu=>by simp only[aw]at h;subst h;cases yas.1 hu;rfl
 |.bE,_,h,u,hu=>by simp only[aw]at h;subst h;cases yas.1 hu;rfl
 |.fn0,_,h,u,hu=>by simp only[aw]at h;subst h;cases yas.1 hu;rfl
 |.dE,_,h,u,hu=>by simp only[aw]at h;subst h;cases yas.1 hu;rfl
 |.bU,_,h,u,hu=>by simp only[aw]at h;subst h;cases yas.1 hu;rfl
 |.fS _,_,h,u,hu=>by simp only[aw]at h;subst h;cases yas.1 hu;rfl
 |.agg xs,vs,h,u,hu=>by
  simp only[aw]at h
  exact cf xs vs h u hu
 |.arr n s xs,vs,h,u,hu=>by
  simp only[aw]at h
  exact cf xs vs h.2.2 u hu
 |.sl _ _ _,_,h,u,hu=>by
  simp only[aw]at h;obtain⟨_,A,c,h,_⟩:=h
  subst h;cases yas.1 hu;rfl
 |.iface _ _,_,h,u,hu=>by
  simp only[aw]at h;obtain⟨v,h,_⟩:=h;subst h;cases yas.1 hu;rfl
theorem cf{w:World}{S:Nat->Nat->Prop}:∀(xs:yL Pl)(vs:yL yh),aq w S xs vs->∀u,u∈vs->u.oneCell'=af
 |[],_,h,u,hu=>by simp only[aq]at h;subst h;cases hu
 |x::xs,vs,h,u,hu=>by
  simp only[aq]at h;obtain⟨us,us',rfl,h1,h2⟩:=h;rcases List.mem_append.1 hu with h3|h3
  .exact DS x us h1 u h3
  .exact cf xs us' h2 u h3
end
mutual
theorem Vf{σ:Sg}:∀(d:Dv)(vs:yL yh),yG σ d vs->vs.length=d.size
 |.p x,vs,h=>by simp only[yG]at h;exact Ve x vs h
 |.elem _,_,h=>by simp only[yG]at h;obtain⟨b,o,us,rfl,_⟩:=h;rfl
 |.am _ _ _,_,h=>by simp only[yG]at h;obtain⟨b,_,_,rfl⟩:=h;rfl
 |.own _ _ _ _,_,h=>by simp only[yG]at h;obtain⟨_,A,c,rfl,_⟩:=h;rfl
 |.view _ _ _ _ _ _,_,h=>by simp only[yG]at h;obtain⟨b,c,a,_,_,rfl,_⟩:=h;rfl
 |.agg xs,vs,h=>by simp only[yG]at h;simpa[Dv.size] using cP xs vs h
 |.arr n s xs,vs,h=>by
  simp only[yG]at h;obtain⟨h1,h2,h3⟩:=h;rw[cP xs vs h3,Dv.size, <-h1]
  exact cQ h2
 |.fn _ _,_,h=>by simp only[yG]at h;obtain⟨fs,cs,rfl,_⟩:=h;rfl
 |.iface _ _,_,h=>by simp only[yG]at h;obtain⟨cs,rfl,_⟩:=h;rfl
 |.bi _,_,h=>by simp only[yG]at h;obtain⟨cs,rfl,_⟩:=h;rfl
 |.mp _,_,h=>by simp only[yG]at h;obtain⟨b,_,_,rfl⟩:=h;rfl
 |.rv _ _ _ _ _,_,h=>by simp only[yG]at h;obtain⟨A,c,rfl,_⟩:=h;rfl
 |.aZ _ _ _ _,_,h=>by simp only[yG]at h;obtain⟨b,o,rfl,_⟩:=h;rfl
 |.aA,_,h=>by simpa[yG,Dv.size] using h
theorem cP{σ:Sg}:∀(ds:yL Dv)(vs:yL yh),aI σ ds vs->vs.length=Dv.sizes ds
 |[],_,h=>by simp only[aI]at h;subst h;rfl
 |x::xs,vs,h=>by
  simp only[aI]at h;obtain⟨us,us',rfl,h1,h2⟩:=h;rw[yl,Vf x us h1,cP xs us' h2,Dv.sizes]
theorem cQ{s:Nat}:∀{xs:yL Dv},(∀x,x∈xs->x.size=s)->Dv.sizes xs=xs.length*s
 |[],_=>by simp[Dv.sizes]
 |x::xs,h=>by
  rw[Dv.sizes,h x (yax ..),cQ (λy hy=>h y (yaz _ hy)),yam,yau];omega
end
theorem kL{w:World}{S:Nat->Nat->Prop}{xs:yL Pl}{us:yL yh}{i:Nat}{y:Pl}(h:aq w S xs us)(hy:xs[i]? =ab y):
 ∃a b c,us=a++(b++c)/\a.length=Pl.sizes (xs.take i)/\aw w S y b/\b.length=y.size/\aq w S (xs.take i) a/\aq w S (xs.drop (i+1)) c:=by
 have hi:i < xs.length:=(yo.1 hy).1
 have hx:xs=xs.take i++(y::xs.drop (i+1)):=by
  rw[<-(yo.1 hy).2,List.getElem_cons_drop,ybd]
 rw[hx]at h;obtain⟨a,r,rfl,h1,h2⟩:=Yh h;simp only[aq]at h2;obtain⟨b,c,rfl,h3,h4⟩:=h2;exact⟨a,b,c,rfl,aL _ _ h1,h3,Ve _ _ h3,h1,h4⟩
theorem rj{σ:Sg}{xs ys:yL Dv}{us vs:yL yh}(h:aI σ xs us)(k:aI σ ys vs):aI σ (xs++ys) (us++vs):=by
 induction xs generalizing us with
 |nil=>simp only[aI]at h;subst h;simpa using k
 |cons x xs ih=>
  simp only[aI]at h;obtain⟨a,b,rfl,h1,h2⟩:=h;simp only[yae,aI,yad];exact⟨a,b++vs,rfl,h1,ih h2⟩
theorem ZFx{σ:Sg}{xs ys:yL Dv}{us:yL yh}(h:aI σ (xs++ys) us):∃a b,us=a++b/\aI σ xs a/\aI σ ys b:=by
 induction xs generalizing us with
 |nil=>exact⟨[],us,rfl,by simp[aI],h⟩
 |cons x xs ih=>
  simp only[yae,aI]at h;obtain⟨a,b,rfl,h1,h2⟩:=h;obtain⟨c,d,rfl,h3,h4⟩:=ih h2;exact⟨a++c,d,by simp,by simp only[aI];exact⟨a,c,rfl,h1,h3⟩,h4⟩
theorem ni{σ:Sg}{xs:yL Dv}{us:yL yh}{i:Nat}{y:Dv}(h:aI σ xs us)(hy:xs[i]? =ab y):
 ∃a b c,us=a++(b++c)/\a.length=Dv.sizes (xs.take i)/\yG σ y b/\b.length=y.size/\aI σ (xs.take i) a/\aI σ (xs.drop (i+1)) c:=by
 have hx:xs=xs.take i++(y::xs.drop (i+1)):=by
  rw[<-(yo.1 hy).2,List.getElem_cons_drop,ybd]
 rw[hx]at h;obtain⟨a,r,rfl,h1,h2⟩:=ZFx h;simp only[aI]at h2;obtain⟨b,c,rfl,h3,h4⟩:=h2;exact⟨a,b,c,rfl,cP _ _ h1,h3,Vf _ _ h3,h1,h4⟩
theorem nj{σ:Sg}:∀{xs:yL Pl}{us:yL yh},aI σ (xs.map .p) us↔aq σ.w σ.aU xs us
 |[],us=>by simp[aI,aq]
 |x::xs,us=>by
  simp only[yag,aI,aq,yG];constructor
  .rintro⟨a,b,rfl,h1,h2⟩;exact⟨a,b,rfl,h1,nj.1 h2⟩
  .rintro⟨a,b,rfl,h1,h2⟩;exact⟨a,b,rfl,h1,nj.2 h2⟩
theorem Zy1{P:yg}{t:yc}(h:(P.underlying t).isSome=af)(w:World):(isAgg t).run P w=.ok (WS P t) w:=by
 cases hu:P.underlying t with
 |none=>simp[hu]at h
 |some d=>
  unfold isAgg WS;rw[Sem.run_bind,run_underlying hu w];cases d <;> simp[hu]
theorem Z6{P:yg}{t:yc}(h:(P.info? t).isSome=af)(w:World):(sizeOf t).run P w=.ok (P.cellsOf t) w:=by
 cases hi:P.info? t with
 |none=>simp[hi]at h
 |some i=>simp[sizeOf,typeInfo,hi,Program.cellsOf]
theorem kM{P:yg}{σ:Sg}{t:yc}{d:Dv}{cs:Array yh}{a b c:yL yh}(hcs:cs.toList=a++(b++c))(hr:yG σ d b)(hs:P.cellsOf t=d.size)(hi:(P.info? t).isSome=af)
 (hu:(P.underlying t).isSome=af) (ha:WS P t=d.isAgg) (hn:d.size≠0):∃v,(part t cs a.length).run P σ.w=.ok v σ.w/\yH σ d v:=by
 have hb:b.length=d.size:=Vf _ _ hr;unfold part;simp only[Sem.run_bind,Zy1 hu,Result.andThen_ok]
 cases hagg:d.isAgg with
 |true=>
  rw[ha,hagg];simp only[if_true,Sem.run_bind,Z6 hi,Result.andThen_ok,Sem.run_pure];refine⟨_,rfl, ?_⟩;rw[Ye hagg];refine⟨_,rfl, ?_⟩
  have:(cs.extract a.length (a.length+P.cellsOf t)).toList=b:=by
   rw[Array.toList_extract,hcs,hs, <-hb,List.extract_eq_take_drop];simp
  rw[this]
  exact hr
 |false=>
  rw[ha,hagg];simp only[Bool.false_eq_true,if_false]
  have h1:d.size=1:=by
   cases d with
   |p x=>cases x <;> first|rfl|(simp[Dv.isAgg,Pl.isAgg]at hagg)
   |agg _=>simp[Dv.isAgg]at hagg
   |arr _ _ _=>simp[Dv.isAgg]at hagg
   |_=>rfl
  rw[h1]at hb
  obtain⟨v,rfl⟩:∃v,b=[v]:=by
   match b,hb with
   |[v],_=>exact⟨v,rfl⟩
  have hv:cs[a.length]? =ab v:=by
   rw[<-ycf,hcs];simp
  rw[hv];exact⟨v,rfl,(Zi hagg).2 hr⟩
theorem ZBv{P:yg}{σ:Sg}{t:yc}{x d:Dv}{i:Nat}{v:yh}(h:iM P t x i=ab d)(hr:yH σ x v):
 ∃u,(Instr.field t v i).run P σ.w=.ok u σ.w/\yH σ d u:=by
 unfold iM at h;split at h
 .rename_i fs xs hu;split at h
  .rename_i y hy;split at h
   .rename_i hok;cases h;unfold lL at hok;split at hok
    .rename_i f hf;simp only[yi,yT,yE]at hok;obtain⟨⟨⟨⟨⟨h1,h2⟩,h3⟩,h4⟩,h5⟩,h6⟩:=hok;rw[Ye rfl]at hr;obtain⟨cs,rfl,hr⟩:=hr;simp only[yG,aw]at hr;obtain⟨a,b,c,e,ha,hb,_⟩:=kL hr hy;obtain⟨u,hu1,hu2⟩:=kM (P:=P) (σ:=σ) (t:=f.type) (d:=.p y) e (by simpa[yG] using hb) h2 h3 h5 h4 h6;refine⟨u, ?_,hu2⟩;rw[ha, <-h1]at hu1;simp[Instr.field,run_underlying hu,hf,asAgg,hu1]
    .cases hok
   .cases h
  .cases h
 .rename_i fs xs hu;split at h
  .rename_i y hy;split at h
   .rename_i hok;cases h;unfold lL at hok;split at hok
    .rename_i f hf;simp only[yi,yT,yE]at hok;obtain⟨⟨⟨⟨⟨h1,h2⟩,h3⟩,h4⟩,h5⟩,h6⟩:=hok;rw[Ye rfl]at hr;obtain⟨cs,rfl,hr⟩:=hr;simp only[yG]at hr;obtain⟨a,b,c,e,ha,hb,_⟩:=ni hr hy;obtain⟨u,hu1,hu2⟩:=kM (P:=P) (σ:=σ) (t:=f.type) (d:=d) e hb h2 h3 h5 h4 h6;refine⟨u, ?_,hu2⟩;rw[ha, <-h1]at hu1;simp[Instr.field,run_underlying hu,hf,asAgg,hu1]
    .cases hok
   .cases h
  .cases h
 .cases h
theorem Addr.bw(b o n:Nat):(⟨b,o,ae⟩:Addr).add n=⟨b,o+n,ae⟩:=Addr.add_lit b o n
theorem uX{w:World}{S:Nat->Nat->Prop}{s:Nat}{xs:yL Pl}{us:yL yh}{b o i:Nat}{y:Pl}(hs:aR s xs)(hr:aq w S xs us)(hc:VJ w S b o us)(hy:xs[i]? =ab y):
 ∃uy,aw w S y uy/\VJ w S b (o+i*s) uy:=by
 obtain⟨a,uy,c,rfl,ha,hb,_⟩:=kL hr hy;have hi:i < xs.length:=(yo.1 hy).1
 have hl:a.length=i*s:=by
  rw[ha,aM (QY hs i),yx,ybc (Nat.le_of_lt hi)]
 refine⟨uy,hb, ?_⟩;have h2:=(VJ.append (VJ.append hc).2).1
 rwa [hl]at h2
theorem uZ{P:yg}{σ:Sg}{t:yc}{d:Dv}{b o:Nat}{us:yL yh}(hr:yG σ d us)(hc:∀(j:Nat)(u:yh),us[j]? =ab u->σ.w.cell? ⟨b,o+j,ae⟩=ab u)(hs:P.cellsOf t=d.size)
 (hi:(P.info? t).isSome=af) (hu:(P.underlying t).isSome=af) (ha:WS P t=d.isAgg):∃v,(loadVar t ⟨b,o,ae⟩).run P σ.w=.ok v σ.w/\yH σ d v:=by
 have hb:us.length=d.size:=Vf _ _ hr;unfold loadVar;simp only[Sem.run_bind,Zy1 hu,Result.andThen_ok]
 cases hagg:d.isAgg with
 |true=>
  rw[ha,hagg];have hl:=run_loadCells_list (P:=P) σ.w ⟨b,o,ae⟩ us (λj u hu=>by rw[Addr.bw];exact hc j u hu);rw[hb, <-hs]at hl;simp only[if_true,Sem.run_bind,Z6 hi,Result.andThen_ok,hl,Sem.run_pure]
  exact⟨_,rfl,(Ye hagg).2 ⟨_,rfl,by simpa using hr⟩⟩
 |false=>
  rw[ha,hagg];simp only[Bool.false_eq_true,if_false]
  have h1:d.size=1:=by
   cases d with
   |p x=>cases x <;> first|rfl|(simp[Dv.isAgg,Pl.isAgg]at hagg)
   |agg _=>simp[Dv.isAgg]at hagg
   |arr _ _ _=>simp[Dv.isAgg]at hagg
   |_=>rfl
  rw[h1]at hb
  obtain⟨v,rfl⟩:∃v,us=[v]:=by
   match us,hb with
   |[v],_=>exact⟨v,rfl⟩
  have:=hc 0 v rfl;simp only[ybu]at this;rw[run_load,this];exact⟨v,rfl,(Zi hagg).2 hr⟩
mutual
theorem kN{f:Nat->yO Nat}:∀(d d':Dv),d.rn f=ab d'->d'.size=d.size/\d'.isAgg=d.isAgg
 |.p x,d',h=>by simp only[Dv.rn,yp]at h;subst h;exact⟨rfl,rfl⟩
 |.elem x,d',h=>by simp only[Dv.rn,yp]at h;subst h;exact⟨rfl,rfl⟩
 |.am id off yM,d',h=>by simp only[Dv.rn,yn]at h;obtain⟨i,_,rfl⟩:=h;exact⟨rfl,rfl⟩
 |.own id nn s xs,d',h=>by simp only[Dv.rn,yn]at h;obtain⟨i,_,rfl⟩:=h;exact⟨rfl,rfl⟩
 |.view id off yM s lo n,d',h=>by simp only[Dv.rn,yn]at h;obtain⟨i,_,rfl⟩:=h;exact⟨rfl,rfl⟩
 |.agg xs,d',h=>by
  simp only[Dv.rn,yn]at h;obtain⟨ys,h1,rfl⟩:=h
  exact⟨by simp only[Dv.size];exact fx xs ys h1,rfl⟩
 |.arr n s xs,d',h=>by simp only[Dv.rn,yn]at h;obtain⟨ys,_,rfl⟩:=h;exact⟨rfl,rfl⟩
 |.fn g cap,d',h=>by simp only[Dv.rn,yn]at h;obtain⟨ys,_,rfl⟩:=h;exact⟨rfl,rfl⟩
 |.iface t x,d',h=>by simp only[Dv.rn,yn]at h;obtain⟨ys,_,rfl⟩:=h;exact⟨rfl,rfl⟩
 |.bi xs,d',h=>by simp only[Dv.rn,yn]at h;obtain⟨ys,_,rfl⟩:=h;exact⟨rfl,rfl⟩
 |.mp id,d',h=>by simp only[Dv.rn,yn]at h;obtain⟨ys,_,rfl⟩:=h;exact⟨rfl,rfl⟩
 |.rv id _ _ _ _,d',h=>by simp only[Dv.rn,yn]at h;obtain⟨ys,_,rfl⟩:=h;exact⟨rfl,rfl⟩
 |.aZ id _ _ _,d',h=>by simp only[Dv.rn,yn]at h;obtain⟨ys,_,rfl⟩:=h;exact⟨rfl,rfl⟩
 |.aA,d',h=>by simp only[Dv.rn,yp]at h;subst h;exact⟨rfl,rfl⟩
theorem fx{f:Nat->yO Nat}:∀(ds ds':yL Dv),Dv.bt f ds=ab ds'->Dv.sizes ds'=Dv.sizes ds
 |[],ds',h=>by simp only[Dv.bt,yp]at h;subst h;rfl
 |x::r,ds',h=>by
  simp only[Dv.bt]at h;split at h
  .rename_i y ys h1 h2;cases h;simp only[Dv.sizes];rw[(kN x y h1).1,fx r ys h2]
  .cases h
end
theorem DT{f:Nat->yO Nat}:∀{ds ds':yL Dv},Dv.bt f ds=ab ds'->ds'.length=ds.length
 |[],ds',h=>by simp only[Dv.bt,yp]at h;subst h;rfl
 |x::r,ds',h=>by
  simp only[Dv.bt]at h;split at h
  .rename_i y ys h1 h2;cases h;simp[DT h2]
  .cases h
theorem ZJB{f:Nat->yO Nat}{s:Nat}:∀{ds ds':yL Dv},Dv.bt f ds=ab ds'->(∀x,x∈ds->x.size=s)->∀x,x∈ds'->x.size=s
 |[],ds',h,_=>by simp only[Dv.bt,yp]at h;subst h;intro x hx;cases hx
 |x::r,ds',h,ha=>by
  simp only[Dv.bt]at h;split at h
  .rename_i y ys h1 h2;cases h;intro z hz
   cases hz with
   |head=>rw[(kN x y h1).1];exact ha x (yax ..)
   |tail _ hz=>exact ZJB h2 (λw hw=>ha w (yaz _ hw)) z hz
  .cases h
structure Rn(f:Nat->Option Nat)(σ σ':Sg):Prop where
 w:σ'.w=σ.w
 aU:∀(b o:Nat)(v:yh),σ.w.cell? ⟨b,o,ae⟩=ab v->σ.aU b o->σ'.aU b o
 m:∀(id id':Nat),f id=ab id'->∀(a:Option Nat),σ.m[id]? =ab a->σ'.m[id']? =ab a
 H:∀(id id':Nat),f id=ab id'->∀(e:ay),σ.H[id]? =ab e->∃e',σ'.H[id']? =ab e'/\e.rn f=ab e'
theorem Rn.cells{f:Nat->yO Nat}{σ σ':Sg}(h:Rn f σ σ'):∀(b o:Nat)(v:yh),σ.w.cell? ⟨b,o,ae⟩=ab v->σ.aU b o->σ'.w.cell? ⟨b,o,ae⟩=ab v/\σ'.aU b o:=
 λb o v h1 h2=>⟨by rw[h.w];exact h1,h.aU b o v h1 h2⟩
theorem Rn.var{f:Nat->yO Nat}{σ σ':Sg}(h:Rn f σ σ'){id id':Nat}(hf:f id=ab id')(hv:∃d st,σ.H[id]? =ab (.var d st)):∃d st,σ'.H[id']? =ab (.var d st):=by
 obtain⟨d,st,hv⟩:=hv;obtain⟨e',h1,h2⟩:=h.H id id' hf _ hv;simp only[ay.rn,yn]at h2;obtain⟨d',_,rfl⟩:=h2;exact⟨d',st,h1⟩
theorem Rn.map{f:Nat->yO Nat}{σ σ':Sg}(h:Rn f σ σ'){id id':Nat}(hf:f id=ab id')(hv:∃t bu,σ.H[id]? =ab (.map t bu)):∃t bu,σ'.H[id']? =ab (.map t bu):=by
 obtain⟨d,st,hv⟩:=hv;obtain⟨e',h1,h2⟩:=h.H id id' hf _ hv;simp only[ay.rn,yp]at h2;subst h2;exact⟨d,st,h1⟩
theorem Rn.front{f:Nat->yO Nat}{σ σ':Sg}(h:Rn f σ σ'){id id' s len c:Nat}{A:yO Addr}(hf:f id=ab id')(hv:cL σ id s len A c):cL σ' id' s len A c:=by
 obtain⟨e,ys,h1,h2,h3⟩:=hv;obtain⟨e',h4,h5⟩:=h.H id id' hf _ h1;simp only[ay.rn,yp]at h5;subst h5;refine⟨e,ys,h4,h2,λhl=> ?_⟩;rcases h3 hl with⟨h6,h7⟩|⟨b,cur,h6,h7,h8,h9⟩
 .exact .inl ⟨h.m _ _ hf _ h6,h7⟩
 .exact .inr ⟨b,cur,h.m _ _ hf _ h6,h7,by rw[h.w];exact h8,h9⟩
theorem Rn.row{f:Nat->yO Nat}{σ σ':Sg}(h:Rn f σ σ'){id id' v s:Nat}{st:Bool}{e:yc}{d:Dv}(hf:f id=ab id')(hv:σ.H[id]? =ab (.row v s st e d)):∃d',σ'.H[id']? =ab (.row v s st e d'):=by
 obtain⟨e',h1,h2⟩:=h.H id id' hf _ hv;simp only[ay.rn,yn]at h2;obtain⟨d',_,rfl⟩:=h2;exact⟨d',h1⟩
theorem Rn.rowAt{f:Nat->yO Nat}{σ σ':Sg}(h:Rn f σ σ'){id id' v s lo c:Nat}{A:yO Addr}(hf:f id=ab id')(hv:rowAt σ id v s lo A c):rowAt σ' id' v s lo A c:=by
 obtain⟨v',s',st,e,d,h1,h2,h3⟩:=hv;obtain⟨d',h4⟩:=h.row hf h1;refine⟨v',s',st,e,d',h4,h2,λhv=> ?_⟩;obtain⟨h5,h6⟩:=h3 hv;refine⟨h5, ?_⟩;rcases h6 with⟨h7,h8⟩|⟨b,cur,h7,h8,h9⟩
 .exact .inl ⟨h.m _ _ hf _ h7,h8⟩
 .exact .inr ⟨b,cur,h.m _ _ hf _ h7,by rw[h.w];exact h8,h9⟩
theorem Rn.rowIs{f:Nat->yO Nat}{σ σ':Sg}(h:Rn f σ σ'){id id' v b o off:Nat}(hf:f id=ab id')(hv:rowIs σ id v b o off):rowIs σ' id' v b o off:=by
 obtain⟨v',s',st,e,d,h1,h2,h3⟩:=hv;obtain⟨d',h4⟩:=h.row hf h1;exact⟨v',s',st,e,d',h4,h2,λhv=>⟨h.m _ _ hf _ (h3 hv).1,(h3 hv).2⟩⟩
mutual
theorem kO{f:Nat->yO Nat}{σ σ':Sg}(h:Rn f σ σ'):∀(d d':Dv)(vs:yL yh),d.rn f=ab d'->yG σ d vs->yG σ' d' vs
 |.p x,d',vs,hd,hr=>by
  simp only[Dv.rn,yp]at hd;subst hd;simp only[yG]at hr ⊢
  exact jS h.cells x vs hr
 |.elem x,d',vs,hd,hr=>by
  simp only[Dv.rn,yp]at hd;subst hd;simp only[yG]at hr ⊢;obtain⟨b,o,us,h1,h2,h3⟩:=hr
  exact⟨b,o,us,h1,jS h.cells x us h2,h3.mono h.cells⟩
 |.am id off yM,d',vs,hd,hr=>by
  simp only[Dv.rn,yn]at hd;obtain⟨i,hf,rfl⟩:=hd;simp only[yG]at hr ⊢;obtain⟨b,h1,h2,h3⟩:=hr
  exact⟨b,h.m _ _ hf _ h1,h.var hf h2,h3⟩
 |.own id nn s xs,d',vs,hd,hr=>by
  simp only[Dv.rn,yn]at hd;obtain⟨i,hf,rfl⟩:=hd;simp only[yG]at hr ⊢;obtain⟨h1,A,c,h2,h3,h4,h5,h6,h7,h8⟩:=hr;refine⟨h1,A,c,h2,h3,h4,h5,h6,λhne=> ?_,h.front hf h8⟩;obtain⟨b,o,us,e1,e2,e3⟩:=h7 hne
  exact⟨b,o,us,e1,aD h.cells xs us e2,e3.mono h.cells⟩
 |.view id off yM s lo n,d',vs,hd,hr=>by
  simp only[Dv.rn,yn]at hd;obtain⟨i,hf,rfl⟩:=hd;simp only[yG]at hr ⊢;obtain⟨b,c,a,h1,h2,h3⟩:=hr
  exact⟨b,c,a,h.m _ _ hf _ h1,h.var hf h2,h3⟩
 |.agg xs,d',vs,hd,hr=>by
  simp only[Dv.rn,yn]at hd;obtain⟨ys,hf,rfl⟩:=hd;simp only[yG]at hr ⊢
  exact eR h xs ys vs hf hr
 |.arr n s xs,d',vs,hd,hr=>by
  simp only[Dv.rn,yn]at hd;obtain⟨ys,hf,rfl⟩:=hd;simp only[yG]at hr ⊢
  exact⟨by rw[DT hf];exact hr.1,ZJB hf hr.2.1,eR h xs ys vs hf hr.2.2⟩
 |.fn g cap,d',vs,hd,hr=>by
  simp only[Dv.rn,yn]at hd;obtain⟨ys,hf,rfl⟩:=hd;simp only[yG]at hr ⊢;obtain⟨fs,cs,h1,h0,h2⟩:=hr
  exact⟨fs,cs,h1,h0,df h cap ys _ hf h2⟩
 |.iface t x,d',vs,hd,hr=>by
  simp only[Dv.rn,yn]at hd;obtain⟨y,hf,rfl⟩:=hd;simp only[yG]at hr ⊢;obtain⟨v,h1,h2,h3⟩:=hr;refine⟨v,h1,λha=> ?_,λha=>kO h x y _ hf (h3 (by rw[<-(kN x y hf).2];exact ha))⟩;obtain⟨cs,e1,e2⟩:=h2 (by rw[<-(kN x y hf).2];exact ha)
  exact⟨cs,e1,kO h x y _ hf e2⟩
 |.bi xs,d',vs,hd,hr=>by
  simp only[Dv.rn,yn]at hd;obtain⟨ys,hf,rfl⟩:=hd;simp only[yG]at hr ⊢;obtain⟨cs,h1,h2⟩:=hr
  exact⟨cs,h1,df h xs ys _ hf h2⟩
 |.mp id,d',vs,hd,hr=>by
  simp only[Dv.rn,yn]at hd;obtain⟨i,hf,rfl⟩:=hd;simp only[yG]at hr ⊢;obtain⟨b,h1,h2,h3⟩:=hr
  exact⟨b,h.m _ _ hf _ h1,h.map hf h2,h3⟩
 |.rv id v s lo n,d',vs,hd,hr=>by
  simp only[Dv.rn,yn]at hd;obtain⟨i,hf,rfl⟩:=hd;simp only[yG]at hr ⊢;obtain⟨A,c,h1,h2,h3,h4,h5,h6⟩:=hr
  exact⟨A,c,h1,h2,h3,h4,h5,h.rowAt hf h6⟩
 |.aZ id v off yM,d',vs,hd,hr=>by
  simp only[Dv.rn,yn]at hd;obtain⟨i,hf,rfl⟩:=hd;simp only[yG]at hr ⊢;obtain⟨b,o,h1,h2⟩:=hr
  exact⟨b,o,h1,h.rowIs hf h2⟩
 |.aA,d',vs,hd,hr=>by
  simp only[Dv.rn,yp]at hd;subst hd;simpa[yG] using hr
theorem eR{f:Nat->yO Nat}{σ σ':Sg}(h:Rn f σ σ'):∀(ds ds':yL Dv)(vs:yL yh),Dv.bt f ds=ab ds'->aI σ ds vs->aI σ' ds' vs
 |[],ds',vs,hd,hr=>by
  simp only[Dv.bt,yp]at hd;subst hd
  simpa[aI] using hr
 |x::xs,ds',vs,hd,hr=>by
  simp only[Dv.bt]at hd;split at hd
  .rename_i y ys h1 h2;cases hd;simp only[aI]at hr ⊢;obtain⟨us,us',h3,h4,h5⟩:=hr;exact⟨us,us',h3,kO h x y us h1 h4,eR h xs ys us' h2 h5⟩
  .cases hd
theorem df{f:Nat->yO Nat}{σ σ':Sg}(h:Rn f σ σ'):∀(ds ds':yL Dv)(vs:yL yh),Dv.bt f ds=ab ds'->aC σ ds vs->aC σ' ds' vs
 |[],ds',vs,hd,hr=>by
  simp only[Dv.bt,yp]at hd;subst hd
  simpa[aC] using hr
 |x::xs,ds',vs,hd,hr=>by
  simp only[Dv.bt]at hd;split at hd
  .rename_i y ys h1 h2;cases hd;simp only[aC]at hr ⊢;obtain⟨v,vs',h3,⟨h4,h5⟩,h6⟩:=hr;refine⟨v,vs',h3,⟨λha=> ?_,λha=>kO h x y _ h1 (h5 (by rw[<-(kN x y h1).2];exact ha))⟩,df h xs ys vs' h2 h6⟩;obtain⟨cs,e1,e2⟩:=h4 (by rw[<-(kN x y h1).2];exact ha);exact⟨cs,e1,kO h x y _ h1 e2⟩
  .cases hd
end
theorem nk{f:Nat->yO Nat}{σ σ':Sg}(h:Rn f σ σ'){d d':Dv}{v:yh}(hd:d.rn f=ab d')(hr:yH σ d v):yH σ' d' v:=by
 obtain⟨h4,h5⟩:=hr;refine⟨λha=> ?_,λha=>kO h d d' _ hd (h5 (by rw[<-(kN d d' hd).2];exact ha))⟩;obtain⟨cs,e1,e2⟩:=h4 (by rw[<-(kN d d' hd).2];exact ha);exact⟨cs,e1,kO h d d' _ hd e2⟩
theorem Qd{w:World}{b o:Nat}{v:yh}(h:w.cell? ⟨b,o,ae⟩=ab v):b < w.heap.size:=World.block_lt_of_cell? w ⟨b,o,ae⟩ h
theorem Zy2{σ σ':Sg}(h:cu σ σ'):∀(l:yL (Pl×Pl))(es:yL MapEntry),gr σ l es->gr σ' l es
 |[],[],_=>trivial
 |[],_::_,k=>k.elim
 |_::_,[],k=>k.elim
 |q::r,e::es,k=>⟨mT h k.1,mT h k.2.1,Zy2 h r es k.2.2⟩
theorem Zy3{σ σ':Sg}(h:cu σ σ'){l:yL (Pl×Pl)}{es:yL MapEntry}(k:il σ l es):il σ' l es:=by
 obtain⟨l',p,nd,k⟩:=k;exact⟨l',p,nd,Zy2 h _ _ k⟩
theorem oQ{σ σ':Sg}(h:cu σ σ'){a:yO Nat}{e:ay}(hb:∀b,a=ab b->σ'.w.heap[b]? =σ.w.heap[b]?)(he:dc σ a e):dc σ' a e:=by
 cases e with
 |var d st=>
  obtain⟨b,cs,t,rfl,h1,h2,h3⟩:=he
  exact⟨b,cs,t,rfl,(hb b rfl).trans h1,Yi h d _ h2,h3⟩
 |log s e xs=>
  rcases he with⟨rfl,h1⟩|⟨b,cur,cap,rfl,h1,h2,h3,h4,h5,h6⟩
  .exact .inl ⟨rfl,h1⟩
  .exact .inr ⟨b,cur,cap,rfl,(hb b rfl).trans h1,h2,h3,h4,h5,aD h.cells xs _ h6⟩
 |map t bu=>
  obtain⟨b,es,clock,rfl,h1,h2,h3⟩:=he
  exact⟨b,es,clock,rfl,(hb b rfl).trans h1,Zy3 h h2,h3⟩
 |row v s st e d=>
  obtain⟨N,h0,h1⟩:=he;refine⟨N,h0, ?_⟩;rcases h1 with h1|⟨b,cur,cap,rfl,h1,h2,h3,h4,h5⟩
  .exact .inl h1
  .exact .inr ⟨b,cur,cap,rfl,(hb b rfl).trans h1,h2,h3,h4,Yi h d _ h5⟩
 |gone=>exact he
theorem va{σ:Sg}(ok:Ok σ){w':World}(hg:σ.w.grownBy w' ae):To σ { σ with w:=w'}/\Ok { σ with w:=w'}:=by
 have hb:∀b,b < σ.w.heap.size->w'.heap[b]? =σ.w.heap[b]? :=λb hb=>hg.block b hb (by simp);have hm:∀(id b:Nat),σ.m[id]? =ab (ab b)->w'.heap[b]? =σ.w.heap[b]? :=λid b h=>hb b (ok.lt id b h)
 have leaf:cu σ { σ with w:=w'}:=by
  refine⟨λb o v h1 h2=>⟨?_,h2⟩,λid b h1 h2=>⟨h1,h2⟩,λid s len A c h1=> ?_,λid b h1 h2=>⟨h1,h2⟩,λid v s st e d h=>⟨v,st,d,h,yj _,λ_=>⟨rfl,λb cur hb hc=>⟨cur,(hm id b hb).trans hc,rfl⟩⟩⟩⟩
  .show w'.cell? ⟨b,o,ae⟩=ab v;rw[World.cell?_of_block (w:=σ.w) (hb b (Qd h1))];exact h1
  .obtain⟨e,ys,h2,h3,h4⟩:=h1;refine⟨e,ys,h2,h3,λhl=> ?_⟩;rcases h4 hl with h5|⟨b,cur,h5,h6,h7,h8⟩
   .exact .inl h5
   .exact .inr ⟨b,cur,h5,h6,(hm id b h5).trans h7,h8⟩
 refine⟨⟨leaf,rfl,rfl,hg.os,hg.tape,hg.output,hg.size,λb h1 _=>hb b h1,λid b h=>.inl h,yj _⟩,⟨ok.len,ok.inj,λi b h=>Nat.lt_of_lt_of_le (ok.lt i b h) hg.size,λi e a h1 h2=> ?_,λb h=>ok.new b (ybk hg.size h),ok.own⟩⟩;exact oQ leaf (λb hb=>hm i b (by rw[h2,hb])) (ok.cY i e a h1 h2)
theorem ZFy{σ:Sg}(ok:Ok σ){b o:Nat}(h:σ.B b)(hn:∀(id:Nat),σ.m[id]? ≠ab (ab b)):σ.aU b o:=
 ⟨.inr h,λid _ he _=>absurd he (hn id)⟩
def XE(P:yg)(o:Oper)(a:Act)(σ:Sg)(d:Dv)(H':yL ay):Prop:=
 ∀(K:Act->World->Prop)(Q:Exit->Act->World->Prop),(∀v σ',σ'.H=H'->To σ σ'->Ok σ'->yH σ' d v->K (a.put o.dst v) σ'.w)->o.wp P a σ.w K Q
theorem Zl{P:yg}{o:Oper}{a:Act}{σ:Sg}{d:Dv}{v:yh}(ok:Ok σ)(hr:(execOp a.eval o).run P σ.w=.ok (.value v) σ.w)(hd:yH σ d v):XE P o a σ d σ.H:=by
 intro K Q h;unfold Oper.wp;rw[hr];exact h v σ rfl (To.refl σ) ok hd
theorem ZP{P:yg}{o:Oper}{a:Act}{σ σ':Sg}{d:Dv}{v:yh}(hr:(execOp a.eval o).run P σ.w=.ok (.value v) σ'.w)(to:To σ σ')(ok:Ok σ')(hd:yH σ' d v):XE P o a σ d σ'.H:=by
 intro K Q h;unfold Oper.wp;rw[hr];exact h v σ' rfl to ok hd
structure bJ(x y:Pl):Prop where
 size:x.size=y.size
 agg:x.isAgg=y.isAgg
 cW:∀(w:World)(S:Nat->Nat->Prop)(vs:List yh),aw w S x vs->aw w S y vs
structure bm(xs ys:List Pl):Prop where
 len:xs.length=ys.length
 sizes:Pl.sizes xs=Pl.sizes ys
 all:∀s,aR s xs->aR s ys
 cW:∀(w:World)(S:Nat->Nat->Prop)(vs:List yh),aq w S xs vs->aq w S ys vs
theorem bJ.refl(x:Pl):bJ x x:=⟨rfl,rfl,λ_ _ _ h=>h⟩
theorem bm.refl(x:yL Pl):bm x x:=⟨rfl,rfl,λ_ h=>h,λ_ _ _ h=>h⟩
theorem bm.of_eq{x y:yL Pl}(h:x=y):bm x y:=h ▸ bm.refl x
theorem bm.nil:bm [] []:=bm.refl []
theorem bm.cons{x y:Pl}{xs ys:yL Pl}(h:bJ x y)(k:bm xs ys):bm (x::xs) (y::ys) where
 len:=by simp[k.len]
 sizes:=by simp only[Pl.sizes];rw[h.size,k.sizes]
 all s ha:=by
  intro z hz;rcases List.mem_cons.1 hz with rfl|hz
  .rw[<-h.size];exact ha x (yax ..)
  .exact k.all s (λz hz=>ha z (yaz _ hz)) z hz
 cW w S vs hr:=by
  simp only[aq]at hr ⊢;obtain⟨us,us',e,h1,h2⟩:=hr;exact⟨us,us',e,h.cW w S us h1,k.cW w S us' h2⟩
theorem bm.map{α:Type}{f g:α->Pl}(h:∀x,bJ (f x) (g x)):∀(l:yL α),bm (l.map f) (l.map g)
 |[]=>bm.nil
 |x::l=>bm.cons (h x) (bm.map h l)
theorem bJ.nq{xs ys:yL Pl}(h:bm xs ys):bJ (.agg xs) (.agg ys):=⟨h.sizes,rfl,λw S vs hr=>by simp only[aw]at hr ⊢;exact h.cW w S vs hr⟩
theorem bJ.jp{n s:Nat}{xs ys:yL Pl}(h:bm xs ys):bJ (.arr n s xs) (.arr n s ys):=
 ⟨rfl,rfl,λw S vs hr=>by simp only[aw]at hr ⊢;exact⟨by rw[<-h.len];exact hr.1,h.all s hr.2.1,h.cW w S vs hr.2.2⟩⟩
theorem bJ.rk{nn:yO Bool}{s:Nat}{xs ys:yL Pl}(h:bm xs ys):bJ (.sl nn s xs) (.sl nn s ys):=⟨rfl,rfl,λw S vs hr=>by
 simp only[aw]at hr ⊢;obtain⟨h1,A,c,rfl,h2,h3,h4,h5,h6⟩:=hr;refine⟨h.all s h1,A,c,by rw[h.len],by rw[<-h.len];exact h2,h3,h4,h5,λhne=> ?_⟩;obtain⟨b,o,us,e,r,k⟩:=h6 (by intro e;subst e;exact hne (ybh h.len.symm));exact⟨b,o,us,e,h.cW _ _ _ r,k⟩⟩
theorem bJ.jq{t:yc}{x y:Pl}(h:bJ x y):bJ (.iface t x) (.iface t y):=⟨rfl,rfl,λw S vs hr=>by
 simp only[aw]at hr ⊢;obtain⟨v,e,h1,h2⟩:=hr;refine⟨v,e,λha=> ?_,λha=>h.cW _ _ _ (h2 (by rw[h.agg];exact ha))⟩;obtain⟨cs,e1,e2⟩:=h1 (by rw[h.agg];exact ha);exact⟨cs,e1,h.cW _ _ _ e2⟩⟩
theorem bJ.gS{nn:yO Bool}{s:Nat}{xs ys:yL Pl}(h:bm xs ys):bJ (.sl nn s xs) (.sl ae s ys):=⟨rfl,rfl,λw S vs hr=>by
 simp only[aw]at hr ⊢;obtain⟨h1,A,c,rfl,h2,h3,h4,h5,h6⟩:=hr;refine⟨h.all s h1,A,c,by rw[h.len],by rw[<-h.len];exact h2,h3,YE _,h5,λhne=> ?_⟩;obtain⟨b,o,us,e,r,k⟩:=h6 (by intro e;subst e;exact hne (ybh h.len.symm));exact⟨b,o,us,e,h.cW _ _ _ r,k⟩⟩
structure Wk(d e:Dv):Prop where
 size:d.size=e.size
 agg:d.isAgg=e.isAgg
 cW:∀(σ:Sg)(vs:List yh),yG σ d vs->yG σ e vs
theorem Wk.refl(d:Dv):Wk d d:=⟨rfl,rfl,λ_ _ h=>h⟩
theorem Wk.of_eq{x y:Dv}(h:x=y):Wk x y:=h ▸ Wk.refl x
theorem Wk.p{x y:Pl}(h:bJ x y):Wk (.p x) (.p y):=⟨h.size,h.agg,λσ vs r=>by simp only[yG]at r ⊢;exact h.cW _ _ _ r⟩
theorem ZCc{σ:Sg}{id s:Nat}{nn mm:yO Bool}{xs ys:yL Pl}{vs:yL yh}(h:bm xs ys)(hn:∀A,iK nn A->iK mm A)(r:yG σ (.own id nn s xs) vs):yG σ (.own id mm s ys) vs:=by
 simp only[yG]at r ⊢;obtain⟨h1,A,c,h2,h3,h4,h5,h6,h7,h8⟩:=r;refine⟨h.all s h1,A,c,by rw[<-h.len];exact h2,by rw[<-h.len];exact h3,h4,hn A h5,h6,λhne=> ?_,by rw[<-h.len];exact h8⟩;obtain⟨b,o,us,e,r,k⟩:=h7 (by intro e;subst e;exact hne (ybh h.len.symm));exact⟨b,o,us,e,h.cW _ _ _ r,k⟩
theorem Wk.own{id s:Nat}{nn:yO Bool}{xs ys:yL Pl}(e:xs=ys):Wk (.own id nn s xs) (.own id ae s ys):=
 ⟨rfl,rfl,λσ vs r=>ZCc (bm.of_eq e) (λ_ _=>YE _) r⟩
theorem Wk.nr{id s:Nat}{nn:yO Bool}{xs ys:yL Pl}(e:bm xs ys):Wk (.own id nn s xs) (.own id nn s ys):=
 ⟨rfl,rfl,λσ vs r=>ZCc e (λ_ h=>h) r⟩
theorem Wk.nt{id s:Nat}{nn:yO Bool}{xs ys:yL Pl}(h:bm xs ys):Wk (.own id nn s xs) (.p (.sl ae s ys)):=by
 refine⟨rfl,rfl,λσ vs r=> ?_⟩;simp only[yG]at r ⊢;obtain⟨h1,A,c,h2,h3,h4,h5,h6,h7,h8⟩:=r;exact(bJ.gS (nn:=nn) h).cW _ _ _ (by simp only[aw];exact⟨h1,A,c,h2,h3,h4,h5,h6,h7⟩)
theorem Wk.aA{d:Dv}(h:d.isAgg=ag)(hs:d.size=1):Wk d .aA:=⟨hs,h,λσ vs r=>by simp only[yG];rw[Vf _ _ r,hs]⟩
theorem Wk.dv{d e:Dv}(h:Wk d e){σ:Sg}{v:yh}(r:yH σ d v):yH σ e v:=by
 obtain⟨r1,r2⟩:=r;refine⟨λha=> ?_,λha=>h.cW _ _ (r2 (by rw[h.agg];exact ha))⟩;obtain⟨cs,e1,e2⟩:=r1 (by rw[h.agg];exact ha);exact⟨cs,e1,h.cW _ _ e2⟩
inductive cF:List Dv->List Dv->Prop where
 |nil:cF [] []
 |cons {d e:Dv} {ds es:List Dv} (h:Wk d e) (k:cF ds es):cF (d::ds) (e::es)
theorem cF.refl:∀(l:yL Dv),cF l l
 |[]=>.nil
 |d::l=>.cons (Wk.refl d) (cF.refl l)
theorem cF.bi{ds es:yL Dv}(h:cF ds es):Wk (.bi ds) (.bi es):=by
 refine⟨rfl,rfl,λσ vs r=> ?_⟩;simp only[yG]at r ⊢;obtain⟨cs,e,r⟩:=r;refine⟨cs,e, ?_⟩;clear e;generalize cs.toList=l at r
 induction h generalizing l with
 |nil=>exact r
 |cons h k ih=>
  simp only[aC]at r ⊢;obtain⟨v,vs',e1,r1,r2⟩:=r;exact⟨v,vs',e1,h.dv r1,ih _ r2⟩
theorem cF.vs{ds es:yL Dv}(h:cF ds es){σ:Sg}:∀{l:yL yh},aC σ ds l->aC σ es l:=by
 induction h with
 |nil=>intro l r;exact r
 |cons h k ih=>
  intro l r;simp only[aC]at r ⊢;obtain⟨v,vs',e1,r1,r2⟩:=r;exact⟨v,vs',e1,h.dv r1,ih r2⟩
theorem cF.len{ds es:yL Dv}(h:cF ds es):ds.length=es.length:=by
 induction h with
 |nil=>rfl
 |cons _ _ ih=>simp[ih]
theorem cF.get{ds es:yL Dv}(h:cF ds es):∀{i:Nat}{e:Dv},es[i]? =ab e->∃d,ds[i]? =ab d/\Wk d e:=by
 induction h with
 |nil=>intro i e h;simp at h
 |cons h k ih=>
  intro i e hi
  cases i with
  |zero=>simp only[ybm,yp]at hi ⊢;subst hi;exact⟨_,rfl,h⟩
  |succ j=>simp only[yay]at hi ⊢;exact ih hi
theorem cF.rm{ds es:yL Dv}(h:cF ds es){σ:Sg}{a:Act}(r:aK σ ds a):aK σ es a:=by
 refine⟨by rw[<-h.len];exact r.size,λi e he=> ?_,r.defers⟩;obtain⟨d,hd,hw⟩:=h.get he;exact hw.dv (r.at_ i d hd)
theorem cF.agg{ds es:yL Dv}(h:cF ds es):Wk (.agg ds) (.agg es):=by
 have hs:Dv.sizes ds=Dv.sizes es:=by
  induction h with
  |nil=>rfl
  |cons h k ih=>simp only[Dv.sizes];rw[h.size,ih]
 refine⟨hs,rfl,λσ vs r=> ?_⟩;simp only[yG]at r ⊢;clear hs
 induction h generalizing vs with
 |nil=>exact r
 |cons h k ih=>
  simp only[aI]at r ⊢;obtain⟨us,us',e,r1,r2⟩:=r;exact⟨us,us',e,h.cW _ _ r1,ih _ r2⟩
inductive dN:List (Pl×Pl)->List (Pl×Pl)->Prop where
 |nil:dN [] []
 |cons {k v v':Pl} {l m:List (Pl×Pl)} (h:bJ v v') (r:dN l m):dN ((k,v)::l) ((k,v')::m)
theorem dN.cW{σ:Sg}{l m:yL (Pl×Pl)}(h:dN l m):∀(es:yL MapEntry),gr σ l es->gr σ m es:=by
 induction h with
 |nil=>intro es h;exact h
 |cons h r ih=>
  intro es k
  cases es with
  |nil=>exact k
  |cons e es=>exact⟨k.1,(Wk.p h).dv k.2.1,ih es k.2.2⟩
theorem dN.keys{l m:yL (Pl×Pl)}(h:dN l m):m.map (·.1)=l.map (·.1):=by
 induction h with
 |nil=>rfl
 |cons h r ih=>rw[yag,yag,ih]
theorem dN.perm{l l':yL (Pl×Pl)}(p:l.Perm l'):∀{m:yL (Pl×Pl)},dN l m->∃m',m.Perm m'/\dN l' m':=by
 induction p with
 |nil=>intro m h;exact⟨m,.refl _,h⟩
 |cons x p ih=>
  intro m h
  cases h with
  |cons h r=>
   obtain⟨m',q1,q2⟩:=ih r
   exact⟨_,q1.cons _,.cons h q2⟩
 |swap x y l=>
  intro m h
  cases h with
  |cons h r=>
   cases r with
   |cons h2 r=>exact⟨_,.swap _ _ _,.cons h2 (.cons h r)⟩
 |trans p q ih1 ih2=>
  intro m h;obtain⟨m1,a1,a2⟩:=ih1 h;obtain⟨m2,b1,b2⟩:=ih2 a2;exact⟨m2,a1.trans b1,b2⟩
theorem dN.any{σ:Sg}{l m:yL (Pl×Pl)}(h:dN l m){es:yL MapEntry}(k:il σ l es):il σ m es:=by
 obtain⟨l',p,nd,r⟩:=k;obtain⟨m',q1,q2⟩:=dN.perm p.symm h;exact⟨m',q1.symm,by rw[h.keys];exact nd,q2.cW _ r⟩
inductive ez:ay->ay->Prop where
 |refl (e:ay):ez e e
 |var {d d':Dv} {st:Bool} (h:Wk d d'):ez (.var d st) (.var d' st)
 |log {s:Nat} {e:yc} {xs ys:List Pl} (h:bm xs ys):ez (.log s e xs) (.log s e ys)
 |map {t:yc} {l m:List (Pl×Pl)} (h:dN l m):ez (.map t l) (.map t m)
 |perm {t:yc} {l m:List (Pl×Pl)} (h:l.Perm m):ez (.map t l) (.map t m)
 |row {v s:Nat} {st:Bool} {e:yc} {d d':Dv} (h:Wk d d'/\aY d s=aY d' s):ez (.row v s st e d) (.row v s st e d')
 |lock {v s:Nat} {st:Bool} {e:yc} {d:Dv}:ez (.row v s st e d) (.row v s ag e d)
 |cK {d:Dv} {st:Bool}:ez (.var d st) (.var d ag)
 |kP {d d':Dv} {st:Bool} (h:Wk d d'):ez (.var d st) (.var d' ag)
 |shr {v s n N:Nat} {e:yc} {xs:List Pl} (h:n<=N):ez (.row v s af e (.p (.arr N s xs))) (.row v s af e (.p (.arr n s (xs.take n))))
inductive cg:List ay->List ay->Prop where
 |nil:cg [] []
 |cons {e f:ay} {es fs:List ay} (h:ez e f) (k:cg es fs):cg (e::es) (f::fs)
theorem cg.refl:∀(l:yL ay),cg l l
 |[]=>.nil
 |d::l=>.cons (.refl d) (cg.refl l)
theorem cg.len{ds es:yL ay}(h:cg ds es):ds.length=es.length:=by
 induction h with
 |nil=>rfl
 |cons _ _ ih=>simp[ih]
theorem cg.get{ds es:yL ay}(h:cg ds es):∀{i:Nat}{d:ay},ds[i]? =ab d->∃e,es[i]? =ab e/\ez d e:=by
 induction h with
 |nil=>intro i e h;simp at h
 |cons h k ih=>
  intro i e hi
  cases i with
  |zero=>simp only[ybm,yp]at hi ⊢;subst hi;exact⟨_,rfl,h⟩
  |succ j=>simp only[yay]at hi ⊢;exact ih hi
theorem cg.back{ds es:yL ay}(h:cg ds es):∀{i:Nat}{e:ay},es[i]? =ab e->∃d,ds[i]? =ab d/\ez d e:=by
 induction h with
 |nil=>intro i e h;simp at h
 |cons h k ih=>
  intro i e hi
  cases i with
  |zero=>simp only[ybm,yp]at hi ⊢;subst hi;exact⟨_,rfl,h⟩
  |succ j=>simp only[yay]at hi ⊢;exact ih hi
theorem ez.bp{e f:ay}(h:ez e f)(o:Nat)(k:e.bp o):f.bp o:=by
 cases h with
 |log h=>simpa only[ay.bp,h.len] using k
 |lock=>exact⟨rfl,k.2⟩
 |row h=>exact⟨k.1,by rw[<-h.2];exact k.2⟩
 |shr _=>exact absurd k.1 (by simp)
 |cK=>rfl
 |kP _=>rfl
 |_=>exact k
theorem Zy4{w:World}{S:Nat->Nat->Prop}{s:Nat}:∀{xs:yL Pl}{vs:yL yh},(∀x,x∈xs->x.size=s)->aq w S xs vs->∀(n:Nat),n<=xs.length->aq w S (xs.take n) (vs.take (n*s))
 |[],vs,_,h,n,hn=>by
  have:n=0:=by simpa using hn
  subst this;simp only[aq]at h;subst h
  simp[aq]
 |x::r,vs,hs,h,0,_=>by simp[aq]
 |x::r,vs,hs,h,n+1,hn=>by
  simp only[aq]at h;obtain⟨us,us',rfl,h1,h2⟩:=h;have hl:us.length=s:=by rw[Ve _ _ h1];exact hs x (yax ..)
  simp only[List.take_succ_cons,aq];refine⟨us,us'.take (n*s), ?_,h1,Zy4 (λy hy=>hs y (yaz _ hy)) h2 n (by simpa using hn)⟩;rw[List.take_append,hl,yau,Nat.one_mul,ybs (by omega)];congr 2;omega
theorem cg.fG:∀{l:yL ay}{i:Nat}{e f:ay},l[i]? =ab e->ez e f->cg l (l.set i f)
 |[],_,_,_,h,_=>by simp at h
 |x::l,0,e,f,h,k=>by
  simp only[ybm,yp]at h;subst h
  exact .cons k (cg.refl l)
 |x::l,i+1,e,f,h,k=>by
  simp only[yay]at h;exact .cons (.refl x) (cg.fG h k)
theorem jY{σ:Sg}(ok:Ok σ){H':yL ay}(h:cg σ.H H'):To σ { σ with H:=H'}/\Ok { σ with H:=H'}:=by
 have aU:∀b o,σ.aU b o->({ σ with H:=H'}:Sg).aU b o:=λb o hs=>⟨hs.1,λid e h1 h2=>by
  obtain⟨d,h3,h4⟩:=h.back h2;exact h4.bp o (hs.2 id d h1 h3)⟩
 have leaf:cu σ { σ with H:=H'}:=by
  refine⟨λb o v h1 h2=>⟨h1,aU b o h2⟩,λid b h1 h2=>⟨h1, ?_⟩,λid s len A c h1=> ?_,λid b h1 h2=>⟨h1, ?_⟩,λid v s st e d h1=> ?_⟩
  .obtain⟨d,st,h2⟩:=h2;obtain⟨e,h3,h4⟩:=h.get h2
   cases h4 with
   |refl=>exact⟨d,st,h3⟩
   |var h5=>exact⟨_,_,h3⟩
   |cK=>exact⟨_,_,h3⟩
   |kP _=>exact⟨_,_,h3⟩
  .obtain⟨e,ys,h2,h3⟩:=h1;obtain⟨e',h4,h5⟩:=h.get h2
   cases h5 with
   |refl=>exact⟨e,ys,h4,h3⟩
   |log h6=>exact⟨_,_,h4,by rw[<-h6.len];exact h3⟩
  .obtain⟨t,bu,h2⟩:=h2;obtain⟨e',h4,h5⟩:=h.get h2
   cases h5 with
   |refl=>exact⟨t,bu,h4⟩
   |map h6=>exact⟨_,_,h4⟩
   |perm h6=>exact⟨_,_,h4⟩
  .obtain⟨e',h4,h5⟩:=h.get h1
   cases h5 with
   |refl=>exact⟨v,st,d,h4,yj _,λ_=>⟨rfl,λb cur _ hc=>⟨cur,hc,rfl⟩⟩⟩
   |row h6=>exact⟨v,st,_,h4,yj _,λ_=>⟨rfl,λb cur _ hc=>⟨cur,hc,rfl⟩⟩⟩
   |shr _=>exact⟨v,af,_,h4,yj _,λ_=>⟨rfl,λb cur _ hc=>⟨cur,hc,rfl⟩⟩⟩
   |lock=>exact⟨v,ag,_,h4,yj _,λ_=>⟨rfl,λb cur _ hc=>⟨cur,hc,rfl⟩⟩⟩
 refine⟨⟨leaf,rfl,rfl,rfl,rfl,rfl,yj _,λ_ _ _=>rfl,λ_ _ h=>.inl h,yj _⟩,⟨by show σ.m.length=H'.length;rw[ok.len,h.len],ok.inj,ok.lt,λi e a h1 h2=> ?_,ok.new,ok.own⟩⟩;obtain⟨d,h3,h4⟩:=h.back h1;have hd:=oQ leaf (λb _=>rfl) (ok.cY i d a h3 h2)
 cases h4 with
 |refl=>exact hd
 |var h5=>
  obtain⟨b,cs,t,e1,e2,e3,e4⟩:=hd
  exact⟨b,cs,t,e1,e2,by rw[<-h5.size];exact h5.cW _ _ e3,by rw[<-h5.size];exact e4⟩
 |log h5=>
  rcases hd with⟨e1,e2⟩|⟨b,cur,cap,e1,e2,e3,e4,e5,e6,e7⟩
  .subst e2;exact .inl ⟨e1,ybh h5.len.symm⟩
  .exact .inr ⟨b,cur,cap,e1,e2,e3,by rw[<-h5.len];exact e4,e5,h5.all _ e6,by rw[<-h5.len];exact h5.cW _ _ _ e7⟩
 |map h5=>
  obtain⟨b,es,clock,e1,e2,e3,e4⟩:=hd
  exact⟨b,es,clock,e1,e2,h5.any e3,e4⟩
 |perm h5=>
  obtain⟨b,es,clock,e1,e2,⟨l',p,nd,r⟩,e4⟩:=hd
  exact⟨b,es,clock,e1,e2,⟨l',p.trans h5,(h5.map _).nodup_iff.1 nd,r⟩,e4⟩
 |row h5=>
  obtain⟨N,e1,e2⟩:=hd;refine⟨N,by rw[<-h5.2];exact e1, ?_⟩;rcases e2 with e2|⟨b,cur,cap,e3,e4,e5,e6,e7,e8⟩
  .exact .inl e2
  .exact .inr ⟨b,cur,cap,e3,e4,e5,e6,e7,h5.1.cW _ _ e8⟩
 |lock=>exact hd
 |cK=>exact hd
 |kP h5=>
  obtain⟨b,cs,t,e1,e2,e3,e4⟩:=hd
  exact⟨b,cs,t,e1,e2,by rw[<-h5.size];exact h5.cW _ _ e3,by rw[<-h5.size];exact e4⟩
 |shr h5=>
  obtain⟨N0,e1,e2⟩:=hd;simp only[aY,yW,yp]at e1;subst e1;refine⟨_,yW rfl, ?_⟩;rcases e2 with⟨e2,e3⟩|⟨b,cur,cap,e3,e4,e5,e6,e7,e8⟩
  .exact .inl ⟨e2,by omega⟩
  .refine .inr ⟨b,cur,cap,e3,e4,e5,by omega,e7, ?_⟩;simp only[yG,aw]at e8 ⊢;obtain⟨q1,q2,q3⟩:=e8;refine⟨by rw[yx];omega,λx hx=>q2 x (ybn hx), ?_⟩;have:=Zy4 q2 q3 _ (show _<=_ from by rw[q1];exact h5)
   rw[List.take_take,ybc (ycg _ h5)]at this;exact this
theorem Pl.cj:∀(xs:yL Pl),Pl.cv xs=xs.map Pl.soft
 |[]=>rfl
 |x::r=>by rw[Pl.cv,Pl.cj r];rfl
mutual
theorem nu:∀(x:Pl),bJ x x.soft
 |.int _ _=>bJ.refl _
 |.bool _=>bJ.refl _
 |.str _=>bJ.refl _
 |.bE=>bJ.refl _
 |.fn0=>bJ.refl _
 |.dE=>bJ.refl _
 |.bU=>bJ.refl _
 |.fS _=>bJ.refl _
 |.agg xs=>by rw[Pl.soft];exact bJ.nq (cq xs)
 |.arr n s xs=>by rw[Pl.soft];exact bJ.jp (cq xs)
 |.sl nn s xs=>by rw[Pl.soft];exact bJ.gS (bm.refl _)
 |.iface t x=>by rw[Pl.soft];exact bJ.jq (nu x)
theorem cq:∀(xs:yL Pl),bm xs (Pl.cv xs)
 |[]=>bm.nil
 |x::r=>by rw[Pl.cv];exact bm.cons (nu x) (cq r)
end
theorem DU(x:Pl):x.soft.size=x.size:=(nu x).size.symm
theorem cg.append{a b c d:yL ay}(h:cg a b)(k:cg c d):cg (a++c) (b++d):=by
 induction h with
 |nil=>exact k
 |cons h _ ih=>exact .cons h ih
theorem cg.bq{e f:ay}:∀(l:yL ay)(i:Nat),ez e f->cg (l.set i e) (l.set i f)
 |[],_,_=>.nil
 |x::l,0,h=>.cons h (cg.refl l)
 |x::l,i+1,h=>.cons (.refl x) (cg.bq l i h)
theorem bm.bq{x y:Pl}(h:bJ x y):∀(l:yL Pl)(i:Nat),bm (l.set i x) (l.set i y)
 |[],_=>.nil
 |z::l,0=>.cons h (bm.refl l)
 |z::l,i+1=>.cons (bJ.refl z) (bm.bq h l i)
theorem vb{P:yg}{o:Oper}{a:Act}{σ:Sg}{d d':Dv}{H1 H2:yL ay}(h:XE P o a σ d H1)(hd:Wk d d')(hH:cg H1 H2):XE P o a σ d' H2:=by
 intro K Q hK;refine h K Q λv σ1 e1 to1 ok1 hd'=> ?_;obtain⟨to,ok2⟩:=jY ok1 (H':=H2) (by rw[e1];exact hH);exact hK v { σ1 with H:=H2} rfl (to1.trans to) ok2 (hd.dv (mT to.leaf hd'))
theorem DV{σ:Sg}:∀{ds:yL Dv}{vs:yL yh},aC σ ds vs->vs.length=ds.length
 |[],vs,h=>by simp only[aC]at h;subst h;rfl
 |d::ds,vs,h=>by
  simp only[aC]at h;obtain⟨v,vs',rfl,_,h2⟩:=h;simp[DV h2]
theorem DW{σ:Sg}:∀{ds:yL Dv}{vs:yL yh}{i:Nat}{d:Dv},aC σ ds vs->ds[i]? =ab d->∃v,vs[i]? =ab v/\yH σ d v
 |[],vs,i,d,_,hd=>by simp at hd
 |x::ds,vs,i,d,h,hd=>by
  simp only[aC]at h;obtain⟨v,vs',rfl,h1,h2⟩:=h
  cases i with
  |zero=>
   simp only[ybm,yp]at hd;subst hd
   exact⟨v,rfl,h1⟩
  |succ i=>
   simp only[yay]at hd ⊢;exact DW h2 hd
theorem VU{σ:Sg}:∀{ds es:yL Dv}{vs us:yL yh},aC σ ds vs->aC σ es us->aC σ (ds++es) (vs++us)
 |[],es,vs,us,h,k=>by simp only[aC]at h;subst h;simpa using k
 |d::ds,es,vs,us,h,k=>by
  simp only[aC]at h;obtain⟨v,vs',rfl,h1,h2⟩:=h;simp only[yae,aC];exact⟨v,vs'++us,rfl,h1,VU h2 k⟩
theorem DX{σ:Sg}{α:Type}(f:α->Dv)(g:α->yh)(h:∀x,yH σ (f x) (g x)):∀(l:yL α),aC σ (l.map f) (l.map g)
 |[]=>by simp[aC]
 |x::l=>by
  simp only[yag,aC];exact⟨g x,l.map g,rfl,h x,DX f g h l⟩
theorem vc{w:World}{S:Nat->Nat->Prop}{s:Nat}{xs:yL Pl}{A:yO Addr}{c l h:Nat}(hs:aR s xs)(hn:xs.length<=c)(hcm:c<=maxLen)(hnil:A=ae->c=0)
 (hr:xs≠[]->∃b o us,A=ab ⟨b,o,ae⟩/\aq w S xs us/\VJ w S b o us) (h1:l<=h) (h2:h<=xs.length):
 aR s ((xs.take h).drop l)/\((xs.take h).drop l).length=h - l/\h - l<=c - l/\c - l<=maxLen/\(if c=l then A else A.map (·.add (l*s))).isSome=A.isSome/\
  ((if c=l then A else A.map (·.add (l*s)))=ae->c - l=0)/\
  ((xs.take h).drop l≠[]->∃b o us,(if c=l then A else A.map (·.add (l*s)))=ab ⟨b,o,ae⟩/\aq w S ((xs.take h).drop l) us/\VJ w S b o us):=by
 have zV:((xs.take h).drop l).length=h - l:=by rw[List.length_drop,yx,ybc h2]
 refine⟨uV (QY hs _) _,zV,by omega,by omega, ?_, ?_,λhne=> ?_⟩
 .split
  .rfl
  .simp
 .split
  .omega
  .intro hA;have hA':A=ae:=by simpa using hA
   have:=hnil hA';omega
 .have hlt:l < h:=by
   rcases ych l h with h3|h3
   .exact h3
   .exact absurd (ybh (by rw[zV];omega)) hne
  have hxs:xs≠[]:=by
   rintro rfl;simp at h2;omega
  obtain⟨b,o,us,rfl,h3,h4⟩:=hr hxs;have hc:¬c=l:=by omega
  rw[yX hc]
  have e:xs=xs.take l++((xs.take h).drop l++xs.drop h):=by
   have e1:(xs.take h).drop l++xs.drop h=xs.drop l:=by
    have:xs.drop l=(xs.take h++xs.drop h).drop l:=by rw[ybd]
    rw[this,List.drop_append_of_le_length (by rw[yx];omega)]
   rw[e1,ybd]
  rw[e]at h3;obtain⟨u1,u2,rfl,h5,h6⟩:=Yh h3;obtain⟨u3,u4,rfl,h7,h8⟩:=Yh h6
  have hl1:u1.length=l*s:=by
   rw[aL _ _ h5,aM (QY hs _),yx,ybc (by omega)]
  refine⟨b,o+l*s,u3,by simp[Addr.bw],h7, ?_⟩;have:=(VJ.append (VJ.append h4).2).1
  rwa [hl1]at this
theorem nv{P:yg}{w:World}(isSlice:Bool)(len cap:Nat)(lo hi:yO yh)(l h:yO Int)(hl:lo=ae/\l=ae\/∃k i,lo=ab (.int k i)/\l=ab i)
 (hh:hi=ae/\h=ae\/∃k i,hi=ab (.int k i)/\h=ab i) (hc:ba (XD len l h)) (zV:len<=cap):
 ∃a b,(Instr.sliceBounds isSlice len cap lo hi ae).run P w=.ok (a,b,cap) w/\a<=b/\b<=len/\a=(l.getD 0).toNat/\b=(h.getD (len:Int)).toNat:=by
 rcases hl with⟨rfl,rfl⟩|⟨k,i,rfl,rfl⟩ <;> rcases hh with⟨rfl,rfl⟩|⟨k',i',rfl,rfl⟩
 .exact⟨0,len,by simp[Instr.sliceBounds],Nat.zero_le _,yj _,rfl,by simp⟩
 .obtain⟨h1,h2,_⟩:=hc;refine⟨0,i'.toNat, ?_,Nat.zero_le _,by omega,rfl,rfl⟩;have hb:0<=i'/\i'<=(cap:Int):=⟨h1,by omega⟩;simp[Instr.sliceBounds,Instr.sliceBound,asIntOf,hb]
 .obtain⟨h1,h2,_⟩:=hc;refine⟨i.toNat,len, ?_,by omega,yj _,rfl,by simp⟩;have hb:0<=i/\i<=(len:Int):=⟨h1,h2⟩;simp[Instr.sliceBounds,Instr.sliceBound,asIntOf,hb]
 .obtain⟨h1,h2,h3,_⟩:=hc;refine⟨i.toNat,i'.toNat, ?_,by omega,by omega,rfl,rfl⟩;have hb:0<=i'/\i'<=(cap:Int):=⟨by omega,by omega⟩;have hb':0<=i/\i<=(i'.toNat:Int):=⟨h1,by omega⟩;have hb2:i<=max i' 0:=by omega
  simp[Instr.sliceBounds,Instr.sliceBound,asIntOf,hb,h1,hb2]
theorem ve{α:Type}(xs:yL α)(l h:yO Int)(hc:ba (XD xs.length l h)):QX xs l h=(xs.take ((h.getD (xs.length:Int)).toNat)).drop ((l.getD 0).toNat):=by
 cases l <;> cases h <;> simp[QX]
theorem YR{P:yg}{σ:Sg}{ts:yL Dv}{a:Act}(yK:aK σ ts a){x:yO ym}{l:yO Int}(h:fX P ts x=ab l):
 x.map a.eval=ae/\l=ae\/∃k i,x.map a.eval=ab (.int k i)/\l=ab i:=by
 unfold fX at h;split at h
 .cases h;exact .inl ⟨rfl,rfl⟩
 .rename_i y;split at h
  .rename_i k i hy;cases h;have:=Zs (P:=P) yK 0 y;rw[hy]at this;exact .inr ⟨k,i,by simp[ZY this],rfl⟩
  .cases h
end Go.Ev
end
section
namespace Go.Ev
section
variable{P:yg}{o:Oper}{a:Act}{σ:Sg}{ts:yL Dv}{hs hs':yL ar}{C:yL Prop}{d:Dv}
theorem Zol{e:yc}{t:yc}{s:Nat}{xs:yL Pl}{A:yO Addr}{c:Nat}{k:IntKind}{i:Int}{y:Pl}(ok:Ok σ)(hu:P.underlying t=ab (.slice e))(he:P.cellsOf e=s)
 (hi:(P.info? e).isSome=af) (hs:aR s xs) (hr:xs≠[]->∃b o us,A=ab ⟨b,o,ae⟩/\aq σ.w σ.aU xs us/\VJ σ.w σ.aU b o us) (h0:0<=i) (hy:xs[i.toNat]? =ab y):
 ∃v,(Instr.indexAt t (.slice A xs.length c) (.int k i)).run P σ.w=.ok v σ.w/\yH σ (.elem y) v:=by
 have hlt:i.toNat < xs.length:=(yo.1 hy).1
 have hne:xs≠[]:=by
  grind
 obtain⟨b,o,us,rfl,h1,h2⟩:=hr hne;obtain⟨uy,h3,h4⟩:=uX hs h1 h2 hy;refine⟨.pointer (ab ⟨b,o+i.toNat*s,ae⟩), ?_, ?_⟩
 .have hb:0<=i/\i < (xs.length:Int):=⟨h0,by omega⟩;simp[Instr.indexAt,asIntOf,run_underlying hu,hb,Z6 hi,he,Addr.bw]
 .rw[Zi (by rfl)];simp only[yG];grind
theorem ru{y:Pl}{v:yh}(h:yH σ (.elem y) v):∃b o us,v=.pointer (ab ⟨b,o,ae⟩)/\aw σ.w σ.aU y us/\VJ σ.w σ.aU b o us:=by
 rw[Zi (by rfl)]at h;simpa[yG] using h
theorem lP{id off:Nat}{yM:yL Nat}{v:yh}(h:yH σ (.am id off yM) v):
 ∃b,σ.m[id]? =ab (ab b)/\(∃d st,σ.H[id]? =ab (.var d st))/\v=.pointer (ab ⟨b,off,ae⟩):=by
 rw[Zi (by rfl)]at h;simpa[yG] using h
theorem nw{id off s lo n:Nat}{yM:yL Nat}{v:yh}(h:yH σ (.view id off yM s lo n) v):
 ∃b c a,σ.m[id]? =ab (ab b)/\(∃d st,σ.H[id]? =ab (.var d st))/\v=.slice (ab a) n c/\n<=c/\c<=maxLen/\(0 < n->a=⟨b,off+lo*s,ae⟩):=by
 rw[Zi (by rfl)]at h;simpa[yG] using h
theorem jZ{id v s lo n:Nat}{u:yh}(h:yH σ (.rv id v s lo n) u):
 ∃A c,u=.slice A n c/\n<=c/\c<=maxLen/\(A=ae->c=0)/\(0 < n->∃b o,A=ab ⟨b,o,ae⟩)/\rowAt σ id v s lo A c:=by
 rw[Zi (by rfl)]at h;simpa[yG] using h
theorem vf{id v off:Nat}{yM:yL Nat}{u:yh}(h:yH σ (.aZ id v off yM) u):∃b o,u=.pointer (ab ⟨b,o,ae⟩)/\rowIs σ id v b o off:=by
 rw[Zi (by rfl)]at h;simpa[yG] using h
theorem DY{id v off b o:Nat}{yM:yL Nat}(h:rowIs σ id v b o off):yH σ (.aZ id v off yM) (.pointer (ab ⟨b,o,ae⟩)):=by
 rw[Zi (by rfl)];simp only[yG];grind
theorem DZ{id v b o off k:Nat}(h:rowIs σ id v b o off):rowIs σ id v b (o+k) (off+k):=by
 obtain⟨v',s,st,e,d,h1,h2,h3⟩:=h;exact⟨v',s,st,e,d,h1,h2,λhv=>⟨(h3 hv).1,by rw[(h3 hv).2]⟩⟩
theorem ZMC{id v s lo c b o:Nat}(h:rowAt σ id v s lo (ab ⟨b,o,ae⟩) c)(hc:0 < c):rowIs σ id v b o (lo*s):=by
 obtain⟨v',s',st,e,d,h1,h2,h3⟩:=h;refine⟨v',s',st,e,d,h1,h2,λhv=> ?_⟩
 all_goals grind
theorem ZCd{id v s lo c l:Nat}{A:yO Addr}(h:rowAt σ id v s lo A c)(hl:l<=c):rowAt σ id v s (lo+l) (if c=l then A else A.map (·.add (l*s))) (c - l):=by
 obtain⟨v',s',st,e,d,h1,h2,h3⟩:=h;refine⟨v',s',st,e,d,h1,h2,λhv=> ?_⟩;obtain⟨h4,h5⟩:=h3 hv;refine⟨h4, ?_⟩;rcases h5 with⟨h6,rfl,h7⟩|⟨b,cur,h6,h7,h8,h9⟩
 .grind
 .refine .inr ⟨b,cur,h6,h7,by rw[h8];congr 1;omega,λhc=> ?_⟩;rw[yX (by omega),h9 (by omega)];simp[Addr.bw,yau]
theorem ZMD{id v s lo n c l h:Nat}{A:yO Addr}(h2:n<=c)(h3:c<=maxLen)(h4:A=ae->c=0)(h5:0 < c->∃b o,A=ab ⟨b,o,ae⟩)(h6:rowAt σ id v s lo A c)(hl:l<=h)(hh:h<=c):
 yH σ (.rv id v s (lo+l) (h - l)) (.slice (if c=l then A else A.map (·.add (l*s))) (h - l) (c - l)):=by
 rw[Zi (by rfl)];simp only[yG];refine⟨_,_,rfl,by omega,by omega,λhA=> ?_,λhp=> ?_,ZCd h6 (by omega)⟩
 .all_goals grind
 .obtain⟨b,o,rfl⟩:=h5 (by omega);rw[yX (by omega)];exact⟨b,o+l*s,by simp[Addr.bw]⟩
theorem rx{f:yq}{cap:yL Dv}{v:yh}(h:yH σ (.fn f cap) v):∃fs cs,v=.func (.func (dY f)) fs cs/\(if f < big then fs else cs)= #[]/\aC σ cap (fs++cs).toList:=by
 rw[Zi (by rfl)]at h;simpa[yG] using h
theorem ZR3{f:yq}{cap:yL Dv}{v:yh}(hf:f < big)(h:yH σ (.fn f cap) v):∃cs,v=.func (.func f) #[] cs/\aC σ cap cs.toList:=by
 obtain⟨fs,cs,h1,h2,h3⟩:=rx h;rw[yW hf]at h2;subst h2;unfold dY at h1;grind
theorem ZFz{t:yc}{x ix:ym}(ok:Ok σ)(yK:aK σ ts a)(ho:o.op=.indexAddr t x ix)(h:be P o ts hs=ab (C,d,hs'))(hc:ba C):XE P o a σ d σ.H:=by
 simp only[be,ho]at h;have hx:=Zs (P:=P) yK t x;have hix:=Zs (P:=P) yK 0 ix
 have run:∀v,(Instr.indexAt t (a.eval x) (a.eval ix)).run P σ.w=.ok v σ.w->(execOp a.eval o).run P σ.w=.ok (.value v) σ.w:=λv hv=>by
  simp[execOp,ho,hv]
 split at h
 .rename_i e nn s xs k i hu hdx hdi;rw[hdx]at hx;rw[hdi]at hix;split at h
  .rename_i y hs'';split at h
   .rename_i hk;simp only[yi,yP]at hk;cases h;obtain⟨h1,A,c,hv,h2,h3,h4,h5,h6⟩:=WY hx;obtain⟨v,h7,h8⟩:=Zol (k:=k) (c:=c) ok hu hk.1 hk.2 h1 h6 hc.1 hc.2.1;exact Zl ok (run v (by rw[hv,ZY hix];exact h7)) h8
   .cases h
  .cases h
 .rename_i e id nn s xs k i hu hdx hdi;rw[hdx]at hx;rw[hdi]at hix;split at h
  .rename_i y hs'';split at h
   .rename_i hk;simp only[yi,yP]at hk;cases h;obtain⟨h1,A,c,hv,h2,h3,h4,h5,h6,_⟩:=lO hx;obtain⟨v,h7,h8⟩:=Zol (k:=k) (c:=c) ok hu hk.1 hk.2 h1 h6 hc.1 hc.2.1;exact Zl ok (run v (by rw[hv,ZY hix];exact h7)) h8
   .cases h
  .cases h
 .rename_i e id off yM s lo n k i hu hdx hdi;rw[hdx]at hx;rw[hdi]at hix;split at h
  .rename_i hk;simp only[yi,yP]at hk;cases h;obtain⟨h0,h1,_⟩:=hc;obtain⟨b,c,aa,hm,hv,hx,h2,h3,h4⟩:=nw hx;have e1:=h4 (by omega);subst e1;refine Zl (v:=.pointer (ab ⟨b,off+(lo+i.toNat)*s,ae⟩)) ok (run _ ?_) ?_
   .rw[hx,ZY hix];have hb:0<=i/\i < (n:Int):=⟨h0,h1⟩;simp[Instr.indexAt,asIntOf,run_underlying hu,hb,Z6 hk.2,hk.1,Addr.bw,yau,Nat.add_assoc]
   .rw[Zi (by rfl)];simp only[yG];exact⟨b,hm,hv,rfl⟩
  .cases h
 .rename_i e id v s lo n k i hu hdx hdi;rw[hdx]at hx;rw[hdi]at hix;split at h
  .rename_i hk;simp only[yi,yP]at hk;cases h;obtain⟨h0,h1,_⟩:=hc;obtain⟨A,c,hx,h2,h3,h4,h5,h6⟩:=jZ hx;obtain⟨b,o',rfl⟩:=h5 (by omega);refine Zl (v:=.pointer (ab ⟨b,o'+i.toNat*s,ae⟩)) ok (run _ ?_) ?_
   .rw[hx,ZY hix];have hb:0<=i/\i < (n:Int):=⟨h0,h1⟩;simp[Instr.indexAt,asIntOf,run_underlying hu,hb,Z6 hk.2,hk.1,Addr.bw]
   .rw[yau];exact DY (DZ (ZMC h6 (by omega)))
  .cases h
 .rename_i n e id v off yM k i hu hdx hdi;rw[hdx]at hx;rw[hdi]at hix;split at h
  .rename_i hk;cases h;obtain⟨h0,h1,_⟩:=hc;obtain⟨b,o',hx,h2⟩:=vf hx;refine Zl (v:=.pointer (ab ⟨b,o'+i.toNat*P.cellsOf e,ae⟩)) ok (run _ ?_) ?_
   .rw[hx,ZY hix];have hb:0<=i/\i < (n:Int):=⟨h0,h1⟩;simp[Instr.indexAt,asIntOf,run_underlying hu,hb,Z6 hk,Instr.sureAddr,Addr.bw]
   .exact DY (DZ h2)
  .cases h
 .rename_i n e id off yM k i hu hdx hdi;rw[hdx]at hx;rw[hdi]at hix;split at h
  .rename_i hk;cases h;obtain⟨h0,h1,_⟩:=hc;obtain⟨b,hm,hv,hx⟩:=lP hx;refine Zl (v:=.pointer (ab ⟨b,off+i.toNat*P.cellsOf e,ae⟩)) ok (run _ ?_) ?_
   .rw[hx,ZY hix];have hb:0<=i/\i < (n:Int):=⟨h0,h1⟩;simp[Instr.indexAt,asIntOf,run_underlying hu,hb,Z6 hk,Instr.sureAddr,Addr.bw]
   .rw[Zi (by rfl)];simp only[yG];exact⟨b,hm,hv,rfl⟩
  .cases h
 .rename_i n e n' s xs k i hu hdx hdi;rw[hdx]at hx;rw[hdi]at hix;split at h
  .rename_i y hs'';split at h
   .rename_i hk;simp only[yi,yP]at hk;obtain⟨⟨rfl,hk⟩,hk2⟩:=hk;cases h;obtain⟨h0,h1,_⟩:=hc;obtain⟨b,off,us,hx,h2,h3⟩:=ru hx;simp only[aw]at h2;obtain⟨h4,h5,h6⟩:=h2;obtain⟨uy,h7,h8⟩:=uX h5 h6 h3 h1;have hlt:i.toNat < xs.length:=(yo.1 h1).1;refine Zl (v:=.pointer (ab ⟨b,off+i.toNat*s,ae⟩)) ok (run _ ?_) ?_
    .rw[hx,ZY hix];have hb:0<=i/\i < (n:Int):=⟨h0,by omega⟩;simp[Instr.indexAt,asIntOf,run_underlying hu,hb,Z6 hk2,hk,Instr.sureAddr,Addr.bw]
    .rw[Zi (by rfl)];simp only[yG];exact⟨b,_,uy,rfl,h7,h8⟩
   .cases h
  .cases h
 .cases h
theorem ZPG{t:yc}{x:ym}{lo hi:yO ym}(ok:Ok σ)(yK:aK σ ts a)(ho:o.op=.slice t x lo hi ae)(h:be P o ts hs=ab (C,d,hs'))(hc:ba C):XE P o a σ d σ.H:=by
 simp only[be,ho]at h;have hx:=Zs (P:=P) yK t x
 have run:∀v,(Instr.sliceAt t (a.eval x) (lo.map a.eval) (hi.map a.eval) ae).run P σ.w=.ok v σ.w->(execOp a.eval o).run P σ.w=.ok (.value v) σ.w:=λv hv=>by
  simp[execOp,ho,hv]
 split at h
 .rename_i e nn s xs l r hu hdx hl hr;rw[hdx]at hx;split at h
  .rename_i hk;simp only[yi,yP]at hk;cases h;obtain⟨h1,A,c,hv,h2,h3,h4,h5,h6⟩:=WY hx;obtain⟨p,q,hb,h7,h8,rfl,rfl⟩:=nv (P:=P) (w:=σ.w) af xs.length c _ _ _ _ (YR yK hl) (YR yK hr) hc h2;obtain⟨k1,k2,k3,k4,k5,k6,k7⟩:=vc h1 h2 h3 h5 h6 h7 h8;refine Zl ok (run _ (by rw[hv];simp[Instr.sliceAt,Instr.slice,run_underlying hu,hb,Z6 hk.2,hk.1];rfl)) ?_;rw[ve xs l r hc, <-k2];exact YM k1 (by rw[k2];exact k3) k4 (λb hb=>by rw[k5];exact h4 b hb) k6 k7
  .cases h
 .rename_i e id nn s xs l r hu hdx hl hr;rw[hdx]at hx;split at h
  .rename_i hk;simp only[yi,yP]at hk;cases h;obtain⟨h1,A,c,hv,h2,h3,h4,h5,h6,_⟩:=lO hx;obtain⟨p,q,hb,h7,h8,rfl,rfl⟩:=nv (P:=P) (w:=σ.w) af xs.length c _ _ _ _ (YR yK hl) (YR yK hr) hc h2;obtain⟨k1,k2,k3,k4,k5,k6,k7⟩:=vc h1 h2 h3 h5 h6 h7 h8;refine Zl ok (run _ (by rw[hv];simp[Instr.sliceAt,Instr.slice,run_underlying hu,hb,Z6 hk.2,hk.1];rfl)) ?_;rw[ve xs l r hc, <-k2];exact YM k1 (by rw[k2];exact k3) k4 (λb hb=>by rw[k5];exact h4 b hb) k6 k7
  .cases h
 .rename_i e id off yM s lo n l r hu hdx hl hr;rw[hdx]at hx;split at h
  .rename_i hk;simp only[yi,yP]at hk;cases h;obtain⟨b,c,aa,hm,hv,hx,h2,h3,h4⟩:=nw hx;obtain⟨p,q,hb,h7,h8,rfl,rfl⟩:=nv (P:=P) (w:=σ.w) af n c _ _ _ _ (YR yK hl) (YR yK hr) hc h2;refine Zl ok (run _ (by rw[hx];simp[Instr.sliceAt,Instr.slice,run_underlying hu,hb,Z6 hk.2,hk.1];rfl)) ?_;rw[Zi (by rfl)];simp only[yG];by_cases hcl:c=(l.getD 0).toNat
   .exact⟨b,c - (l.getD 0).toNat,aa,hm,hv,by rw[yW hcl],by omega,by omega,λh0=>absurd h0 (by omega)⟩
   .refine⟨b,c - (l.getD 0).toNat,aa.add ((l.getD 0).toNat*s),hm,hv,by rw[yX hcl],by omega,by omega,λh0=> ?_⟩;rw[h4 (by omega),Addr.bw,yau,Nat.add_assoc]
  .cases h
 .rename_i e id v s lo n l r hu hdx hl hr;rw[hdx]at hx;split at h
  .rename_i hs'';split at h
   .rename_i hk;simp only[yi,yP]at hk;cases h;obtain⟨A,c,hx,h2,h3,h4,h5,h6⟩:=jZ hx;obtain⟨p,q,hb,h7,h8,rfl,rfl⟩:=nv (P:=P) (w:=σ.w) af n c _ _ _ _ (YR yK hl) (YR yK hr) hc h2;refine Zl ok (run _ (by rw[hx];simp[Instr.sliceAt,Instr.slice,run_underlying hu,hb,Z6 hk.2,hk.1];rfl)) ?_;by_cases hz:0 < (r.getD (n:Int)).toNat - (l.getD 0).toNat
    .obtain⟨b,o',rfl⟩:=h5 (by omega);exact ZMD h2 h3 h4 (λ_=>⟨b,o',rfl⟩) h6 h7 (by omega)
    .rw[Zi (by rfl)];simp only[yG];refine⟨_,_,rfl,by omega,by omega,λhA=> ?_,λhp=>absurd hp hz,ZCd h6 (by omega)⟩;split at hA
     .omega
     .have hA':A=ae:=by simpa using hA
      have:=h4 hA';omega
   .cases h
  .cases h
 .rename_i n e n' s xs l r hu hdx hl hr;rw[hdx]at hx;split at h
  .rename_i hk;simp only[yi,yP]at hk;obtain⟨⟨⟨rfl,hk⟩,hk2⟩,hm⟩:=hk;cases h;obtain⟨b,off,us,hx',h2,h3⟩:=ru hx;simp only[aw]at h2;obtain⟨h4,h5,h6⟩:=h2;subst h4;obtain⟨p,q,hb,h7,h8,rfl,rfl⟩:=nv (P:=P) (w:=σ.w) ag xs.length xs.length _ _ _ _ (YR yK hl) (YR yK hr) hc (yj _);obtain⟨k1,k2,k3,k4,k5,k6,k7⟩:=vc (A:=ab ⟨b,off,ae⟩) h5 (yj _) hm (λhA=>by cases hA) (λ_=>⟨b,off,us,rfl,h6,h3⟩) h7 h8;refine Zl ok (run _ (by rw[hx'];simp[Instr.sliceAt,Instr.sureAddr,run_underlying hu,hb,Z6 hk2,hk];rfl)) ?_;rw[ve xs l r hc, <-k2];have:=YM (σ:=σ) k1 (by rw[k2];exact k3) k4 (lK k5) k6 k7;rw[k2]at this ⊢;simpa[apply_ite] using this
  .cases h
 .rename_i n e id off yM l r hu hdx hl hr;rw[hdx]at hx;split at h
  .rename_i hs'';split at h
   .rename_i hk;simp only[yi,yP]at hk;obtain⟨hk,hm'⟩:=hk;cases h;obtain⟨b,hm,hv,hx⟩:=lP hx;obtain⟨p,q,hb,h7,h8,rfl,rfl⟩:=nv (P:=P) (w:=σ.w) ag n n _ _ _ _ (YR yK hl) (YR yK hr) hc (yj _);refine Zl ok (run _ (by rw[hx];simp[Instr.sliceAt,Instr.sureAddr,run_underlying hu,hb,Z6 hk];rfl)) ?_;rw[Zi (by rfl)];simp only[yG];refine⟨b,_,_,hm,hv,rfl,by omega,by omega,λh0=> ?_⟩;rw[yX (by omega),Addr.bw]
   .cases h
  .cases h
 .cases h
theorem ZFA{P:yg}{w:World}(isSlice:Bool)(len cap:Nat){k1 k2 k3:IntKind}{l h m:Int}(h0:0<=l)(h1:l<=h)(h2:h<=m)(h3:m<=(cap:Int)):
 (Instr.sliceBounds isSlice len cap (ab (.int k1 l)) (ab (.int k2 h)) (ab (.int k3 m))).run P w=.ok (l.toNat,h.toNat,m.toNat) w:=by
 have b1:0<=m/\m<=(cap:Int):=⟨by omega,h3⟩;have b2:0<=h/\h<=(m.toNat:Int):=⟨by omega,by omega⟩;have b3:0<=l/\l<=(h.toNat:Int):=⟨h0,by omega⟩;simp[Instr.sliceBounds,Instr.sliceBound,asIntOf,b1,b2,b3];grind
theorem ZME{t:yc}{x:ym}{lo hi:yO ym}{mx:ym}(ok:Ok σ)(yK:aK σ ts a)(ho:o.op=.slice t x lo hi (ab mx))(h:be P o ts hs=ab (C,d,hs'))(hc:ba C):XE P o a σ d σ.H:=by
 simp only[be,ho]at h;have hx:=Zs (P:=P) yK t x;split at h
 .rename_i e id v s l0 n l r m hu hdx hl hr hm;rw[hdx]at hx;split at h
  .rename_i hi';cases h;obtain⟨c1,c2,c3,c4,_⟩:=hc;obtain⟨A,c,hx,h2,h3,_⟩:=jZ hx;rcases YR yK hl with⟨_,q⟩|⟨k1,i1,e1,q1⟩
   .cases q
   rcases YR yK hr with⟨_,q⟩|⟨k2,i2,e2,q2⟩
   .cases q
   rcases YR yK hm with⟨_,q⟩|⟨k3,i3,e3,q3⟩
   .cases q
   cases q1;cases q2;cases q3;have hb:=ZFA (P:=P) (w:=σ.w) af n c (k1:=k1) (k2:=k2) (k3:=k3) c1 c2 c3 (by omega:m<=(c:Int))
   have zU:∃u,(Instr.sliceAt t (a.eval x) (lo.map a.eval) (hi.map a.eval) (ab (a.eval mx))).run P σ.w=.ok u σ.w:=by
    have e3':a.eval mx=.int k3 m:=by simpa using e3
    rw[hx,e1,e2,e3'];exact⟨_,by simp[Instr.sliceAt,Instr.slice,run_underlying hu,hb,Z6 hi'];rfl⟩
   obtain⟨u,zU⟩:=zU;exact Zl (v:=u) ok (by simp[execOp,ho,zU]) WT
  .cases h
 .cases h
end
end Go.Ev
end
section
namespace Go.Ev
theorem ZtY(off:Nat):∀(vs:yL yh)(k:Nat)(cs:Array yh),off+k+vs.length<=cs.size->
 ((vs.zipIdx k).foldl (λcs q=>cs.setIfInBounds (off+q.2) q.1) cs).toList=cs.toList.take (off+k)++vs++cs.toList.drop (off+k+vs.length)
 |[],k,cs,_=>by simp
 |v::vs,k,cs,h=>by
  simp only[List.zipIdx_cons,List.foldl_cons,yam]at h ⊢;rw[ZtY off vs (k+1) _ (by simp;omega)];apply ybj;intro j;have hl:cs.toList.length=cs.size:=yby;simp only[Array.toList_setIfInBounds,List.getElem?_append,yl,yx,yba,hl,ycr,yca,List.getElem?_drop,yam];by_cases h1:j < off+k
  .have e1:j < min (off+(k+1)) cs.size:=by omega
   have e2:j < min (off+k) cs.size:=by omega
   have e3:¬(off+k=j):=by omega
   have e4:j < off+(k+1):=by omega
   have e5:j < min (off+(k+1)) cs.size+vs.length:=by omega
   have e6:j < min (off+k) cs.size+(vs.length+1):=by omega
   simp[e1,e2,e3,e4,e5,e6,h1]
  .by_cases h2:j=off+k
   .subst h2;have e1:off+k < min (off+(k+1)) cs.size:=by omega
    have e2:¬(off+k < min (off+k) cs.size):=by omega
    have e3:min (off+k) cs.size=off+k:=by omega
    have e4:off+k < min (off+(k+1)) cs.size+vs.length:=by omega
    have e5:off+k < cs.size:=by omega
    have e6:off+k < off+(k+1):=by omega
    simp[e1,e3,e4,e5,e6]
   .by_cases h3:j < off+(k+1)+vs.length
    .have e1:¬(j < min (off+(k+1)) cs.size):=by omega
     have e2:¬(j < min (off+k) cs.size):=by omega
     have e3:min (off+k) cs.size=off+k:=by omega
     have e4:min (off+(k+1)) cs.size=off+(k+1):=by omega
     have e5:j < off+k+(vs.length+1):=by omega
     have e6:j < off+(k+1)+vs.length:=by omega
     have e7:j - (off+k)=(j - (off+(k+1)))+1:=by omega
     have e8:¬(j < off+(k+1)):=by omega
     simp[e3,e4,e5,e6,h1,e7,e8]
    .have e1:min (off+k) cs.size=off+k:=by omega
     have e2:min (off+(k+1)) cs.size=off+(k+1):=by omega
     have e3:¬(j < off+(k+1)+vs.length):=by omega
     have e4:¬(j < off+k+(vs.length+1)):=by omega
     have e5:¬(off+k=off+(k+1)+vs.length+(j - (off+(k+1)+vs.length))):=by omega
     have e6:off+(k+1)+vs.length+(j - (off+(k+1)+vs.length))=off+k+(vs.length+1)+(j - (off+k+(vs.length+1))):=by omega
     simp only[e1,e2,e3,e4,if_false,e6];rw[yX (by omega)]
theorem ZMF(off:Nat)(vs cs:Array yh)(h:off+vs.size<=cs.size):
 (vs.zipIdx.foldl (λcs(q:yh×Nat)=>cs.setIfInBounds (off+q.2) q.1) cs).toList=cs.toList.take off++vs.toList++cs.toList.drop (off+vs.size):=by
 have:=ZtY off vs.toList 0 cs (by simpa using h);simp only[ybu,yby]at this;rw[<-this, <-Array.foldl_toList,Array.toList_zipIdx]
theorem oR:∀(ds:yL Dv),Dv.sizes ds=(ds.map Dv.size).sum
 |[]=>rfl
 |d::ds=>by simp[Dv.sizes,oR ds]
theorem ry:∀(ds:yL Pl),Pl.sizes ds=(ds.map Pl.size).sum
 |[]=>rfl
 |d::ds=>by simp[Pl.sizes,ry ds]
theorem ZwR{σ:Sg}{d:Dv}{v:yh}(hd:d.isAgg=af\/v.oneCell'=af)(h:yH σ d v):yG σ d v.cells.toList:=by
 cases ha:d.isAgg with
 |true=>
  obtain⟨cs,rfl,h1⟩:=(Ye ha).1 h
  exact h1
 |false=>
  have h1:=(Zi ha).1 h
  have:v.cells= #[v]:=by
   rcases hd with hd|hd
   .rw[ha]at hd;cases hd
   .cases v <;> first|rfl|(simp[Value.oneCell']at hd)
  rw[this];exact h1
mutual
theorem vg{σ:Sg}:∀(d:Dv)(vs:yL yh),d.bF=af->yG σ d vs->∀u,u∈vs->u.oneCell'=af
 |.p x,vs,_,h,u,hu=>by simp only[yG]at h;exact DS x vs h u hu
 |.elem _,_,_,h,u,hu=>by simp only[yG]at h;obtain⟨b,o,us,rfl,_⟩:=h;cases yas.1 hu;rfl
 |.am _ _ _,_,_,h,u,hu=>by simp only[yG]at h;obtain⟨b,_,_,rfl⟩:=h;cases yas.1 hu;rfl
 |.own _ _ _ _,_,_,h,u,hu=>by simp only[yG]at h;obtain⟨_,A,c,rfl,_⟩:=h;cases yas.1 hu;rfl
 |.view _ _ _ _ _ _,_,_,h,u,hu=>by simp only[yG]at h;obtain⟨b,c,a,_,_,rfl,_⟩:=h;cases yas.1 hu;rfl
 |.agg xs,vs,hs,h,u,hu=>by simp only[yG]at h;simp only[Dv.bF]at hs;exact dJ xs vs hs h u hu
 |.arr n s xs,vs,hs,h,u,hu=>by simp only[yG]at h;simp only[Dv.bF]at hs;exact dJ xs vs hs h.2.2 u hu
 |.fn _ _,_,_,h,u,hu=>by simp only[yG]at h;obtain⟨fs,cs,rfl,_⟩:=h;cases yas.1 hu;rfl
 |.iface _ _,_,_,h,u,hu=>by simp only[yG]at h;obtain⟨cs,rfl,_⟩:=h;cases yas.1 hu;rfl
 |.bi _,_,hs,_,_,_=>by simp[Dv.bF]at hs
 |.mp _,_,_,h,u,hu=>by simp only[yG]at h;obtain⟨b,_,_,rfl⟩:=h;cases yas.1 hu;rfl
 |.rv _ _ _ _ _,_,_,h,u,hu=>by simp only[yG]at h;obtain⟨A,c,rfl,_⟩:=h;cases yas.1 hu;rfl
 |.aZ _ _ _ _,_,_,h,u,hu=>by simp only[yG]at h;obtain⟨b,o,rfl,_⟩:=h;cases yas.1 hu;rfl
 |.aA,_,hs,_,_,_=>by simp[Dv.bF]at hs
theorem dJ{σ:Sg}:∀(ds:yL Dv)(vs:yL yh),Dv.dH ds=af->aI σ ds vs->∀u,u∈vs->u.oneCell'=af
 |[],_,_,h,u,hu=>by simp only[aI]at h;subst h;cases hu
 |x::xs,vs,hs,h,u,hu=>by
  simp only[Dv.dH,yi]at hs;simp only[aI]at h;obtain⟨us,us',rfl,h1,h2⟩:=h;rcases List.mem_append.1 hu with h3|h3
  .exact vg x us hs.1 h1 u h3
  .exact dJ xs us' hs.2 h2 u h3
end
theorem nx{σ:Sg}{d:Dv}{v:yh}(hs:d.bF=af)(h:yH σ d v):yG σ d v.cells.toList:=by
 cases ha:d.isAgg with
 |true=>exact ZwR (.inl ha) h
 |false=>
  have h1:=(Zi ha).1 h;exact ZwR (.inr (vg d _ hs h1 v (by simp))) h
theorem vh{σ:Sg}{place:Nat->yO (Nat×Nat)}{sz:yL Nat}(hp:∀i s,sz[i]? =ab s->place i=ab ((sz.take i).sum,s)):
 ∀(parts:yL (Nat×Dv×yh))(ds ds':yL Dv)(cells:Array yh),ds.map Dv.size=sz->aI σ ds cells.toList->(∀q,q∈parts->q.2.1.bF=af/\yH σ q.2.1 q.2.2)->
  iN ds (parts.map λq=>(q.1,q.2.1))=ab ds'->∃cells',Instr.fill place cells (parts.map λq=>(q.1,q.2.2))=ab cells'/\aI σ ds' cells'.toList/\ds'.map Dv.size=sz
 |[],ds,ds',cells,hsz,hr,_,h=>by
  simp only[List.map_nil,iN,yp]at h;subst h
  exact⟨cells,rfl,hr,hsz⟩
 |(i,d,v)::yJ,ds,ds',cells,hsz,hr,hq,h=>by
  simp only[yag,iN,yf]at h;obtain⟨ds1,h1,h2⟩:=h;unfold uR at h1;split at h1
  .rename_i old hold;split at h1
   .rename_i hsame;cases h1;obtain⟨a,b,c,e,ha,hb,hbl,h3,h4⟩:=ni hr hold;obtain⟨hd1,hd2⟩:=hq (i,d,v) (yax ..);have hcells:=nx hd1 hd2;have hvl:v.cells.toList.length=d.size:=Vf _ _ hcells;have hi:i < ds.length:=(yo.1 hold).1;have hszi:sz[i]? =ab d.size:=by rw[<-hsz,yak,hold];simp[hsame]
    have hpl:=hp i _ hszi;have hoff:(sz.take i).sum=a.length:=by rw[ha,oR, <-hsz,List.map_take]
    have hcs:cells.size=a.length+(b.length+c.length):=by
     rw[<-yby,e];simp
    have hbl':b.length=d.size:=by rw[hbl,hsame]
    have hvs:v.cells.size=d.size:=by rw[<-hvl,yby]
    have hrest:=vh hp yJ (ds.set i d) ds' (v.cells.zipIdx.foldl (λcs(q:yh×Nat)=>cs.setIfInBounds (a.length+q.2) q.1) cells) (by
     rw[<-hsz,List.map_set,hsame.symm];apply ybj;intro j;rw[yca];split
     .rename_i hij;subst hij;rw[yak,hold];simp[hi]
     .rfl) (by
     rw[ZMF _ _ _ (by omega),e];have e1:(a++(b++c)).take a.length=a:=by simp
     have e2:(a++(b++c)).drop (a.length+v.cells.size)=c:=by
      rw[hvs, <-hbl', <-yad, <-yl];simp
     rw[e1,e2,yad]
     have e3:ds.set i d=ds.take i++(d::ds.drop (i+1)):=by
      rw[List.set_eq_take_append_cons_drop,yW hi]
     rw[e3];refine rj h3 ?_;simp only[aI];exact⟨_,_,rfl,hcells,h4⟩) (λq hq'=>hq q (yaz _ hq')) h2
    obtain⟨cells',k1,k2,k3⟩:=hrest;refine⟨cells', ?_,k2,k3⟩;simp only[yag,Instr.fill,hpl,hoff];rw[yX (by simp;omega)];exact k1
   .cases h1
  .cases h1
theorem EA{σ:Sg}:∀{ds:yL Dv}{xs:yL Pl}{us:yL yh},jl ds=ab xs->aI σ ds us->aq σ.w σ.aU xs us
 |[],xs,us,h,hr=>by simp only[jl,yp]at h;subst h;simpa[aI,aq] using hr
 |d::ds,xs,us,h,hr=>by
  simp only[jl]at h;split at h
  .rename_i x ys h1 h2;cases h;simp only[aI]at hr;obtain⟨a,b,rfl,h3,h4⟩:=hr;simp only[aq];refine⟨a,b,rfl, ?_,EA h2 h4⟩;unfold Dv.plain at h1;split at h1
   .cases h1;simpa[yG] using h3
   .cases h1;simp only[yG]at h3;obtain⟨k1,A,c,k2,k3,k4,k5,k6,k7,_⟩:=h3;simp only[aw];exact⟨k1,A,c,k2,k3,k4,k5,k6,k7⟩
   .cases h1
  .cases h
theorem ZwS:∀{ds:yL Dv}{xs:yL Pl},jl ds=ab xs->xs.map Pl.size=ds.map Dv.size
 |[],xs,h=>by simp only[jl,yp]at h;subst h;rfl
 |d::ds,xs,h=>by
  simp only[jl]at h;split at h
  .rename_i x ys h1 h2;cases h;simp only[yag,ZwS h2];congr 1;unfold Dv.plain at h1;split at h1 <;> first|(cases h1;rfl)|cases h1
  .cases h
mutual
theorem vi:∀(d:Dv)(x:Pl),d.flat=ab x->x.size=d.size
 |.p y,x,h=>by rw[Dv.flat]at h;cases h;rfl
 |.own id nn s xs,x,h=>by rw[Dv.flat]at h;cases h;rfl
 |.agg ds,x,h=>by
  rw[Dv.flat]at h
  cases h2:Dv.aP ds with
  |none=>rw[h2]at h;cases h
  |some xs=>
   rw[h2]at h;cases h;rw[Pl.size,Dv.size]
   exact eA ds xs h2
 |.elem _,x,h=>by simp[Dv.flat]at h
 |.am _ _ _,x,h=>by simp[Dv.flat]at h
 |.view _ _ _ _ _ _,x,h=>by simp[Dv.flat]at h
 |.arr _ _ _,x,h=>by simp[Dv.flat]at h
 |.fn _ _,x,h=>by simp[Dv.flat]at h
 |.iface _ _,x,h=>by simp[Dv.flat]at h
 |.bi _,x,h=>by simp[Dv.flat]at h
 |.mp _,x,h=>by simp[Dv.flat]at h
 |.rv _ _ _ _ _,x,h=>by simp[Dv.flat]at h
 |.aZ _ _ _ _,x,h=>by simp[Dv.flat]at h
 |.aA,x,h=>by simp[Dv.flat]at h
theorem eA:∀(ds:yL Dv)(xs:yL Pl),Dv.aP ds=ab xs->Pl.sizes xs=Dv.sizes ds
 |[],xs,h=>by rw[Dv.aP]at h;cases h;rfl
 |d::ds,xs,h=>by
  rw[Dv.aP]at h;split at h
  .rename_i x ys h1 h2;cases h;rw[Pl.sizes,Dv.sizes,vi d x h1,eA ds ys h2]
  .cases h
end
theorem Zy8:∀{ds:yL Dv}{xs:yL Pl},Dv.aP ds=ab xs->xs.map Pl.size=ds.map Dv.size
 |[],xs,h=>by rw[Dv.aP]at h;cases h;rfl
 |d::ds,xs,h=>by
  rw[Dv.aP]at h;split at h
  .rename_i x ys h1 h2;cases h;simp only[yag,Zy8 h2,vi d x h1]
  .cases h
mutual
theorem Zy9:∀(d:Dv)(x:Pl),d.flat=ab x->d.bF=af
 |.p y,x,h=>rfl
 |.own id nn s xs,x,h=>rfl
 |.agg ds,x,h=>by
  rw[Dv.flat]at h
  cases h2:Dv.aP ds with
  |none=>rw[h2]at h;cases h
  |some xs=>rw[Dv.bF];exact dO ds xs h2
 |.elem _,x,h=>by simp[Dv.flat]at h
 |.am _ _ _,x,h=>by simp[Dv.flat]at h
 |.view _ _ _ _ _ _,x,h=>by simp[Dv.flat]at h
 |.arr _ _ _,x,h=>by simp[Dv.flat]at h
 |.fn _ _,x,h=>by simp[Dv.flat]at h
 |.iface _ _,x,h=>by simp[Dv.flat]at h
 |.bi _,x,h=>by simp[Dv.flat]at h
 |.mp _,x,h=>by simp[Dv.flat]at h
 |.rv _ _ _ _ _,x,h=>by simp[Dv.flat]at h
 |.aZ _ _ _ _,x,h=>by simp[Dv.flat]at h
 |.aA,x,h=>by simp[Dv.flat]at h
theorem dO:∀(ds:yL Dv)(xs:yL Pl),Dv.aP ds=ab xs->Dv.dH ds=af
 |[],xs,h=>rfl
 |d::ds,xs,h=>by
  rw[Dv.aP]at h;split at h
  .rename_i x ys h1 h2;rw[Dv.dH,Zy9 d x h1,dO ds ys h2];rfl
  .cases h
end
theorem ZwT:∀{ds:yL Dv}{xs:yL Pl},Dv.aP ds=ab xs->∀d,d∈ds->d.bF=af
 |[],_,_,d,hd=>by cases hd
 |x::ds,xs,h,d,hd=>by
  rw[Dv.aP]at h;split at h
  .rename_i y ys h1 h2
   cases hd with
   |head=>exact Zy9 _ _ h1
   |tail _ hd=>exact ZwT h2 d hd
  .cases h
theorem ZK5{σ:Sg}{ds:yL Dv}{xs:yL Pl}{us:yL yh}(h:Dv.aP ds=ab xs)(hr:aI σ ds us):aq σ.w σ.aU xs us:=dI ds xs us h hr
theorem ZK6{σ:Sg}{ds:yL Dv}{cs:Array yh}(hr:aI σ ds cs.toList):yH σ (qR ds) (.agg cs):=by
 unfold qR;split
 .rename_i xs h;rw[Ye rfl];exact⟨cs,rfl,by simp only[yG,aw];exact EA h hr⟩
 .rw[Ye rfl];exact⟨cs,rfl,by simp only[yG];exact hr⟩
theorem ZCe{P:yg}{σ:Sg}{t:yc}{d:Dv}(h:WH P t=d)(hj:d≠ .aA):∃i v,P.info? t=ab i/\i.zero=ab v/\yH σ d v:=by
 unfold WH at h;split at h
 .rename_i i hi;split at h
  .rename_i v hv;exact⟨i,v,hi,hv,by rw[<-h];exact ng⟩
  .exact absurd h.symm hj
 .exact absurd h.symm hj
theorem ZCf{P:yg}:∀(fs:yL Field),(∀f,f∈fs->(P.info? f.type).isSome=af)->
 fs.mapM (λf=>(P.info? f.type).map λi=>(f.offset,i.size))=ab (fs.map λf=>(f.offset,P.cellsOf f.type))
 |[],_=>by simp
 |f::fs,h=>by
  have h1:=h f (yax ..)
  cases hi:P.info? f.type with
  |none=>simp[hi]at h1
  |some i=>
   simp[List.mapM_cons,hi,ZCf fs (λg hg=>h g (yaz _ hg)),Program.cellsOf]
section
variable{P:yg}{o:Oper}{a:Act}{σ:Sg}{ts:yL Dv}{hs hs':yL ar}{C:yL Prop}{d:Dv}
theorem EB(yK:aK σ ts a)(f:Nat->yc)(parts:yL (Nat×ym))(hsol:mV (iq P ts f parts)=af):
 ∃qs:yL (Nat×Dv×yh),(qs.map λq=>(q.1,q.2.1))=iq P ts f parts/\(qs.map λq=>(q.1,q.2.2))=parts.map (λq=>(q.1,a.eval q.2))/\(∀q,q∈qs->q.2.1.bF=af/\yH σ q.2.1 q.2.2):=by
 refine⟨parts.map λq=>(q.1,ZB P ts (f q.1) q.2,a.eval q.2),by simp[iq],by simp,λq hq=> ?_⟩;obtain⟨x,hx,rfl⟩:=yci.1 hq;refine⟨?_,Zs yK _ _⟩;simp only[mV,iq,List.all_map,ybx]at hsol;exact hsol x hx
theorem ZiM(n s i:Nat)(h:i<=n):((yw n s).take i).sum=i*s:=by
 rw[List.take_replicate,ybc h,List.sum_replicate_nat]
theorem ZPH{t:yc}{parts:Array (Nat×ym)}(ok:Ok σ)(yK:aK σ ts a)(ho:o.op=.build t parts)(h:be P o ts hs=ab (C,d,hs')):XE P o a σ d σ.H:=by
 simp only[be,ho]at h
 have run:∀cells,P.built t (parts.map λq=>(q.1,a.eval q.2)).toList=ab cells->(execOp a.eval o).run P σ.w=.ok (.value (.agg cells)) σ.w:=λcells hv=>by
  have:=run_build (P:=P) σ.w t (parts.map λq=>(q.1,a.eval q.2)) cells hv;simp[execOp,ho,this]
 split at h
 .rename_i fs zs hu hz;split at h
  .rename_i hk;simp only[yi,yT]at hk;obtain⟨⟨hsol,zV⟩,zO⟩:=hk;simp only[yn,yz]at h;obtain⟨ds,hset,rfl,rfl,rfl⟩:=h;obtain⟨it,z,hit,hitz,hzr0⟩:=ZCe (σ:=σ) hz (by simp);obtain⟨cs,rfl,hzr⟩:=(Ye rfl).1 hzr0;simp only[yG,aw]at hzr
   have hf:∀i,i < fs.size->∃f z,fs[i]? =ab f/\zs[i]? =ab z/\f.offset=Pl.sizes (zs.take i)/\P.cellsOf f.type=z.size/\(P.info? f.type).isSome=af:=by
    intro i hi;have hi':i < zs.length:=by omega
    have h1:=ybx.1 zO i (List.mem_range.2 hi');unfold lL at h1;have hzi:zs.getD i default=zs[i]:=by simp[List.getD,hi']
    rw[hzi]at h1;have hfi:fs[i]? =ab fs[i]:=Array.getElem?_eq_getElem hi;rw[hfi]at h1;simp only[yi,yT]at h1;obtain⟨⟨⟨⟨⟨h2,h3⟩,h4⟩,_⟩,_⟩,_⟩:=h1;exact⟨fs[i],zs[i],hfi,yac hi',h2,h3,h4⟩
   have hmap:=ZCf (P:=P) fs.toList (λf hf'=>by
    obtain⟨i,hi,rfl⟩:=List.getElem_of_mem hf';obtain⟨f,z,h1,_,_,_,h2⟩:=hf i (by simpa using hi)
    have:fs.toList[i]=f:=by
     have:=(Array.getElem?_eq_some_iff.1 h1).2;simpa using this
    rw[this];exact h2)
   obtain⟨qs,hq1,hq2,hq3⟩:=EB (P:=P) yK (lM P t) parts.toList hsol;rw[<-hq1]at hset
   obtain⟨cells',hfill,hr,_⟩:=vh (σ:=σ) (place:=((fs.toList.map λf=>(f.offset,P.cellsOf f.type)).toArray[·]?)) (sz:=zs.map Pl.size) (by
    intro i s hi;rw[yak]at hi;obtain⟨z,hz1,hz2⟩:=yn.1 hi;have hi':i < zs.length:=(yo.1 hz1).1;obtain⟨f,z',h1,h2,h3,h4,_⟩:=hf i (by omega);rw[hz1]at h2;cases h2;have:fs.toList[i]? =ab f:=by simpa using h1
    simp only[List.getElem?_toArray,yak,this,Option.map_some,h3,h4,hz2,ry,List.map_take]) qs (zs.map .p) ds cs (by simp[Dv.size,Function.comp_def]) (nj.2 hzr) hq3 hset
   have hb:P.built t (parts.map λq=>(q.1,a.eval q.2)).toList=ab cells':=by
    unfold Program.built;rw[hit,hu];simp only[hitz,hmap,Value.cells];rw[ycu, <-hq2];exact hfill
   exact Zl ok (run _ hb) (ZK6 hr)
  .cases h
 .rename_i n e n' s zs hu hz;split at h
  .rename_i hk;simp only[yi,yP]at hk;obtain⟨⟨hsol,hse⟩,hie⟩:=hk;simp only[yf]at h;obtain⟨ds,hset,h⟩:=h;obtain⟨it,z,hit,hitz,hzr0⟩:=ZCe (σ:=σ) hz (by simp);obtain⟨cs,rfl,hzr⟩:=(Ye rfl).1 hzr0;simp only[yG,aw]at hzr;obtain⟨hzl,hzs,hzr⟩:=hzr;obtain⟨qs,hq1,hq2,hq3⟩:=EB (P:=P) yK (lM P t) parts.toList hsol;rw[<-hq1]at hset
   have hszs:(zs.map Dv.p).map Dv.size=yw n' s:=by
    rw[<-hzl];apply ybj;intro j;simp only[yak,List.getElem?_replicate]
    cases hj:zs[j]? with
    |none=>
     have:=List.getElem?_eq_none_iff.1 hj
     simp;omega
    |some x=>
     have h1:=(yo.1 hj).1;simp[h1,Dv.size,hzs x (List.mem_of_getElem? hj)]
   obtain⟨cells',hfill,hr,hsz'⟩:=vh (σ:=σ) (place:=λi=>ab (i*s,s)) (sz:=yw n' s) (by
    intro i s' hi;simp only[List.getElem?_replicate]at hi;split at hi
    .cases hi;rw[ZiM _ _ _ (by omega)]
    .cases hi) qs (zs.map .p) ds cs hszs (nj.2 hzr) hq3 hset
   have hlen':ds.length=n':=by
    have:=congrArg List.length hsz';simpa using this
   have hall':∀x,x∈ds->x.size=s:=by
    intro x hx;have:x.size∈ds.map Dv.size:=List.mem_map_of_mem hx;rw[hsz']at this;exact List.eq_of_mem_replicate this
   have hb:P.built t (parts.map λq=>(q.1,a.eval q.2)).toList=ab cells':=by
    unfold Program.built;rw[hit,hu]
    cases hie':P.info? e with
    |none=>simp[hie']at hie
    |some ie=>
     have:ie.size=s:=by rw[<-hse];simp[Program.cellsOf,hie']
     simp only[hitz,hie',Value.cells,this];rw[ycu, <-hq2];exact hfill
   split at h
   .rename_i xs hxs;cases h;refine Zl ok (run _ hb) ?_;rw[Ye rfl];have hps:=ZwS hxs
    refine⟨cells',rfl,by
     simp only[yG,aw];refine⟨?_, ?_,EA hxs hr⟩
     .have:=congrArg List.length hps;simp only[yab]at this;rw[this,hlen']
     .intro x hx;have:x.size∈xs.map Pl.size:=List.mem_map_of_mem hx;rw[hps,hsz']at this;exact List.eq_of_mem_replicate this⟩
   .cases h;refine Zl ok (run _ hb) ?_;rw[Ye rfl];exact⟨cells',rfl,by simp only[yG];exact⟨hlen',hall',hr⟩⟩
  .cases h
 .cases h
end
theorem Zza(s:Nat):∀(new pre post:yL Dv),post.length=new.length->(∀x,x∈post->x.size=s)->(∀x,x∈new->x.size=s)->
 iN (pre++post) ((List.range' pre.length new.length).zip new)=ab (pre++new)
 |[],pre,post,hl,_,_=>by
  have:post=[]:=ybh (by simpa using hl);subst this
  simp[iN]
 |d::new,pre,[],hl,_,_=>by simp at hl
 |d::new,pre,q::post,hl,h1,h2=>by
  simp only[yam,List.range'_succ,List.zip_cons_cons,iN];have e:(pre++q::post)[pre.length]? =ab q:=by simp
  have hs:q.size=d.size:=by rw[h1 q (yax ..),h2 d (yax ..)]
  have e2:(pre++q::post).set pre.length d=(pre++[d])++post:=by simp
  simp only[uR,e,hs,if_true,Option.bind_some,e2];have:=Zza s new (pre++[d]) post (by simpa using hl) (λx hx=>h1 x (yaz _ hx)) (λx hx=>h2 x (yaz _ hx));simp only[yl,yam,List.length_nil,yat,yad,List.singleton_append]at this ⊢;exact this
theorem ZMG{α β γ:Type}(f:α->β)(g:α->γ):∀(l:yL α),l.map (λq=>(f q,g q))=(l.map f).zip (l.map g)
 |[]=>rfl
 |x::l=>by simp[ZMG f g l]
theorem ZCg{σ:Sg}:∀(us:yL yh),aI σ (yw us.length .aA) us
 |[]=>by simp[aI]
 |u::us=>by
  simp only[yam,List.replicate_succ,aI];exact⟨[u],us,rfl,by simp[yG],ZCg us⟩
def oS(s:Nat):Dv:=.agg (yw s .aA)
theorem Zzb(s:Nat):(oS s).size=s:=by
 show Dv.sizes (yw s .aA)=s;rw[oR,List.map_replicate,List.sum_replicate_nat];simp[Dv.size]
theorem ZK7{σ:Sg}{s:Nat}{us:yL yh}(h:us.length=s):yG σ (oS s) us:=by
 subst h;show yG σ (.agg (yw us.length .aA)) us;simp only[yG];exact ZCg us
theorem Zzc{σ:Sg}{s:Nat}:∀(n:Nat)(us:yL yh),us.length=n*s->aI σ (yw n (oS s)) us
 |0,us,h=>by
  have:us=[]:=ybh (by simpa using h);subst this
  simp[aI]
 |n+1,us,h=>by
  rw[yau,Nat.one_mul]at h;simp only[List.replicate_succ,aI];exact⟨us.take s,us.drop s,(ybd s us).symm,ZK7 (by rw[yx];omega),Zzc n _ (by rw[List.length_drop];omega)⟩
section
variable{P:yg}{o:Oper}{a:Act}{σ:Sg}{ts:yL Dv}{hs hs':yL ar}{C:yL Prop}{d:Dv}
theorem ZK8(yK:aK σ ts a){e:yc}{s len:Nat}{parts:yL (Nat×ym)}{xs:yL Pl}(h:VR P ts e s len parts=ab xs)(Z:Array yh)(hZ:Z.size=len*s):
 ∃cells:Array yh,Instr.fill (λi=>ab (i*s,s)) Z (parts.map λq=>(q.1,a.eval q.2))=ab cells/\aq σ.w σ.aU xs cells.toList/\xs.length=len/\aR s xs:=by
 unfold VR at h;split at h
 .rename_i hr;have hr':parts.map (·.1)=yu len:=by simpa using hr
  split at h
  .rename_i xs' hp;split at h
   .rename_i zO;cases h
    have hsz:∀x,x∈xs->x.size=s:=by
     intro x hx;have:=ybx.1 zO x hx;simpa using this
    have hps:=Zy8 hp
    have hdl:(parts.map λq=>ZB P ts e q.2).length=len:=by
     have:=congrArg List.length hr';simpa using this
    have hds:∀x,x∈(parts.map λq=>ZB P ts e q.2)->x.size=s:=by
     intro x hx;have h1:x.size∈(parts.map λq=>ZB P ts e q.2).map Dv.size:=List.mem_map_of_mem hx;rw[<-hps]at h1;obtain⟨y,hy,he⟩:=yci.1 h1;rw[<-he];exact hsz y hy
    have hxl:xs.length=len:=by
     have:=congrArg List.length hps;simp only[yab]at this;rw[this];simpa using hdl
    obtain⟨qs,hq1,hq2,hq3⟩:=EB (P:=P) yK (λ_=>e) parts (by
     simp only[mV,iq,List.all_map,ybx];intro q hq;exact ZwT hp _ (List.mem_map_of_mem hq))
    have hset:iN (yw len (oS s)) (iq P ts (λ_=>e) parts)=ab (parts.map λq=>ZB P ts e q.2):=by
     have h1:=Zza s (parts.map λq=>ZB P ts e q.2) [] (yw len (oS s)) (by simpa using hdl.symm) (λx hx=>by rw[List.eq_of_mem_replicate hx,Zzb]) hds;simp only[List.nil_append,List.length_nil]at h1
     have h2:iq P ts (λ_=>e) parts=(List.range' 0 (parts.map λq=>ZB P ts e q.2).length).zip (parts.map λq=>ZB P ts e q.2):=by
      rw[hdl, <-List.range_eq_range', <-hr'];exact ZMG _ _ parts
     rw[h2];exact h1
    rw[<-hq1]at hset
    obtain⟨cells,hfill,hrd,_⟩:=vh (σ:=σ) (place:=λi=>ab (i*s,s)) (sz:=yw len s) (by
     intro i s' hi;simp only[List.getElem?_replicate]at hi;split at hi
     .cases hi;rw[ZiM _ _ _ (by omega)]
     .cases hi) qs (yw len (oS s)) _ Z (by simp[Zzb]) (Zzc len _ (by simpa using hZ)) hq3 hset
    refine⟨cells, ?_,ZK5 hp hrd,hxl,λx hx=>hsz x hx⟩;rw[<-hq2];exact hfill
   .cases h
  .cases h
 .cases h
theorem Zzd{e t:yc}{i:TypeInfo}{len:Nat}{parts:Array (Nat×yh)}{Q:Array yh->Prop}(w:World)(hu:P.underlying t=ab (.slice e))(hi:P.info? e=ab i)(hz:ca i=af)
 (hsz:len*i.size<=16777216) (hfill:∀Z:Array yh,Z.size=len*i.size->∃cells,Instr.fill (λj=>ab (j*i.size,i.size)) Z parts.toList=ab cells/\Q cells):
 ∃cells,(Instr.buildSlice t len parts).run P w=.ok (.slice (ab ⟨w.heap.size,0,ae⟩) len len) (w.alloc (.cells cells e))/\Q cells:=by
 unfold ca at hz;split at hz
 .rename_i z hzz;have h1:¬(16777216 < len*i.size):=by omega
  by_cases h0:len*i.size=0
  .obtain⟨cells,h2,hq⟩:=hfill ((Array.range (len*i.size)).map (#[][· % (#[]:Array yh).size]!)) (by simp);refine⟨cells, ?_,hq⟩;simp only[h0]at h2;simp[Instr.buildSlice,run_underlying hu,sizeOf,typeInfo,hi,h0,newRow];simp at h2;simp[h2]
  .obtain⟨cells,h2,hq⟩:=hfill ((Array.range (len*i.size)).map (z.cells[· % z.cells.size]!)) (by simp);exact⟨cells,by simp[Instr.buildSlice,run_underlying hu,sizeOf,typeInfo,zeroValue,hi,hzz,h1,h0,newRow,h2],hq⟩
 .cases hz
end
theorem ck{α:Type}{l:yL α}{i j:Nat}{x:α}(h:i≠j):(l.set i x)[j]? =l[j]? :=by
 rw[yca,yX h]
theorem an{α:Type}{l:yL α}{i:Nat}{x y:α}(h:l[i]? =ab y):(l.set i x)[i]? =ab x:=by
 rw[yca,yW rfl,yW (yo.1 h).1]
theorem Wg{σ σ':Sg}(ok:Ok σ){id:Nat}{mi mi':yO Nat}{en en':ay}(hH:σ.H[id]? =ab en)(hm:σ.m[id]? =ab mi)
 (eF:σ'.F=σ.F) (en_:σ'.B=σ.B) (eH:σ'.H=σ.H.set id en') (em:σ'.m=σ.m.set id mi')
 (hos:σ'.w.os=σ.w.os) (htape:σ'.w.tape=σ.w.tape) (hout:σ'.w.output=σ.w.output) (hsize:σ.w.heap.size<=σ'.w.heap.size)
 (zB:∀b,b < σ.w.heap.size->mi≠ab b->σ'.w.heap[b]? =σ.w.heap[b]?)
 (hown:∀b o v,mi=ab b->en.bp o->σ.w.cell? ⟨b,o,ae⟩=ab v->σ'.w.cell? ⟨b,o,ae⟩=ab v)
 (hunl:∀o,mi'=mi->en.bp o->en'.bp o)
 (hmi:mi'=mi\/∃b',mi'=ab b'/\σ.w.heap.size<=b'/\b' < σ'.w.heap.size)
 (hvar:(∃d st,en=.var d st)->mi'=mi/\∃d st,en'=.var d st)
 (hmap:(∃t bu,en=.map t bu)->mi'=mi/\∃t bu,en'=.map t bu)
 (hlog:∀s e xs,en=.log s e xs->∃xs',en'=.log s e xs'/\xs.length<=xs'.length/\(xs'.length=xs.length->mi'=mi/\∀b,b < σ.w.heap.size->σ'.w.heap[b]? =σ.w.heap[b]?))
 (hent:cu σ σ'->dc σ' mi' en')
 (hrow:∀v s st e d,en=.row v s st e d->∃v' st' d',en'=.row v' s st' e d'/\v<=v'/\(v'=v->mi'=mi/\∀b cur,mi=ab b->σ.w.heap[b]? =ab (.cells cur e (0,0))->∃cur',σ'.w.heap[b]? =ab (.cells cur' e (0,0))/\cur'.size=cur.size):=by
   intro _ _ _ _ _ h;cases h):To σ σ'/\Ok σ':=by
 have hlt:∀b,mi=ab b->b < σ.w.heap.size:=λb h=>ok.lt id b (by rw[hm,h]);have mset:∀j,j≠id->σ'.m[j]? =σ.m[j]? :=λj hj=>by rw[em,ck (Ne.symm hj)]
 have mself:σ'.m[id]? =ab mi':=by rw[em];exact an hm
 have Hset:∀j,j≠id->σ'.H[j]? =σ.H[j]? :=λj hj=>by rw[eH,ck (Ne.symm hj)]
 have Hself:σ'.H[id]? =ab en':=by rw[eH];exact an hH
 have hob:∀j b,j≠id->σ.m[j]? =ab (ab b)->σ'.w.heap[b]? =σ.w.heap[b]? :=λj b hj h=>
  zB b (ok.lt j b h) (λhe=>hj (ok.inj j id b h (by rw[hm,he])))
 have leaf:cu σ σ':=by
  refine⟨λb o v h1 h2=>⟨?_, ?_, ?_⟩,λj b h1 h2=> ?_,λj s len A c h1=> ?_,λj b h1 h2=> ?_,λj v s st e d h1=> ?_⟩
  .by_cases hb:mi=ab b
   .exact hown b o v hb (h2.2 id en (by rw[hm,hb]) hH) h1
   .rw[World.cell?_of_block (w:=σ.w) (zB b (Qd h1) hb)];exact h1
  .rcases h2.1 with h3|h3
   .exact .inl (by rw[eF];exact h3)
   .exact .inr (by rw[en_];exact h3)
  .intro j e hj he;by_cases hji:j=id
   .subst hji;rw[mself]at hj;rw[Hself]at he;cases he;have hj':mi'=ab b:=by simpa using hj
    rcases hmi with h3|⟨b',h3,h4,_⟩
    .have hmb:mi=ab b:=by rw[<-h3,hj']
     exact hunl o h3 (h2.2 j en (by rw[hm,hmb]) hH)
    .have:b'=b:=by rw[h3]at hj';exact yaw hj'
     have:=Qd h1;omega
   .rw[mset j hji]at hj;rw[Hset j hji]at he;exact h2.2 j e hj he
  .by_cases hji:j=id
   .subst hji;obtain⟨d,st,h2⟩:=h2;rw[hH]at h2;obtain⟨h3,d',st',h4⟩:=hvar ⟨d,st,yaw h2⟩;rw[hm]at h1;exact⟨by rw[mself,h3];exact h1,d',st',by rw[Hself,h4]⟩
   .exact⟨by rw[mset j hji];exact h1,by rw[Hset j hji];exact h2⟩
  .obtain⟨e,ys,h2,h3,h4⟩:=h1;by_cases hji:j=id
   .subst hji;rw[hH]at h2;obtain⟨xs',k1,k2,k3⟩:=hlog s e ys (yaw h2);refine⟨e,xs',by rw[Hself,k1],by omega,λhl=> ?_⟩;obtain⟨k4,k5⟩:=k3 (by omega);rcases h4 (by omega) with⟨h5,h6⟩|⟨b,cur,h5,h6,h7,h8⟩
    .exact .inl ⟨by rw[mself,k4, <-hm];exact h5,h6⟩
    .exact .inr ⟨b,cur,by rw[mself,k4, <-hm];exact h5,h6,(k5 b (ok.lt j b h5)).trans h7,h8⟩
   .refine⟨e,ys,by rw[Hset j hji];exact h2,h3,λhl=> ?_⟩;rcases h4 hl with⟨h5,h6⟩|⟨b,cur,h5,h6,h7,h8⟩
    .exact .inl ⟨by rw[mset j hji];exact h5,h6⟩
    .exact .inr ⟨b,cur,by rw[mset j hji];exact h5,h6,(hob j b hji h5).trans h7,h8⟩
  .by_cases hji:j=id
   .subst hji;obtain⟨d,st,h2⟩:=h2;rw[hH]at h2;obtain⟨h3,d',st',h4⟩:=hmap ⟨d,st,yaw h2⟩;rw[hm]at h1;exact⟨by rw[mself,h3];exact h1,d',st',by rw[Hself,h4]⟩
   .exact⟨by rw[mset j hji];exact h1,by rw[Hset j hji];exact h2⟩
  .by_cases hji:j=id
   .subst hji;rw[hH]at h1;obtain⟨v',st',d',k1,k2,k3⟩:=hrow v s st e d (yaw h1);refine⟨v',st',d',by rw[Hself,k1],k2,λhv=> ?_⟩;obtain⟨k4,k5⟩:=k3 hv;exact⟨by rw[mself,k4, <-hm],λb cur hb hc=>k5 b cur (by rw[hm]at hb;exact yaw hb) hc⟩
   .exact⟨v,st,d,by rw[Hset j hji];exact h1,yj _,λ_=>⟨mset j hji,λb cur hb hc=>⟨cur,(hob j b hji hb).trans hc,rfl⟩⟩⟩
 have hsame:∀j b,σ'.m[j]? =ab (ab b)->(σ.m[j]? =ab (ab b)/\(j=id->mi'=mi))\/(j=id/\σ.w.heap.size<=b/\b < σ'.w.heap.size):=by
  intro j b hj;by_cases hji:j=id
  .subst hji;rw[mself]at hj;have hj':mi'=ab b:=by simpa using hj
   rcases hmi with h3|⟨b',h3,h4,h5⟩
   .exact .inl ⟨by rw[hm, <-h3,hj'],λ_=>h3⟩
   .have:b'=b:=by rw[h3]at hj';exact yaw hj'
    subst this;exact .inr ⟨rfl,h4,h5⟩
  .rw[mset j hji]at hj;exact .inl ⟨hj,λh=>absurd h hji⟩
 refine⟨⟨leaf,eF,en_,hos,htape,hout,hsize,λb hb hn=>zB b hb (λhe=>hn id (by rw[hm,he])),λj b hj=> ?_,by rw[em,yba];exact yj _⟩, ?_, ?_, ?_, ?_, ?_, ?_⟩
 .rcases hsame j b hj with⟨h,_⟩|⟨_,h,_⟩
  .exact .inl h
  .exact .inr h
 .rw[em,eH,yba,yba];exact ok.len
 .intro i j b hi hj;rcases hsame i b hi with⟨h1,_⟩|⟨h1,h2,_⟩ <;> rcases hsame j b hj with⟨h3,_⟩|⟨h3,h4,_⟩
  .exact ok.inj i j b h1 h3
  .have:=ok.lt i b h1;omega
  .have:=ok.lt j b h3;omega
  .rw[h1,h3]
 .intro i b hi;rcases hsame i b hi with⟨h1,_⟩|⟨_,_,h2⟩
  .exact Nat.lt_of_lt_of_le (ok.lt i b h1) hsize
  .exact h2
 .intro i e a he ha;by_cases hji:i=id
  .subst hji;rw[mself]at ha;rw[Hself]at he;cases he;cases ha;exact hent leaf
  .rw[mset i hji]at ha;rw[Hset i hji]at he;exact oQ leaf (λb hb=>hob i b hji (by rw[ha,hb])) (ok.cY i e a he ha)
 .intro b hb;rw[en_];exact ok.new b (ybk hsize hb)
 .intro i b hi;rw[en_];rcases hsame i b hi with⟨h1,_⟩|⟨_,h1,_⟩
  .exact ok.own i b h1
  .exact ok.new b h1
theorem VV{σ σ':Sg}(ok:Ok σ){mi:yO Nat}{en:ay}(eF:σ'.F=σ.F)(en_:σ'.B=σ.B)(eH:σ'.H=σ.H++[en])(em:σ'.m=σ.m++[mi])
 (hg:σ.w.grownBy σ'.w ae) (hmi:mi=ae\/∃b,mi=ab b/\σ.w.heap.size<=b/\b < σ'.w.heap.size) (hent:cu σ σ'->dc σ' mi en):To σ σ'/\Ok σ':=by
 have zB:∀b,b < σ.w.heap.size->σ'.w.heap[b]? =σ.w.heap[b]? :=λb hb=>hg.block b hb (by simp)
 have hml:∀j a,σ.m[j]? =ab a->σ'.m[j]? =ab a:=λj a h=>by
  rw[em,ybe (yo.1 h).1];exact h
 have hHl:∀j e,σ.H[j]? =ab e->σ'.H[j]? =ab e:=λj a h=>by
  rw[eH,ybe (yo.1 h).1];exact h
 have hmr:∀j a,σ'.m[j]? =ab a->σ.m[j]? =ab a\/(j=σ.m.length/\a=mi):=λj a h=>by
  rw[em]at h;rcases ych j σ.m.length with h1|h1
  .rw[ybe h1]at h;exact .inl h
  .rw[yaq h1]at h;have hj:j - σ.m.length < 1:=(yo.1 h).1;have:j=σ.m.length:=by omega
   subst this;simp at h;exact .inr ⟨rfl,h.symm⟩
 have hHr:∀j e,σ'.H[j]? =ab e->σ.H[j]? =ab e\/(j=σ.H.length/\e=en):=λj a h=>by
  rw[eH]at h;rcases ych j σ.H.length with h1|h1
  .rw[ybe h1]at h;exact .inl h
  .rw[yaq h1]at h;have hj:j - σ.H.length < 1:=(yo.1 h).1;have:j=σ.H.length:=by omega
   subst this;simp at h;exact .inr ⟨rfl,h.symm⟩
 have leaf:cu σ σ':=by
  refine⟨λb o v h1 h2=>⟨?_, ?_, ?_⟩,λj b h1 h2=> ?_,λj s len A c h1=> ?_,λj b h1 h2=> ?_,λj v s st e d h1=>⟨v,st,d,hHl _ _ h1,yj _,λ_=>⟨?_,λb cur hb hc=>⟨cur,(zB b (ok.lt j b hb)).trans hc,rfl⟩⟩⟩⟩
  .rw[World.cell?_of_block (w:=σ.w) (zB b (Qd h1))];exact h1
  .rcases h2.1 with h3|h3
   .exact .inl (by rw[eF];exact h3)
   .exact .inr (by rw[en_];exact h3)
  .intro j e hj he;rcases hmr j _ hj with h3|⟨h3,h4⟩
   .rcases hHr j _ he with h5|⟨h5,_⟩
    .exact h2.2 j e h3 h5
    .have:=(yo.1 h3).1;have:=ok.len;omega
   .rcases hmi with h5|⟨b',h5,h6,_⟩
    .rw[h5]at h4;cases h4
    .rw[h5]at h4;have:=Qd h1;cases h4;omega
  .obtain⟨d,st,h2⟩:=h2;exact⟨hml _ _ h1,d,st,hHl _ _ h2⟩
  .obtain⟨e,ys,h2,h3,h4⟩:=h1;refine⟨e,ys,hHl _ _ h2,h3,λhl=> ?_⟩;rcases h4 hl with⟨h5,h6⟩|⟨b,cur,h5,h6,h7,h8⟩
   .exact .inl ⟨hml _ _ h5,h6⟩
   .exact .inr ⟨b,cur,hml _ _ h5,h6,(zB b (ok.lt j b h5)).trans h7,h8⟩
  .obtain⟨d,st,h2⟩:=h2;exact⟨hml _ _ h1,d,st,hHl _ _ h2⟩
  .have hj:j < σ.m.length:=by rw[ok.len];exact(yo.1 h1).1
   rw[em,ybe hj]
 refine⟨⟨leaf,eF,en_,hg.os,hg.tape,hg.output,hg.size,λb hb _=>zB b hb,λj b hj=> ?_,by rw[em,yl];omega⟩, ?_, ?_, ?_, ?_, ?_, ?_⟩
 .rcases hmr j _ hj with h|⟨_,h⟩
  .exact .inl h
  .rcases hmi with h5|⟨b',h5,h6,_⟩
   .rw[h5]at h;cases h
   .rw[h5]at h;cases h;exact .inr h6
 .rw[em,eH,yl,yl,ok.len];rfl
 .intro i j b hi hj;rcases hmr i _ hi with h1|⟨h1,h1'⟩ <;> rcases hmr j _ hj with h2|⟨h2,h2'⟩
  .exact ok.inj i j b h1 h2
  .have:=ok.lt i b h1;rcases hmi with h5|⟨b',h5,h6,_⟩
   .rw[h5]at h2';cases h2'
   .rw[h5]at h2';cases h2';omega
  .have:=ok.lt j b h2;rcases hmi with h5|⟨b',h5,h6,_⟩
   .rw[h5]at h1';cases h1'
   .rw[h5]at h1';cases h1';omega
  .rw[h1,h2]
 .intro i b hi;rcases hmr i _ hi with h1|⟨_,h1⟩
  .exact Nat.lt_of_lt_of_le (ok.lt i b h1) hg.size
  .rcases hmi with h5|⟨b',h5,_,h6⟩
   .rw[h5]at h1;cases h1
   .rw[h5]at h1;cases h1;exact h6
 .intro i e a he ha;rcases hHr i _ he with h1|⟨h1,h1'⟩ <;> rcases hmr i _ ha with h2|⟨h2,h2'⟩
  .exact oQ leaf (λb hb=>zB b (ok.lt i b (by rw[h2,hb]))) (ok.cY i e a h1 h2)
  .have:=(yo.1 h1).1;have:=ok.len;omega
  .have:=(yo.1 h2).1;have:=ok.len;omega
  .rw[h1',h2'];exact hent leaf
 .intro b hb;rw[en_];exact ok.new b (ybk hg.size hb)
 .intro i b hi;rw[en_];rcases hmr i _ hi with h1|⟨_,h1⟩
  .exact ok.own i b h1
  .rcases hmi with h5|⟨b',h5,h6,_⟩
   .rw[h5]at h1;cases h1
   .rw[h5]at h1;cases h1;exact ok.new b h6
end Go.Ev
end
section
namespace Go.Ev
section
variable{P:yg}{o:Oper}{a:Act}{σ:Sg}{ts:yL Dv}{hs hs':yL ar}{C:yL Prop}{d:Dv}
theorem kQ{i:TypeInfo}(h:ca i=af):∃z,i.zero=ab z/\z.cells.size=i.size:=by
 unfold ca at h;split at h
 .rename_i z hz;exact⟨z,hz,by simpa using h⟩
 .cases h
structure Src(P:yg)(w:World)(u:yc)(size:Nat)(S:yh)(m:Nat)(zW:List yh):Prop where
 ty:(∃e',P.underlying u=ab (.slice e'))\/P.underlying u=ab .string
 len:∀w',(Builtin.lenOf S).run P w'=.ok m w'
 first:(Builtin.firstCells size m S).run P w=.ok zW.toArray w
 EC:(Builtin.firstCells size m S).run P w.drew=.ok zW.toArray w.drew
 cells:zW.length=m*size
theorem ZCi{w:World}{S:Nat->Nat->Prop}{u e':yc}{s s':Nat}{xs:yL Pl}{A:yO Addr}{c:Nat}(hu:P.underlying u=ab (.slice e'))(hs:s'=s\/xs=[])(hsz:aR s' xs)
 (hr:xs≠[]->∃b o us,A=ab ⟨b,o,ae⟩/\aq w S xs us/\VJ w S b o us):
 ∃zW,Src P w u s (.slice A xs.length c) xs.length zW/\aq w S xs zW:=by
 rcases xs with _|⟨x,xs⟩
 .refine⟨[],⟨.inl ⟨_,hu⟩,λw'=>rfl, ?_, ?_,by simp⟩,by simp[aq]⟩
  .cases A <;> simp[Builtin.firstCells,loadCells,loadCellsFrom]
  .cases A <;> simp[Builtin.firstCells,loadCells,loadCellsFrom]
 .have hss:s'=s:=by
   rcases hs with h|h
   .exact h
   .cases h
  subst hss;obtain⟨b,o,us,rfl,h1,h2⟩:=hr (by simp);have hl:us.length=(x::xs).length*s':=by rw[aL _ _ h1,aM hsz]
  refine⟨us,⟨.inl ⟨_,hu⟩,λw'=>rfl, ?_, ?_,hl⟩,h1⟩
  .exact run_firstCells_some w s' _ ⟨b,o,ae⟩ _ c us hl (λj v hv=>by rw[Addr.bw];exact(h2 j v hv).1)
  .exact run_firstCells_some w.drew s' _ ⟨b,o,ae⟩ _ c us hl (λj v hv=>by rw[Addr.bw];exact(h2 j v hv).1)
theorem Zze{w:World}{t u ty e:yc}{i:TypeInfo}{S:yh}{zW:yL yh}(ht:P.underlying t=ab (.slice e))(hi:P.info? e=ab i)(hS:Src P w u i.size S 0 zW):
 (Builtin.append_ #[t,u] ty #[.slice ae 0 0,S]).run P w=.ok (.slice ae 0 0) w:=by
 obtain⟨hty,hl,hf,hfd,hc⟩:=hS
 rcases hty with⟨e'',hu⟩|hu <;>
  (simp[Builtin.append_,run_underlying ht,run_underlying hu,sizeOf,typeInfo,hi,hl,hf])
theorem ED{w:World}{t u ty e e':yc}{i:TypeInfo}{S:yh}{m:Nat}{zW:yL yh}(ht:P.underlying t=ab (.slice e))(hi:P.info? e=ab i)(hS:Src P w u i.size S m zW)
 (h1:∀v,v∈zW->v.oneCell'=af) {g n cap:Nat} {cur:Array yh} (hg:w.heap[g]? =ab (.cells cur e' (0,0))) (hroom:n+m<=cap) (hcur:cur.size=cap*i.size):
 (Builtin.append_ #[t,u] ty #[.slice (ab ⟨g,0,ae⟩) n cap,S]).run P w=
   .ok (.slice (ab ⟨g,0,ae⟩) (n+m) cap) (w.setRow g (cur.toList.take (n*i.size)++zW++cur.toList.drop (n*i.size+zW.length)).toArray):=by
 obtain⟨hty,hl,hf,hfd,hc⟩:=hS;have hfit:n*i.size+zW.length<=cur.size:=by rw[hc,hcur, <-yau];exact ycg _ hroom
 have hst:=run_storeCells_at P g (n*i.size) e' zW 0 cur w hg (by simpa using hfit) h1;simp only[ybu]at hst
 rcases hty with⟨e'',hu⟩|hu <;>
  (simp[Builtin.append_,run_underlying ht,run_underlying hu,sizeOf,typeInfo,hi,hl,hroom,hf,Addr.add_lit,hst])
theorem EE{w:World}{t u ty e:yc}{i:TypeInfo}{z:yh}{S:yh}{m:Nat}{zW olds:yL yh}(ht:P.underlying t=ab (.slice e))(hi:P.info? e=ab i)(hz:i.zero=ab z)
 (hS:Src P w u i.size S m zW) {A:yO Addr} {n cap:Nat} (hold:(Builtin.firstCells i.size n (.slice A n cap)).run P w.drew=.ok olds.toArray w.drew) (hroom:cap < n+m)
 (h63:n+m<=maxLen) (hb:(n+m)*i.bytes<=Zv):
 (Builtin.append_ #[t,u] ty #[.slice A n cap,S]).run P w=
   .ok (.slice (ab ⟨w.heap.size,0,ae⟩) (n+m) (grownCap w (n+m) cap e)) (w.drew.alloc (.cells (olds.toArray++zW.toArray++Builtin.zeroCells z.cells (grownCap w (n+m) cap e - (n+m))) e)):=by
 obtain⟨hty,hl,hf,hfd,hc⟩:=hS;have hn:¬(n+m<=cap):=by omega
 have h63':¬(9223372036854775807 < ((n:Int)+(m:Int))):=by
  simp only[maxLen]at h63;omega
 have hfit:=growslice_fits (old:=cap) hroom (by simpa[Zv] using hb);have h48':¬(281474976710656 < Builtin.nextslicecap (n+m) cap*i.bytes):=by omega
 rcases hty with⟨e'',hu⟩|hu <;>
  (simp[Builtin.append_,run_underlying ht,run_underlying hu,sizeOf,typeInfo,zeroValue,hi,hz,hl,hn,h63',h48',Question.forced,hfd,hold,newRow,grownCap]
   congr 2;apply Array.ext';simp[yad])
theorem Wu(w:World)(ob:Obj)(row:yO Nat):w.grownBy (w.drew.alloc ob) row:=
 let h:=World.grownBy_alloc w.drew ob row
 ⟨h.os,h.tape,h.output,h.size,h.block⟩
theorem rz(yK:aK σ ts a){s:Nat}{u ut:yc}{x:ym}{ys:yL Pl}(h:iO P s u (ZB P ts ut x)=ab ys):
 ∃zW,Src P σ.w u s (a.eval x) ys.length zW/\aq σ.w σ.aU ys zW/\(ys≠[]->aR s ys):=by
 have hx:=Zs (P:=P) yK ut x;unfold iO at h;split at h
 .rename_i e nn s' xs hu hd;split at h
  .rename_i hc;cases h;rw[hd]at hx;obtain⟨h1,A,c,hv,h2,h3,h4,h5,h6⟩:=WY hx;rw[hv]
   have hc':s'=s\/ys=[]:=by
    rcases hc with hc|hc
    .exact .inl hc
    .exact .inr (by simpa using hc)
   obtain⟨zW,k1,k2⟩:=ZCi (P:=P) (w:=σ.w) (c:=c) hu hc' h1 h6;refine⟨zW,k1,k2,λhne=> ?_⟩;rcases hc' with hc|hc
   .exact hc ▸ h1
   .exact absurd hc hne
  .cases h
 .rename_i e id nn s' xs hu hd;split at h
  .rename_i hc;cases h;rw[hd]at hx;obtain⟨h1,A,c,hv,h2,h3,h4,h5,h6,_⟩:=lO hx;rw[hv];obtain⟨zW,k1,k2⟩:=ZCi (P:=P) (w:=σ.w) (c:=c) hu (.inl hc) h1 h6;exact⟨zW,k1,k2,λ_=>hc ▸ h1⟩
  .cases h
 .rename_i z hu hd;split at h
  .rename_i hc;cases h;subst hc;rw[hd]at hx;rw[oN hx];have hl:(z.data.toList.map λb=>Pl.int .u8 (b.toNat:Int)).length=z.size:=by rw[yab,yby];rfl
   refine⟨z.data.toList.map λb=>Value.int .u8 (b.toNat:Int),⟨.inr hu,λw'=>by rw[hl];rfl, ?_, ?_,by simp⟩, ?_,λ_=> ?_⟩
   .rw[hl];have:=Go.Lib.run_firstCells_string (P:=P) σ.w 1 z;exact this
   .rw[hl];have:=Go.Lib.run_firstCells_string (P:=P) σ.w.drew 1 z;exact this
   .generalize z.data.toList=l
    induction l with
    |nil=>simp[aq]
    |cons b r ih=>simp only[yag,aq];exact⟨[.int .u8 b.toNat],_,rfl,by simp[aw],ih⟩
   .intro q hq;obtain⟨b,_,rfl⟩:=yci.1 hq;rfl
  .cases h
 .cases h
def ny(P:yg)(σ:Sg)(s:Nat)(u:yc)(S:yh)(ys:yL Pl):Prop:=∃zW,Src P σ.w u s S ys.length zW/\aq σ.w σ.aU ys zW/\(ys≠[]->aR s ys)
theorem vj(ok:Ok σ)(yK:aK σ ts a){t u ty e:yc}{i:TypeInfo}{y:ym}{ys:yL Pl}(ht:P.underlying t=ab (.slice e))(hi:P.info? e=ab i)(hz:ca i=af)(hne:i.size≠0)
 (hsrc:ny P σ (P.cellsOf e) u (a.eval y) ys) (hb:ys.length*i.bytes<=Zv) (hm:ys.length<=maxLen):
 (ys=[]/\(Builtin.append_ #[t,u] ty #[.slice ae 0 0,a.eval y]).run P σ.w=.ok (.slice ae 0 0) σ.w)\/
 ∃zW yJ,ys≠[]/\aR i.size ys/\aq σ.w σ.aU ys zW/\ys.length<=grownCap σ.w ys.length 0 e/\grownCap σ.w ys.length 0 e<=maxLen/\
  (zW.toArray++yJ:Array yh).size=grownCap σ.w ys.length 0 e*i.size/\
  (Builtin.append_ #[t,u] ty #[.slice ae 0 0,a.eval y]).run P σ.w=.ok (.slice (ab ⟨σ.w.heap.size,0,ae⟩) ys.length (grownCap σ.w ys.length 0 e)) (σ.w.drew.alloc (.cells (zW.toArray++yJ) e)):=by
 have hce:P.cellsOf e=i.size:=by simp[Program.cellsOf,hi]
 rw[hce]at hsrc;obtain⟨zW,hS,hr,zO⟩:=hsrc;rcases Nat.eq_zero_or_pos ys.length with h0|h0
 .refine .inl ⟨ybh h0, ?_⟩;rw[h0]at hS;exact Zze ht hi hS
 .have hys:ys≠[]:=by
   rintro rfl;simp at h0
  obtain⟨z,hzz,hzs⟩:=kQ hz;have hg:=EE (P:=P) (ty:=ty) (A:=ae) (n:=0) (cap:=0) (olds:=[]) ht hi hzz hS (by simp[Builtin.firstCells]) (by omega) (by omega) (by simpa using hb);simp only[yat]at hg;have hge:=grownCap_ge σ.w ys.length 0 e;refine .inr ⟨zW,Builtin.zeroCells z.cells (grownCap σ.w ys.length 0 e - ys.length),hys,zO hys,hr,hge,grownCap_le_maxLen σ.w ys.length 0 e hm, ?_,by simpa using hg⟩;have hl:=hS.cells;simp only[Array.size_append,List.size_toArray,size_zeroCells,hzs,hl, <-yau];congr 1;omega
theorem oT{σ':Sg}{b:Nat}{cells:yL yh}{cs:Array yh}{t:yc}(hb:σ'.w.heap[b]? =ab (.cells cs t (0,0)))(hst:∀o,o < cells.length->σ'.aU b o)(hp:cs.toList.take cells.length=cells):VJ σ'.w σ'.aU b 0 cells:=by
 intro j u hu;have hj:j < cells.length:=(yo.1 hu).1;rw[yat];refine⟨?_,hst j hj⟩;rw[cell_of_row σ'.w b j cs t (0,0) hb, <-ycf];rw[<-hp,ycr,yW hj]at hu;exact hu
theorem ZFB{σ':Sg}{s:Nat}{xs:yL Pl}{b c:Nat}{cells:yL yh}{cs:Array yh}{t:yc}{nn:yO Bool}(hnn:iK nn (ab ⟨b,0,ae⟩))(ok:Ok σ')(zO:aR s xs)(hr:aq σ'.w σ'.aU xs cells)(hb:σ'.w.heap[b]? =ab (.cells cs t (0,0)))
 (hnew:σ'.B b) (hun:∀(id:Nat),σ'.m[id]? ≠ab (ab b)) (hp:cs.toList.take cells.length=cells) (hc:xs.length<=c) (hm:c<=maxLen):yH σ' (.p (.sl nn s xs)) (.slice (ab ⟨b,0,ae⟩) xs.length c):=
 YM zO hc hm hnn (by simp) (λ_=>⟨b,0,cells,rfl,hr,oT hb (λo _=>ZFy ok hnew hun) hp⟩)
theorem nA{s:Nat}{v:yh}(h:yH σ (.p (.sl (ab ag) s [])) v):v=.slice ae 0 0:=by
 obtain⟨_,A,c,rfl,_,_,hA,hc,_⟩:=WY h;have:A=ae:=by simpa using hA ag rfl
 grind
theorem Yz{x y:ym}{t u:yc}{c:Call}(ho:o.op=.call c)(hc:c.callee=.builtin .append)(yQ:c.args.toList=[x,y])(htys:c.argTypes.toList=[t,u]){v:yh}{w':World}
 (h:(Builtin.append_ #[t,u] o.type #[a.eval x,a.eval y]).run P σ.w=.ok v w'):(execOp a.eval o).run P σ.w=.ok (.value v) w':=by
 have h1:c.args= #[x,y]:=by rw[<-ycl (xs:=c.args),yQ]
 have h2:c.argTypes= #[t,u]:=by rw[<-ycl (xs:=c.argTypes),htys]
 simp[execOp,ho,resolve,hc,h1,h2,invoke,builtin,h]
theorem nB{x:ym}{t:yc}{c:Call}(ho:o.op=.call c)(hc:c.callee=.builtin .len)(yQ:c.args.toList=[x])(htys:c.argTypes.toList=[t]){v:yh}
 (h:(Builtin.len_ #[t] o.type #[a.eval x]).run P σ.w=.ok v σ.w):(execOp a.eval o).run P σ.w=.ok (.value v) σ.w:=by
 have h1:c.args= #[x]:=by rw[<-ycl (xs:=c.args),yQ]
 have h2:c.argTypes= #[t]:=by rw[<-ycl (xs:=c.argTypes),htys]
 simp[execOp,ho,resolve,hc,h1,h2,invoke,builtin,h]
theorem EF(ok:Ok σ)(id:Nat):σ.m[id]? ≠ab (ab σ.w.heap.size):=λh=>by
 have:=ok.lt id _ h;omega
theorem ZBw(ok:Ok σ)(yK:aK σ ts a){c:Call}{x y:ym}{t u e:yc}{i:TypeInfo}{ys:yL Pl}(ho:o.op=.call c)(yS:c.callee=.builtin .append)(yQ:c.args.toList=[x,y])
 (htys:c.argTypes.toList=[t,u]) (ht:P.underlying t=ab (.slice e)) {s:Nat} (hx:ZB P ts t x=.p (.sl (ab ag) s [])) (hi:P.info? e=ab i) (hz:ca i=af) (hne:i.size≠0)
 (hsrc:iO P (P.cellsOf e) u (ZB P ts u y)=ab ys) (hb:ys.length*i.bytes<=Zv) (hm:ys.length<=maxLen):XE P o a σ (.p (.sl ae (P.cellsOf e) ys)) σ.H:=by
 have hxv:=Zs (P:=P) yK t x;rw[hx]at hxv;have hxn:=nA hxv;have hce:P.cellsOf e=i.size:=by simp[Program.cellsOf,hi]
 rcases vj (P:=P) (ty:=o.type) ok yK ht hi hz hne (rz (P:=P) yK hsrc) hb hm with⟨rfl,zU⟩|⟨zW,yJ,hys,zO,hr,hge,hcm,hcs,zU⟩
 .refine Zl ok (Yz ho yS yQ htys (by rw[hxn];exact zU)) ?_;exact YM (λ_ hx=>by cases hx) (yj _) (by simp[maxLen]) (YE _) (λ_=>rfl) (λh=>absurd rfl h)
 .obtain⟨to,ok'⟩:=va ok (Wu σ.w (.cells (zW.toArray++yJ) e) ae);refine ZP (σ':={ σ with w:=σ.w.drew.alloc (.cells (zW.toArray++yJ) e)}) (Yz ho yS yQ htys (by rw[hxn];exact zU)) to ok' ?_;rw[hce];have zV:zW.length=ys.length*i.size:=by rw[aL _ _ hr,aM zO]
  refine ZFB (YE _) ok' zO (aD to.leaf.cells _ _ hr) (b:=σ.w.heap.size) (cells:=zW) (heap_alloc_new σ.w.drew _) (ok.new _ (yj _)) (EF ok) (by simp) hge hcm
theorem ZDB(ok:Ok σ)(yK:aK σ ts a){c:Call}{x y:ym}{t u e:yc}{i:TypeInfo}{ys:yL Pl}(ho:o.op=.call c)(yS:c.callee=.builtin .append)(yQ:c.args.toList=[x,y])
 (htys:c.argTypes.toList=[t,u]) (ht:P.underlying t=ab (.slice e)) {s:Nat} (hx:ZB P ts t x=.p (.sl (ab ag) s [])) (hi:P.info? e=ab i) (hz:ca i=af) (hne:i.size≠0)
 (hsrc:iO P (P.cellsOf e) u (ZB P ts u y)=ab ys) (hb:ys.length*i.bytes<=Zv) (hm:ys.length<=maxLen):XE P o a σ (.own σ.H.length ae i.size ys) (σ.H++[.log i.size e ys]):=by
 have hxv:=Zs (P:=P) yK t x;rw[hx]at hxv;have hxn:=nA hxv;rcases vj (P:=P) (ty:=o.type) ok yK ht hi hz hne (rz (P:=P) yK hsrc) hb hm with⟨rfl,zU⟩|⟨zW,yJ,hys,zO,hr,hge,hcm,hcs,zU⟩
 .obtain⟨to,ok'⟩:=VV (σ':={ σ with m:=σ.m++[ae],H:=σ.H++[.log i.size e []]}) ok rfl rfl rfl rfl (World.grownBy.refl σ.w ae) (.inl rfl) (λ_=>.inl ⟨rfl,rfl⟩);refine ZP (σ':={ σ with m:=σ.m++[ae],H:=σ.H++[.log i.size e []]}) (Yz ho yS yQ htys (by rw[hxn];exact zU)) to ok' ?_;rw[Zi rfl];simp only[yG];refine⟨λ_ hx=>(by cases hx),ae,0,rfl,yj _,by simp[maxLen],YE _,λ_=>rfl,λh=>absurd rfl h,e,[],by simp,yj _,λ_=>.inl ⟨?_,rfl,rfl⟩⟩;rw[yaq (by rw[ok.len];exact yj _),ok.len];simp
 .let σ':Sg:={ σ with m:=σ.m++[ab σ.w.heap.size],H:=σ.H++[.log i.size e ys],w:=σ.w.drew.alloc (.cells (zW.toArray++yJ) e)};have zV:zW.length=ys.length*i.size:=by rw[aL _ _ hr,aM zO]
  have zB:σ'.w.heap[σ.w.heap.size]? =ab (.cells (zW.toArray++yJ) e (0,0)):=heap_alloc_new σ.w.drew _
  have hmlast:σ'.m[σ.H.length]? =ab (ab σ.w.heap.size):=by
   show(σ.m++[ab σ.w.heap.size])[σ.H.length]? =_;rw[yaq (by rw[ok.len];exact yj _),ok.len];simp
  obtain⟨to,ok'⟩:=VV (σ':=σ') ok rfl rfl rfl rfl (Wu σ.w (.cells (zW.toArray++yJ) e) ae) (.inr ⟨_,rfl,yj _,by simp[σ']⟩)
   (λleaf=>.inr ⟨σ.w.heap.size,_,grownCap σ.w ys.length 0 e,rfl,zB,hcs,hge,hcm,zO,by
     rw[<-zV];simpa using aD leaf.cells _ _ hr⟩)
  refine ZP (σ':=σ') (Yz ho yS yQ htys (by rw[hxn];exact zU)) to ok' ?_;have hemp:(!ys.isEmpty)=af:=by cases ys <;> first|exact absurd rfl hys|rfl
  rw[Zi rfl];simp only[yG]
  refine⟨zO,_,_,rfl,hge,hcm,YE _,λh=>(by cases h),λ_=>⟨σ.w.heap.size,0,zW,rfl,aD to.leaf.cells _ _ hr,oT zB (λo ho=>⟨.inr (ok.new _ (yj _)),λid e' h1 h2=> ?_⟩) (by simp)⟩,
   e,ys,by simp[σ'],yj _,λ_=>.inr ⟨_,_,hmlast,rfl,zB,hcs⟩⟩
  have:id=σ.H.length:=ok'.inj id σ.H.length _ h1 hmlast;subst this;have h3:σ'.H[σ.H.length]? =ab (.log i.size e ys):=by simp[σ']
  rw[h3]at h2;cases h2;show o < ys.length*i.size;omega
theorem ZDC(ok:Ok σ)(yK:aK σ ts a){c:Call}{x y:ym}{t u e:yc}{i:TypeInfo}{xs ys:yL Pl}{id s:Nat}{nn:yO Bool}(ho:o.op=.call c)(yS:c.callee=.builtin .append)
 (yQ:c.args.toList=[x,y]) (htys:c.argTypes.toList=[t,u]) (ht:P.underlying t=ab (.slice e)) (hx:ZB P ts t x=.own id nn s xs) (hi:P.info? e=ab i) (hz:ca i=af) (hs:i.size=s) (hne:s≠0)
 (hsrc:ny P σ s u (a.eval y) ys) (hH:σ.H[id]? =ab (.log s e xs)) (hb:(xs.length+ys.length)*i.bytes<=Zv) (hm:xs.length+ys.length<=maxLen):
 XE P o a σ (.own id ae s (xs++ys)) (σ.H.set id (.log s e (xs++ys))):=by
 subst hs;have hxv:=Zs (P:=P) yK t x;rw[hx]at hxv;obtain⟨h1,A,cp,hv,h2,h3,h4,h5,h6,e0,ys0,h7,h8,h9⟩:=lO hxv;rw[hH]at h7;cases h7;have hsrc2:=hsrc;obtain⟨zW,hS,hr,zO⟩:=hsrc2;obtain⟨z,hzz,hzs⟩:=kQ hz;have hH':=hH;have hidlt:id < σ.m.length:=by rw[ok.len];exact(yo.1 hH).1
 have hmi:σ.m[id]? =ab σ.m[id]:=yac hidlt;have hent:=ok.cY id _ _ hH hmi
 have hall':aR i.size (xs++ys):=by
  by_cases hy:ys=[]
  .grind
  .exact VT h1 (zO hy)
 have hnl:zW.length=ys.length*i.size:=hS.cells;have hone:∀v,v∈zW->v.oneCell'=af:=cf _ _ hr;have zV:(xs++ys).length=xs.length+ys.length:=yl;rcases h9 rfl with⟨k1,rfl,rfl⟩|⟨b,cur,k1,rfl,k3,k4⟩
 . 
  have hxs:xs=[]:=by
   all_goals grind
  subst hxs;have hmn:σ.m[id]=ae:=by rw[hmi]at k1;exact yaw k1
  skip
  skip
  rcases vj (P:=P) (ty:=o.type) (u:=u) (y:=y) (ys:=ys) ok yK ht hi hz hne (by simpa[Program.cellsOf,hi] using hsrc) (by simpa using hb) (by simpa using hm) with⟨rfl,zU⟩|⟨news',yJ,hys,hall2,hr2,hge,hcm,hcs,zU⟩
  .obtain⟨to,ok'⟩:=Wg (σ':={ σ with m:=σ.m.set id ae,H:=σ.H.set id (.log i.size e ([]++[]))}) (mi:=ae) (mi':=ae) ok hH (by rw[hmi,hmn]) rfl rfl rfl rfl rfl rfl rfl (yj _)
    (λ_ _ _=>rfl) (λb o v h=>by cases h) (λo _ h=>h) (.inl rfl) (λ⟨d,st,h⟩=>by cases h) (λ⟨d,st,h⟩=>by cases h) (λs e' xs h=>⟨[],by cases h;rfl,by cases h;exact yj _,λ_=>⟨rfl,λ_ _=>rfl⟩⟩) (λ_=>.inl ⟨rfl,rfl⟩)
   refine ZP (σ':={ σ with m:=σ.m.set id ae,H:=σ.H.set id (.log i.size e ([]++[]))}) (Yz ho yS yQ htys (by rw[hv];exact zU)) to ok' ?_;rw[Zi rfl];simp only[yG];exact⟨λ_ hx=>(by cases hx),ae,0,rfl,yj _,by simp[maxLen],YE _,λ_=>rfl,λh=>absurd rfl h,e,[],an hH,yj _,λ_=>.inl ⟨an hmi,rfl,rfl⟩⟩
  .let σ':Sg:={ σ with m:=σ.m.set id (ab σ.w.heap.size),H:=σ.H.set id (.log i.size e ([]++ys)),w:=σ.w.drew.alloc (.cells (news'.toArray++yJ) e)};have hl2:news'.length=ys.length*i.size:=by rw[aL _ _ hr2,aM hall2]
   have zB:σ'.w.heap[σ.w.heap.size]? =ab (.cells (news'.toArray++yJ) e (0,0)):=heap_alloc_new σ.w.drew _;have hg:=Wu σ.w (.cells (news'.toArray++yJ) e) ae;have hblk':∀b,b < σ.w.heap.size->σ'.w.heap[b]? =σ.w.heap[b]? :=λb hb=>hg.block b hb (by simp);have hmset:σ'.m[id]? =ab (ab σ.w.heap.size):=an hmi;have hHset:σ'.H[id]? =ab (.log i.size e ([]++ys)):=an hH
   obtain⟨to,ok'⟩:=Wg (σ':=σ') (mi:=ae) (mi':=ab σ.w.heap.size) ok hH (by rw[hmi,hmn]) rfl rfl rfl rfl rfl rfl rfl hg.size
    (λb hb _=>hblk' b hb) (λb o v h=>by cases h) (λo h _=>by cases h) (.inr ⟨_,rfl,yj _,by simp[σ']⟩) (λ⟨d,st,h⟩=>by cases h) (λ⟨d,st,h⟩=>by cases h)
    (λs' e' xs' h=>⟨ys,by cases h;rfl,by cases h;exact Nat.zero_le _,λhh=>by
      cases h;exact absurd (ybh (by simpa using hh)) hys⟩)
    (λleaf=>.inr ⟨σ.w.heap.size,_,grownCap σ.w ys.length 0 e,rfl,zB,hcs,hge,hcm,hall2,by
      show aq σ'.w σ'.aU ([]++ys) _;rw[List.nil_append, <-hl2];simpa using aD leaf.cells _ _ hr2⟩)
   refine ZP (σ':=σ') (Yz ho yS yQ htys (by rw[hv];exact zU)) to ok' ?_;have hemp:(!ys.isEmpty)=af:=by cases ys <;> first|exact absurd rfl hys|rfl
   rw[Zi rfl];simp only[yG]
   refine⟨hall2,_,_,rfl,hge,hcm,YE _,λh=>(by cases h),λ_=>⟨σ.w.heap.size,0,news',rfl,aD to.leaf.cells _ _ hr2,oT zB (λo ho=>⟨.inr (ok.new _ (yj _)),λj e' g1 g2=> ?_⟩) (by simp)⟩,
    e,_,hHset,yj _,λ_=>.inr ⟨_,_,hmset,rfl,zB,hcs⟩⟩
   have:j=id:=ok'.inj j id _ g1 hmset;subst this;rw[hHset]at g2;cases g2;show o < ([]++ys).length*i.size;grind
 .have hmb:σ.m[id]=ab b:=by rw[hmi]at k1;exact yaw k1
  rcases hent with⟨h,_⟩|⟨b',cur',cap,h,g3,g4,g5,g6,g7,g8⟩
  .grind
  .rw[hmb]at h;cases h;rw[k3]at g3;cases g3
   have hcap:cp=cap:=by
    have:cp*i.size=cap*i.size:=by rw[<-k4, <-g4]
    exact Nat.eq_of_mul_eq_mul_right (Nat.pos_of_ne_zero hne) this
   subst hcap;have hus:(cur.toList.take (xs.length*i.size)).length=xs.length*i.size:=by rw[aL _ _ g8,aM h1]
   skip
   skip
   by_cases hroom:xs.length+ys.length<=cp
   . 
    have zU:=ED (P:=P) (ty:=o.type) ht hi hS hone k3 hroom g4;let ncur:Array yh:=(cur.toList.take (xs.length*i.size)++zW++cur.toList.drop (xs.length*i.size+zW.length)).toArray;let σ':Sg:={ σ with m:=σ.m.set id (ab b),H:=σ.H.set id (.log i.size e (xs++ys)),w:=σ.w.setRow b ncur};have hfit:xs.length*i.size+zW.length<=cur.size:=by rw[hnl,g4, <-yau];exact ycg _ hroom
    have hncs:ncur.size=cp*i.size:=by
     grind
    have zB:σ'.w.heap[b]? =ab (.cells ncur e (0,0)):=setRow_heap σ.w b cur _ e _ k3;have hoth:∀j,b≠j->σ'.w.heap[j]? =σ.w.heap[j]? :=λj hj=>setRow_other σ.w b j _ (Ne.symm hj);have hmset:σ'.m[id]? =ab (ab b):=an hmi;have hHset:σ'.H[id]? =ab (.log i.size e (xs++ys)):=an hH
    have hpre:∀o,o < xs.length*i.size->ncur[o]? =cur[o]? :=by
     grind
    have hcl:(cur.toList.take (xs.length*i.size)++zW).length=(xs++ys).length*i.size:=by
     grind
    have htk:ncur.toList.take ((xs++ys).length*i.size)=cur.toList.take (xs.length*i.size)++zW:=by
     grind
    have hbl:ys.length=0->ncur=cur:=by
     intro h0;have:zW=[]:=ybh (by rw[hnl,h0];simp);grind
    obtain⟨to,ok'⟩:=Wg (σ':=σ') (mi:=ab b) (mi':=ab b) ok hH (by rw[hmi,hmb]) rfl rfl rfl rfl rfl rfl rfl (by simp[σ'])
     (λj hj hne=>hoth j (λhh=>hne (by rw[hh]))) (λb' o v hb' hu hcell=>by
       cases hb';rw[cell_of_row σ.w b o cur e (0,0) k3]at hcell;show(σ.w.setRow b ncur).cell? ⟨b,o,ae⟩=ab v;rw[cell_of_row _ b o ncur e (0,0) zB,hpre o hu];exact hcell)
     (λo _ hu=>by
       have hu':o < xs.length*i.size:=hu;show o < (xs++ys).length*i.size;rw[zV,yau];omega) (.inl rfl) (λ⟨d,st,h⟩=>by cases h) (λ⟨d,st,h⟩=>by cases h)
     (λs' e' xs' h=>⟨xs++ys,by cases h;rfl,by cases h;simp,λhh=>by
       cases h;refine⟨rfl,λj _=> ?_⟩;have h0:ys.length=0:=by rw[zV]at hh;omega
       by_cases hj:b=j
       .subst hj;rw[zB,k3,hbl h0]
       .exact hoth j hj⟩)
     (λleaf=>.inr ⟨b,ncur,cp,rfl,zB,hncs,by rw[zV];exact hroom,h3,hall',by
       rw[htk];exact Ym (aD leaf.cells _ _ g8) (aD leaf.cells _ _ hr)⟩)
    refine ZP (σ':=σ') (Yz ho yS yQ htys (by rw[hv];exact zU)) to ok' ?_;rw[Zi rfl];simp only[yG,Bool.true_or]
    refine⟨hall',ab ⟨b,0,ae⟩,cp,by rw[zV],by rw[zV];exact hroom,h3,YE _,λh=>(by cases h),λ_=>⟨b,0,cur.toList.take (xs.length*i.size)++zW,rfl,
     Ym (aD to.leaf.cells _ _ g8) (aD to.leaf.cells _ _ hr),oT zB (λo ho=> ?_) ?_⟩,e,_,hHset,yj _,λ_=>.inr ⟨b,ncur,hmset,rfl,zB,hncs⟩⟩
    .refine⟨.inr (ok.own id b k1),λj e' g1 g2=> ?_⟩;have:j=id:=ok'.inj j id _ g1 hmset;subst this;rw[hHset]at g2;cases g2;show o < (xs++ys).length*i.size;grind
    grind
   . 
    have hgr:cp < xs.length+ys.length:=by omega
    have hold:(Builtin.firstCells i.size xs.length (.slice (ab ⟨b,0,ae⟩) xs.length cp)).run P σ.w.drew=.ok (cur.toList.take (xs.length*i.size)).toArray σ.w.drew:=
     run_firstCells_some σ.w.drew i.size _ ⟨b,0,ae⟩ _ cp _ hus (λj v hj=>by
      rw[Addr.bw,yat];show σ.w.cell? ⟨b,j,ae⟩=ab v
      have hj2:j < xs.length*i.size:=by
       grind
      rw[cell_of_row σ.w b j cur e (0,0) k3];rw[ycr,yW hj2]at hj;simpa using hj)
    have zU:=EE (P:=P) (ty:=o.type) ht hi hzz hS hold hgr hm hb;have hge:=grownCap_ge σ.w (xs.length+ys.length) cp e;have hcm:=grownCap_le_maxLen σ.w (xs.length+ys.length) cp e hm;let q:Nat:=grownCap σ.w (xs.length+ys.length) cp e;let yJ:Array yh:=Builtin.zeroCells z.cells (q - (xs.length+ys.length));let ncur:Array yh:=(cur.toList.take (xs.length*i.size)).toArray++zW.toArray++yJ;let σ':Sg:={ σ with m:=σ.m.set id (ab σ.w.heap.size),H:=σ.H.set id (.log i.size e (xs++ys)),w:=σ.w.drew.alloc (.cells ncur e)}
    have hcl:(cur.toList.take (xs.length*i.size)++zW).length=(xs++ys).length*i.size:=by
     grind
    have hncs:ncur.size=q*i.size:=by
     simp only[ncur,yJ,Array.size_append,List.size_toArray,size_zeroCells,hzs,hus,hnl, <-yau];congr 1;omega
    have htk:ncur.toList.take ((xs++ys).length*i.size)=cur.toList.take (xs.length*i.size)++zW:=by
     grind
    have zB:σ'.w.heap[σ.w.heap.size]? =ab (.cells ncur e (0,0)):=heap_alloc_new σ.w.drew _;have hg:=Wu σ.w (.cells ncur e) ae;have hblk':∀b,b < σ.w.heap.size->σ'.w.heap[b]? =σ.w.heap[b]? :=λb hb=>hg.block b hb (by simp);have hmset:σ'.m[id]? =ab (ab σ.w.heap.size):=an hmi;have hHset:σ'.H[id]? =ab (.log i.size e (xs++ys)):=an hH
    obtain⟨to,ok'⟩:=Wg (σ':=σ') (mi:=ab b) (mi':=ab σ.w.heap.size) ok hH (by rw[hmi,hmb]) rfl rfl rfl rfl rfl rfl rfl hg.size
     (λb hb _=>hblk' b hb) (λb' o v hb' _ hcell=>by
       rw[World.cell?_of_block (w:=σ.w) (hblk' b' (Qd hcell))];exact hcell)
     (λo h _=>by
       have:=ok.lt id b k1;cases h;omega) (.inr ⟨_,rfl,yj _,by simp[σ']⟩) (λ⟨d,st,h⟩=>by cases h) (λ⟨d,st,h⟩=>by cases h)
     (λs' e' xs' h=>⟨xs++ys,by cases h;rfl,by cases h;simp,λhh=>by
       cases h;rw[zV]at hh;omega⟩)
     (λleaf=>.inr ⟨σ.w.heap.size,ncur,q,rfl,zB,hncs,by rw[zV];exact hge,hcm,hall',by
       rw[htk];exact Ym (aD leaf.cells _ _ g8) (aD leaf.cells _ _ hr)⟩)
    refine ZP (σ':=σ') (Yz ho yS yQ htys (by rw[hv];exact zU)) to ok' ?_;rw[Zi rfl];simp only[yG,Bool.true_or]
    refine⟨hall',ab ⟨σ.w.heap.size,0,ae⟩,q,by rw[zV],by rw[zV];exact hge,hcm,YE _,λh=>(by cases h),λ_=>⟨σ.w.heap.size,0,cur.toList.take (xs.length*i.size)++zW,rfl,
     Ym (aD to.leaf.cells _ _ g8) (aD to.leaf.cells _ _ hr),oT zB (λo ho=> ?_) ?_⟩,e,_,hHset,yj _,λ_=>.inr ⟨_,ncur,hmset,rfl,zB,hncs⟩⟩
    .refine⟨.inr (ok.new _ (yj _)),λj e' g1 g2=> ?_⟩;have:j=id:=ok'.inj j id _ g1 hmset;subst this;rw[hHset]at g2;cases g2;show o < (xs++ys).length*i.size;grind
    grind
theorem vk{t:yc}{len:Nat}{parts:Array (Nat×ym)}(ho:o.op=.buildSlice t len parts){v:yh}{w':World}
 (h:(Instr.buildSlice t len (parts.map λq=>(q.1,a.eval q.2))).run P σ.w=.ok v w'):(execOp a.eval o).run P σ.w=.ok (.value v) w':=by
 simp[execOp,ho,h]
theorem vl(yK:aK σ ts a){t e:yc}{i:TypeInfo}{len:Nat}{parts:Array (Nat×ym)}{xs:yL Pl}(hu:P.underlying t=ab (.slice e))(hi:P.info? e=ab i)(hz:ca i=af)
 (hsz:len*i.size<=16777216) (hl:VR P ts e (P.cellsOf e) len parts.toList=ab xs):
 ∃cells:Array yh,(Instr.buildSlice t len (parts.map λq=>(q.1,a.eval q.2))).run P σ.w=.ok (.slice (ab ⟨σ.w.heap.size,0,ae⟩) len len) (σ.w.alloc (.cells cells e))/\
  aq σ.w σ.aU xs cells.toList/\xs.length=len/\aR i.size xs/\cells.size=len*i.size:=by
 have hce:P.cellsOf e=i.size:=by simp[Program.cellsOf,hi]
 rw[hce]at hl
 obtain⟨cells,h1,h2,h3,h4⟩:=Zzd (P:=P) (t:=t) (parts:=parts.map λq=>(q.1,a.eval q.2)) (Q:=λcells=>aq σ.w σ.aU xs cells.toList/\xs.length=len/\aR i.size xs) σ.w hu hi hz hsz (λZ hZ=>by
  obtain⟨cells,k1,k2⟩:=ZK8 (P:=P) yK hl Z hZ;exact⟨cells,by rw[ycu];exact k1,k2⟩)
 exact⟨cells,h1,h2,h3,h4,by rw[<-yby,aL _ _ h2,aM h4,h3]⟩
theorem Zzh(ok:Ok σ)(yK:aK σ ts a){t e:yc}{i:TypeInfo}{len:Nat}{parts:Array (Nat×ym)}{xs:yL Pl}(ho:o.op=.buildSlice t len parts)(hu:P.underlying t=ab (.slice e))
 (hi:P.info? e=ab i) (hz:ca i=af) (hne:i.size≠0) (hsz:len*i.size<=16777216) (hl:VR P ts e (P.cellsOf e) len parts.toList=ab xs):XE P o a σ (.p (.sl (ab af) i.size xs)) σ.H:=by
 obtain⟨cells,zU,hr,zV,zO,hcs⟩:=vl (P:=P) yK hu hi hz hsz hl;obtain⟨to,ok'⟩:=va ok (World.grownBy_alloc σ.w (.cells cells e) ae)
 have hle:len<=maxLen:=by
  have:=Nat.le_mul_of_pos_right len (Nat.pos_of_ne_zero hne);simp only[maxLen];omega
 refine ZP (σ':={ σ with w:=σ.w.alloc (.cells cells e)}) (vk ho zU) to ok' ?_;rw[<-zV];exact ZFB (lK rfl) ok' zO (aD to.leaf.cells _ _ hr) (b:=σ.w.heap.size) (heap_alloc_new σ.w _) (ok.new _ (yj _)) (EF ok) (ybs (yj _)) (yj _) (by rw[zV];exact hle)
theorem ZK9(ok:Ok σ)(yK:aK σ ts a){t e:yc}{i:TypeInfo}{len:Nat}{parts:Array (Nat×ym)}{xs:yL Pl}(ho:o.op=.buildSlice t len parts)(hu:P.underlying t=ab (.slice e))
 (hi:P.info? e=ab i) (hz:ca i=af) (hne:i.size≠0) (hsz:len*i.size<=16777216) (hl:VR P ts e (P.cellsOf e) len parts.toList=ab xs):
 XE P o a σ (.own σ.H.length (ab af) i.size xs) (σ.H++[.log i.size e xs]):=by
 obtain⟨cells,zU,hr,zV,zO,hcs⟩:=vl (P:=P) yK hu hi hz hsz hl
 have hle:len<=maxLen:=by
  have:=Nat.le_mul_of_pos_right len (Nat.pos_of_ne_zero hne);simp only[maxLen];omega
 let σ':Sg:={ σ with m:=σ.m++[ab σ.w.heap.size],H:=σ.H++[.log i.size e xs],w:=σ.w.alloc (.cells cells e)};have zB:σ'.w.heap[σ.w.heap.size]? =ab (.cells cells e (0,0)):=heap_alloc_new σ.w _
 have hmlast:σ'.m[σ.H.length]? =ab (ab σ.w.heap.size):=by
  show(σ.m++[ab σ.w.heap.size])[σ.H.length]? =_;rw[yaq (by rw[ok.len];exact yj _),ok.len];simp
 have htk:cells.toList.take (xs.length*i.size)=cells.toList:=ybs (by rw[zV, <-hcs];simp)
 obtain⟨to,ok'⟩:=VV (σ':=σ') ok rfl rfl rfl rfl (World.grownBy_alloc σ.w (.cells cells e) ae) (.inr ⟨_,rfl,yj _,by simp[σ']⟩)
  (λleaf=>.inr ⟨σ.w.heap.size,cells,len,rfl,zB,hcs,by rw[zV];exact yj _,hle,zO,by rw[htk];exact aD leaf.cells _ _ hr⟩)
 refine ZP (σ':=σ') (vk ho zU) to ok' ?_;rw[Zi rfl];simp only[yG]
 refine⟨zO,ab ⟨σ.w.heap.size,0,ae⟩,len,by rw[zV],by rw[zV];exact yj _,hle,lK rfl,λh=>(by cases h),λ_=>⟨σ.w.heap.size,0,cells.toList,rfl,aD to.leaf.cells _ _ hr,oT zB (λo' ho'=>⟨.inr (ok.new _ (yj _)),λid e' h1 h2=> ?_⟩) (ybs (yj _))⟩,
  e,xs,by simp[σ'],yj _,λ_=>.inr ⟨_,cells,hmlast,rfl,zB,hcs⟩⟩
 have:id=σ.H.length:=ok'.inj id σ.H.length _ h1 hmlast;subst this;have h3:σ'.H[σ.H.length]? =ab (.log i.size e xs):=by simp[σ']
 rw[h3]at h2;cases h2;show o' < xs.length*i.size;grind
theorem ZJC(ok:Ok σ){t:yc}{dd:Dv}{v:yh}{st:Bool}(hsol:dd.bF=af)(hr:yH σ dd v)(hx:(execOp a.eval o).run P σ.w=.ok (.value (.pointer (ab ⟨σ.w.heap.size,0,ae⟩))) (σ.w.alloc (.cells v.cells t))):
 XE P o a σ (.am σ.H.length 0 []) (σ.H++[.var dd st]):=by
 have hcells:=nx hsol hr;let σ':Sg:={ σ with m:=σ.m++[ab σ.w.heap.size],H:=σ.H++[.var dd st],w:=σ.w.alloc (.cells v.cells t)};have zB:σ'.w.heap[σ.w.heap.size]? =ab (.cells v.cells t (0,0)):=heap_alloc_new σ.w _;have hsz:=Vf _ _ hcells
 have hmlast:σ'.m[σ.H.length]? =ab (ab σ.w.heap.size):=by
  show(σ.m++[ab σ.w.heap.size])[σ.H.length]? =_;rw[yaq (by rw[ok.len];exact yj _),ok.len];simp
 obtain⟨to,ok'⟩:=VV (σ':=σ') ok rfl rfl rfl rfl (World.grownBy_alloc σ.w (.cells v.cells t) ae) (.inr ⟨_,rfl,yj _,by simp[σ']⟩)
  (λleaf=>⟨σ.w.heap.size,v.cells,t,rfl,zB,by rw[<-hsz,ybs (yj _)];exact Yi leaf dd _ hcells,by rw[<-hsz];simp⟩)
 refine ZP (σ':=σ') hx to ok' ?_;rw[Zi rfl];simp only[yG];grind
theorem ZR4(ok:Ok σ){t:yc}{dd:Dv}{v:yh}{st:Bool}{id:Nat}(hid:σ.H[id]? =ab .gone)(hsol:dd.bF=af)(hr:yH σ dd v)(hx:(execOp a.eval o).run P σ.w=.ok (.value (.pointer (ab ⟨σ.w.heap.size,0,ae⟩))) (σ.w.alloc (.cells v.cells t))):
 XE P o a σ (.am id 0 []) (σ.H.set id (.var dd st)):=by
 have hcells:=nx hsol hr;have hlt:id < σ.m.length:=by rw[ok.len];exact(yo.1 hid).1
 have hm:σ.m[id]? =ab σ.m[id]:=yac hlt;let σ':Sg:={ σ with m:=σ.m.set id (ab σ.w.heap.size),H:=σ.H.set id (.var dd st),w:=σ.w.alloc (.cells v.cells t)};have zB:σ'.w.heap[σ.w.heap.size]? =ab (.cells v.cells t (0,0)):=heap_alloc_new σ.w _;have hg:=World.grownBy_alloc σ.w (.cells v.cells t) ae;have hsz:=Vf _ _ hcells;have hself:σ'.m[id]? =ab (ab σ.w.heap.size):=an hm;have hHself:σ'.H[id]? =ab (.var dd st):=an hid
 obtain⟨to,ok'⟩:=Wg (σ':=σ') (mi:=σ.m[id]) (mi':=ab σ.w.heap.size) ok hid hm rfl rfl rfl rfl rfl rfl rfl hg.size
  (λj hj _=>hg.block j hj (by simp)) (λb o v hb _ hc=>by
    have hj:=ok.lt id b (by rw[hm,hb]);rw[World.cell?_of_block (w:=σ.w) (hg.block b hj (by simp))];exact hc) (λo he hu=>by
    have hj:=ok.lt id _ (by rw[hm, <-he]);omega) (.inr ⟨_,rfl,yj _,by simp[σ']⟩) (λ⟨d,st,h⟩=>by cases h) (λ⟨d,st,h⟩=>by cases h) (λs e xs h=>by cases h)
  (λleaf=>⟨σ.w.heap.size,v.cells,t,rfl,zB,by rw[<-hsz,ybs (yj _)];exact Yi leaf dd _ hcells,by rw[<-hsz];simp⟩)
  (λv s st e d h=>by cases h)
 refine ZP (σ':=σ') hx to ok' ?_;rw[Zi rfl];simp only[yG];grind
theorem ZHU(ok:Ok σ){t:yc}{i:TypeInfo}{id:Nat}(hid:σ.H[id]? =ab .gone)(ho:o.op=.alloc t)(hi:P.info? t=ab i)(hz:i.zero.isSome=af)(hk:gR P t (WH P t)=af)(hsol:(WH P t).bF=af):
 XE P o a σ (.am id 0 []) (σ.H.set id (.var (WH P t) af)):=by
 cases hzz:i.zero with
 |none=>simp[hzz]at hz
 |some z=>
  have hr:yH σ (WH P t) z:=by
   unfold WH;rw[hi];simp only[hzz];exact ng
  refine ZR4 (v:=z) (t:=t) ok hid hsol hr ?_;simp[execOp,ho,Instr.alloc,zeroValue,typeInfo,hi,hzz,newVar,newRow]
theorem ZPI(ok:Ok σ){t:yc}{i:TypeInfo}(ho:o.op=.alloc t)(hi:P.info? t=ab i)(hz:i.zero.isSome=af)(hk:gR P t (WH P t)=af)(hsol:(WH P t).bF=af):
 XE P o a σ (.am σ.H.length 0 []) (σ.H++[.var (WH P t) af]):=by
 cases hzz:i.zero with
 |none=>simp[hzz]at hz
 |some z=>
  have hr:yH σ (WH P t) z:=by
   unfold WH;rw[hi];simp only[hzz];exact ng
  refine ZJC (v:=z) (t:=t) ok hsol hr ?_;simp[execOp,ho,Instr.alloc,zeroValue,typeInfo,hi,hzz,newVar,newRow]
theorem ZTS(ok:Ok σ){t:yc}{x:ym}{dd:Dv}(ho:o.op=.box t x)(hsol:dd.bF=af)(hr:yH σ dd (a.eval x)):XE P o a σ (.am σ.H.length 0 []) (σ.H++[.var dd af]):=by
 refine ZJC (v:=a.eval x) (t:=t) ok hsol hr ?_;simp[execOp,ho,Instr.box,newVar,newRow]
theorem oU{σ:Sg}:∀(yM:yL Nat)(dd:Dv)(hs hs':yL ar)(C:yL Prop)(off:Nat)(sub:Dv)(us:yL yh),Yy dd yM hs=ab (C,off,sub,hs')->ba C->yG σ dd us->
 ∃x y z,us=x++(y++z)/\x.length=off/\yG σ sub y
 |[],dd,hs,hs',C,off,sub,us,h,hc,hr=>by
  simp only[Yy,yp,yz]at h;obtain⟨rfl,rfl,rfl,rfl⟩:=h
  exact⟨[],us,[],by simp,rfl,hr⟩
 |i::yM,dd,hs,hs',C,off,sub,us,h,hc,hr=>by
  cases dd with
  |p q=>
   cases q with
   |agg xs=>
    simp only[Yy]at h;split at h
    .rename_i x hx;simp only[yn,yz]at h;obtain⟨⟨C1,off1,sub1,hs1⟩,h1,rfl,rfl,rfl,rfl⟩:=h;simp only[yG,aw]at hr;obtain⟨p1,p2,p3,rfl,h2,h3,_⟩:=kL hr hx;obtain⟨q1,q2,q3,rfl,h4,h5⟩:=oU yM (.p x) _ _ _ _ _ p2 h1 hc (by simpa[yG] using h3);exact⟨p1++q1,q2,q3++p3,by simp,by rw[yl,h2,h4],h5⟩
    .cases h
   |arr n s xs=>
    simp only[Yy]at h;split at h
    .rename_i y hs1;simp only[yn,yz]at h;obtain⟨⟨C1,off1,sub1,hs1⟩,h1,rfl,rfl,rfl,rfl⟩:=h;obtain⟨hx,hc⟩:=hc;simp only[yG,aw]at hr;obtain⟨hl,zO,hr⟩:=hr;obtain⟨p1,p2,p3,rfl,h2,h3,_⟩:=kL hr hx;obtain⟨q1,q2,q3,rfl,h4,h5⟩:=oU yM (.p y) _ _ _ _ _ p2 h1 hc (by simpa[yG] using h3);have hi:i < xs.length:=(yo.1 hx).1;exact⟨p1++q1,q2,q3++p3,by simp,by rw[yl,h2,h4,aM (QY zO i),yx,ybc (Nat.le_of_lt hi)],h5⟩
    .cases h
   |_=>simp[Yy]at h
  |agg xs=>
   simp only[Yy]at h;split at h
   .rename_i x hx;simp only[yn,yz]at h;obtain⟨⟨C1,off1,sub1,hs1⟩,h1,rfl,rfl,rfl,rfl⟩:=h;simp only[yG]at hr;obtain⟨p1,p2,p3,rfl,h2,h3,_⟩:=ni hr hx;obtain⟨q1,q2,q3,rfl,h4,h5⟩:=oU yM x _ _ _ _ _ p2 h1 hc h3;exact⟨p1++q1,q2,q3++p3,by simp,by rw[yl,h2,h4],h5⟩
   .cases h
  |arr n s xs=>
   simp only[Yy]at h;split at h
   .rename_i x hx;simp only[yn,yz]at h;obtain⟨⟨C1,off1,sub1,hs1⟩,h1,rfl,rfl,rfl,rfl⟩:=h;simp only[yG]at hr;obtain⟨hl,zO,hr⟩:=hr;obtain⟨p1,p2,p3,rfl,h2,h3,_⟩:=ni hr hx;obtain⟨q1,q2,q3,rfl,h4,h5⟩:=oU yM x _ _ _ _ _ p2 h1 hc h3;have hi:i < xs.length:=(yo.1 hx).1;exact⟨p1++q1,q2,q3++p3,by simp,by rw[yl,h2,h4,cQ (λy hy=>zO y (ybn hy)),yx,ybc (Nat.le_of_lt hi)],h5⟩
   .cases h
  |_=>simp[Yy]at h
theorem vm(ok:Ok σ){id off:Nat}{yM:yL Nat}{dd sub:Dv}{st:Bool}{b:Nat}{C:yL Prop}{off':Nat}(hm:σ.m[id]? =ab (ab b))(hH:σ.H[id]? =ab (.var dd st))(hg:Yy dd yM hs=ab (C,off',sub,hs'))(hc:ba C)(he:off'=off):
 ∃cs t x y z,σ.w.heap[b]? =ab (.cells cs t (0,0))/\dd.size<=cs.size/\cs.toList.take dd.size=x++(y++z)/\x.length=off/\yG σ sub y/\yG σ dd (cs.toList.take dd.size)/\
  (∀(j:Nat)(u:yh),y[j]? =ab u->σ.w.cell? ⟨b,off+j,ae⟩=ab u):=by
 obtain⟨b',cs,t,h1,h2,h3,h4⟩:=ok.cY id _ _ hH hm;cases h1;obtain⟨x,y,z,h5,h6,h7⟩:=oU yM dd hs hs' C off' sub _ hg hc h3;subst he;refine⟨cs,t,x,y,z,h2,h4,h5,h6,h7,h3,λj u hu=> ?_⟩;rw[cell_of_row σ.w b _ cs t (0,0) h2, <-ycf, <-h6];have hj:j < y.length:=(yo.1 hu).1
 have hlt:x.length+j < dd.size:=by
  have:=congrArg List.length h5;grind
 have h8:(cs.toList.take dd.size)[x.length+j]? =ab u:=by
  grind
 grind
theorem ZCj{d:Dv}{s N:Nat}(h:aY d s=ab N):d.size=N*s:=by
 unfold aY at h;split at h
 .split at h
  .rename_i e;cases h;rw[e];rfl
  .cases h
 .split at h
  .rename_i e;cases h;rw[e];rfl
  .cases h
 .cases h
theorem ZLa(ok:Ok σ){id off v s N:Nat}{yM:yL Nat}{dd sub:Dv}{st:Bool}{e:yc}{b:Nat}{C:yL Prop}{off':Nat}(hm:σ.m[id]? =ab (ab b))(hH:σ.H[id]? =ab (.row v s st e dd))(hN:aY dd s=ab N)
 (hg:Yy dd yM hs=ab (C,off',sub,hs')) (hc:ba C) (he:off'=off):
 ∃cs cap x y z,σ.w.heap[b]? =ab (.cells cs e (0,0))/\cs.size=cap*s/\N<=cap/\cap<=maxLen/\dd.size<=cs.size/\cs.toList.take dd.size=x++(y++z)/\x.length=off/\yG σ sub y/\yG σ dd (cs.toList.take dd.size)/\
  (∀(j:Nat)(u:yh),y[j]? =ab u->σ.w.cell? ⟨b,off+j,ae⟩=ab u):=by
 obtain⟨N',hN',h⟩:=ok.cY id _ _ hH hm;rw[hN]at hN';cases hN';rcases h with⟨h,_⟩|⟨b',cs,cap,h1,h2,h4,h5,h6,h3⟩
 .cases h
 cases h1;have hsz:=ZCj hN;rw[<-hsz]at h3;have hle:dd.size<=cs.size:=by rw[hsz,h4];exact ycg _ h5
 obtain⟨x,y,z,k5,k6,k7⟩:=oU yM dd hs hs' C off' sub _ hg hc h3;subst he;refine⟨cs,cap,x,y,z,h2,h4,h5,h6,hle,k5,k6,k7,h3,λj u hu=> ?_⟩;rw[cell_of_row σ.w b _ cs e (0,0) h2, <-ycf, <-k6];have hj:j < y.length:=(yo.1 hu).1
 have hlt:x.length+j < dd.size:=by
  have:=congrArg List.length k5;grind
 have h8:(cs.toList.take dd.size)[x.length+j]? =ab u:=by
  grind
 grind
theorem ZPJ(ok:Ok σ){id v s b:Nat}{st:Bool}{e:yc}{dd:Dv}(hm:σ.m[id]? =ab (ab b))(hH:σ.H[id]? =ab (.row v s st e dd)):∃N,aY dd s=ab N:=by
 obtain⟨N',hN',_⟩:=ok.cY id _ _ hH hm;grind
theorem ZFC{id v off v' s:Nat}{yM:yL Nat}{st:Bool}{e:yc}{dd:Dv}{u:yh}(hx:yH σ (.aZ id v off yM) u)(hH:σ.H[id]? =ab (.row v' s st e dd))(hv:v'=v):∃b,u=.pointer (ab ⟨b,off,ae⟩)/\σ.m[id]? =ab (ab b):=by
 obtain⟨b,o',h1,v2,s2,st2,e2,d2,h2,h3,h4⟩:=vf hx;grind
theorem ZR5(ok:Ok σ)(yK:aK σ ts a){t:yc}{x:ym}(ho:o.op=.load t x)(h:bB P o ts σ.H hs=ab (C,d,hs'))(hc:ba C):XE P o a σ d σ.H:=by
 simp only[bB,ho]at h;have hx:=Zs (P:=P) yK 0 x;split at h
 .rename_i id off yM hd;rw[hd]at hx;split at h
  .rename_i dd st hH;split at h
   .rename_i C1 off' sub hs1 hg;split at h
    .rename_i hk;cases h;unfold gR at hk;simp only[yi,yT]at hk;obtain⟨⟨⟨k1,k2⟩,k3⟩,k4⟩:=hk;obtain⟨hc1,hc2⟩:=Zr.1 hc;obtain⟨b,hm,hv,hx⟩:=lP hx;obtain⟨cs,t',p1,p2,p3,_,_,_,_,h5,_,h6⟩:=vm ok hm hH hg hc1 hc2.1;obtain⟨v,h7,h8⟩:=uZ (P:=P) h5 h6 k1 k4 k3 k2;exact Zl ok (by simp[execOp,ho,hx,Instr.loadAt,Instr.sureAddr,h7]) h8
    .cases h
   .cases h
  .cases h
 .rename_i id v off yM hd;rw[hd]at hx;split at h
  .rename_i v' s' st e dd hH;split at h
   .rename_i C1 off' sub hs1 hg;split at h
    .rename_i hk;cases h;unfold gR at hk;simp only[yi,yT]at hk;obtain⟨⟨⟨⟨k1,k2⟩,k3⟩,k4⟩,hv⟩:=hk;obtain⟨hc1,hc2⟩:=Zr.1 hc;obtain⟨b,hx,hm⟩:=ZFC hx hH hv;obtain⟨N,hN⟩:=ZPJ ok hm hH;obtain⟨cs,cap,p1,p2,p3,_,_,_,_,_,_,_,h5,_,h6⟩:=ZLa ok hm hH hN hg hc1 hc2.1;obtain⟨v,h7,h8⟩:=uZ (P:=P) h5 h6 k1 k4 k3 k2;exact Zl ok (by simp[execOp,ho,hx,Instr.loadAt,Instr.sureAddr,h7]) h8
    .cases h
   .cases h
  .cases h
 .cases h
end
end Go.Ev
end
