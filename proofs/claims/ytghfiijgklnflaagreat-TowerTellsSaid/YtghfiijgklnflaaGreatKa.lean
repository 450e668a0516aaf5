/- Parts of the proof, in one file. -/
import Derived.WalkKit
import Derived.Lib.Bytealg
import Derived.Maps.AppendAt
import Derived.Lib.AppendStr
import Derived.Laws.Externs
import Derived.KernelRfl
import Derived.Lib.SlBytesRow
import Derived.Lib.BufferRead
import Derived.Lib.ConvBytes
import Derived.Lib.BytesEntry
import Derived.ChangeKeysEq
import Derived.Laws.StructEq
import Derived.MapKept
import Derived.WideKeyRuns
import Derived.Scope
import Derived.Below
import Derived.ChangeSame
import Derived.ChangeCalls
import Derived.ChangeStays
import Derived.OpenShut
import Derived.ProofKit
import Derived.JoinedCond
import Derived.Test.YtghfiijgklnflaaGreatProg
import Derived.Lib.Walk
import Derived.Lib.SliceRun
import Derived.Lib.AppendZerosOnto
import Derived.Test.YtghfiijgklnflaaGreatRows
abbrev yL.{u}(α:Type u):=List α
abbrev yO.{u}(α:Type u):=Option α
abbrev yU:=UInt64
abbrev yB:=UInt8
abbrev yV:=UInt32
theorem zY:True:=trivial
theorem yW.{u}{c:Prop}{h:Decidable c}(hc:c){α:Sort u}{t e:α}:(ite c t e)=t:=if_pos hc
theorem yX.{u}{c:Prop}{h:Decidable c}(hc:¬c){α:Sort u}{t e:α}:(ite c t e)=e:=if_neg hc
theorem yY{p:Prop}[inst:Decidable p](h:p):decide p=true:=decide_eq_true h
theorem yZ{p:Prop}[inst:Decidable p](h:¬p):decide p=false:=decide_eq_false h
theorem yP{p:Prop}[Decidable p]:(decide p=true)=p:=decide_eq_true_eq
theorem yN{p:Prop}[Decidable p]:decide p=true↔p:=decide_eq_true_iff
theorem yT.{u}{α:Type u}[BEq α][LawfulBEq α]{a b:α}:(a==b)=true↔a=b:=beq_iff_eq
theorem yE.{u}{α:Type u}[BEq α][LawfulBEq α]{a b:α}:(a != b)=true↔a≠b:=bne_iff_ne
theorem yF{p:Prop}[inst:Decidable p](h:decide p=true):p:=of_decide_eq_true h
open Array renaming length_toList → ybo, getElem?_toList → ycd, toArray_toList → ycz
open Bool renaming and_eq_true → yi
open Go renaming TypeId → yb, Program → yg, Value → yh, Oper → ym, Operand → yn, FuncId → yw, World → yz
open List renaming length_append → yj, getElem?_eq_some_iff → yo, range → yp, length_take → yv, append_assoc → yx, length_map → yaa, replicate → yac, getElem?_eq_getElem → yad, cons_append → yae, map_cons → yah, getElem?_map → yal, length_set → yan, length_cons → yao, getElem?_append_right → yat, getElem?_append_left → yba, getElem?_cons_succ → ybb, mem_singleton → ybc, mem_cons_self → ybd, mem_cons_of_mem → ybh, ext_getElem? → ybk, take_append_drop → ybl, eq_nil_of_length_eq_zero → ybn, getElem?_set → ybq, take_of_length_le → ybr, all_eq_true → ybs, getElem?_cons_zero → ybx, mem_map → ycb, getElem?_take → ycc, mem_of_mem_take → ycg, mem_append → ycp
open Nat renaming le_refl → yl, zero_add → yay, add_mul → yaz, min_eq_left → ybg, le_trans → ybj, mul_le_mul_right → ybp, add_zero → ycf, add_assoc → ych, lt_of_lt_of_le → ycv
open Option renaming bind_eq_some_iff → yf, map_eq_some_iff → yu
open Option.some renaming injEq → yq, inj → ybw
open Prod.mk renaming injEq → yab
set_option linter.unusedVariables false
set_option linter.unusedSimpArgs false
namespace Go.Ev
abbrev yzz:yL yB:=[0,0,0,0,0,0,0,0,0,0,0,0,0,0,0,0,0,0,0,0,0,0,0,0,0,0,0,0,0,0,0,0]
theorem ynd {c:Prop} [Decidable c] (h:¬c):¬decide c=true:=by simpa using h
theorem ytt:True:=trivial
end Go.Ev
section
namespace Go.Ev
inductive Pl where
 |int (k:IntKind) (n:Int)
 |bool (b:Bool)
 |str (s:ByteArray)
 |ptr0|fn0|if0|map0
 |fnv (f:yw)
 |agg (xs:List Pl)
 |arr (n s:Nat) (xs:List Pl)
 |sl (nn:Option Bool) (s:Nat) (xs:List Pl)
 |iface (t:yb) (x:Pl)
 deriving Inhabited
mutual
def Pl.size:Pl->Nat
 |.agg xs=>Pl.sizes xs
 |.arr n s _=>n*s
 |_=>1
def Pl.sizes:yL Pl->Nat
 |[]=>0
 |x::r=>x.size+Pl.sizes r
end
def Pl.isAgg:Pl->Bool
 |.agg _=>true
 |.arr _ _ _=>true
 |_=>false
def allSz(s:Nat)(xs:yL Pl):Prop:=∀x,x∈xs->x.size=s
def ZqF(nn:yO Bool)(A:yO Addr):Prop:=∀b,nn=some b->A.isSome=b
theorem Yp(A:yO Addr):ZqF none A:=λb h=>by cases h
theorem Zdy{A:yO Addr}(h:A.isSome=true):ZqF (some true) A:=λb e=>by cases e;exact h
theorem Zrg{A:yO Addr}(h:A=none):ZqF (some false) A:=λb e=>by cases e;rw[h];rfl
def Vt(w:yz)(S:Nat->Nat->Prop)(b o:Nat)(us:yL yh):Prop:=
 ∀j u,us[j]? =some u->w.cell? ⟨b,o+j,none⟩=some u/\S b (o+j)
mutual
def repC(w:yz)(S:Nat->Nat->Prop):Pl->yL yh->Prop
 |.int k n,vs=>vs=[.int k n]
 |.bool b,vs=>vs=[.bool b]
 |.str s,vs=>vs=[.string s]
 |.ptr0,vs=>vs=[.pointer none]
 |.fn0,vs=>vs=[.nilFunc]
 |.if0,vs=>vs=[.nilIface]
 |.map0,vs=>vs=[.map none]
 |.fnv f,vs=>vs=[.func (.func f) #[] #[]]
 |.agg xs,vs=>repCs w S xs vs
 |.arr n s xs,vs=>xs.length=n/\allSz s xs/\repCs w S xs vs
 |.sl nn s xs,vs=>allSz s xs/\∃A c,vs=[.slice A xs.length c]/\xs.length<=c/\c<=maxLen/\ZqF nn A/\(A=none->c=0)/\
   (xs≠[]->∃b o us,A=some ⟨b,o,none⟩/\repCs w S xs us/\Vt w S b o us)
 |.iface t x,vs=>∃v,vs=[.iface t v]/\(x.isAgg=true->∃cs:Array yh,v=.agg cs/\repC w S x cs.toList)/\(x.isAgg=false->repC w S x [v])
def repCs(w:yz)(S:Nat->Nat->Prop):yL Pl->yL yh->Prop
 |[],vs=>vs=[]
 |x::xs,vs=>∃us us',vs=us++us'/\repC w S x us/\repCs w S xs us'
end
mutual
def Pl.soft:Pl->Pl
 |.agg xs=>.agg (Pl.softs xs)
 |.arr n s xs=>.arr n s (Pl.softs xs)
 |.sl _ s xs=>.sl none s xs
 |.iface t x=>.iface t (Pl.soft x)
 |x=>x
def Pl.softs:yL Pl->yL Pl
 |[]=>[]
 |x::r=>x.soft::Pl.softs r
end
inductive Dv where
 |p (x:Pl)
 |elem (x:Pl)
 |ref (id off:Nat) (yM:List Nat)
 |own (id:Nat) (nn:Option Bool) (s:Nat) (xs:List Pl)
 |view (id off:Nat) (yM:List Nat) (s lo n:Nat)
 |agg (xs:List Dv)
 |arr (n s:Nat) (xs:List Dv)
 |fn (f:yw) (cap:List Dv)
 |iface (t:yb) (x:Dv)
 |tup (xs:List Dv)
 |mp (id:Nat)
 |rv (id v s lo n:Nat)
 |rref (id v off:Nat) (yM:List Nat)
 |junk
 deriving Inhabited
mutual
def Dv.size:Dv->Nat
 |.p x=>x.size
 |.agg xs=>Dv.sizes xs
 |.arr n s _=>n*s
 |_=>1
def Dv.sizes:yL Dv->Nat
 |[]=>0
 |x::r=>x.size+Dv.sizes r
end
def Dv.isAgg:Dv->Bool
 |.p x=>x.isAgg
 |.agg _=>true
 |.arr _ _ _=>true
 |_=>false
inductive Ent where
 |var (d:Dv) (st:Bool)
 |log (s:Nat) (e:yb) (xs:List Pl)
 |map (t:yb) (kvs:List (Pl×Pl))
 |row (v s:Nat) (st:Bool) (e:yb) (d:Dv)
 |gone
 deriving Inhabited
structure Sg where
 F:Nat->Nat->Prop
 B:Nat->Prop
 m:List (Option Nat)
 H:List Ent
 w:yz
def rowN:Dv->Nat->yO Nat
 |.p (.arr n s' _),s=>if s'=s then some n else none
 |.arr n s' _,s=>if s'=s then some n else none
 |_,_=>none
def Ent.unlocked:Ent->Nat->Prop
 |.var _ st,_=>st=false
 |.log s _ xs,o=>o < xs.length*s
 |.map _ _,_=>False
 |.row _ s st _ d,o=>st=false/\∃N,rowN d s=some N/\o < N*s
 |.gone,_=>True
def Sg.stab(σ:Sg)(b o:Nat):Prop:=
 (σ.F b o\/σ.B b)/\∀(id:Nat)(e:Ent),σ.m[id]? =some (some b)->σ.H[id]? =some e->e.unlocked o
def ownFront(σ:Sg)(id s:Nat)(len:Nat)(A:yO Addr)(c:Nat):Prop:=
 ∃e ys,σ.H[id]? =some (.log s e ys)/\len<=ys.length/\(ys.length=len->
  (σ.m[id]? =some none/\A=none/\c=0)\/
  ∃b cur,σ.m[id]? =some (some b)/\A=some ⟨b,0,none⟩/\σ.w.heap[b]? =some (.cells cur e (0,0))/\cur.size=c*s)
def rowAt(σ:Sg)(id v s lo:Nat)(A:yO Addr)(c:Nat):Prop:=
 ∃v' s' st e d,σ.H[id]? =some (.row v' s' st e d)/\v<=v'/\(v'=v->s'=s/\
  ((σ.m[id]? =some none/\A=none/\lo+c=0)\/∃b cur,σ.m[id]? =some (some b)/\σ.w.heap[b]? =some (.cells cur e (0,0))/\cur.size=(lo+c)*s/\(0 < c->A=some ⟨b,lo*s,none⟩)))
def rowIs(σ:Sg)(id v b o off:Nat):Prop:=∃v' s st e d,σ.H[id]? =some (.row v' s st e d)/\v<=v'/\(v'=v->σ.m[id]? =some (some b)/\o=off)
def big:Nat:=4294967296
def Zjg(f:yw):yw:=if f < big then f else f - big
mutual
def yG(σ:Sg):Dv->yL yh->Prop
 |.p x,vs=>repC σ.w σ.stab x vs
 |.elem x,vs=>∃b o us,vs=[.pointer (some ⟨b,o,none⟩)]/\repC σ.w σ.stab x us/\Vt σ.w σ.stab b o us
 |.ref id off _,vs=>∃b,σ.m[id]? =some (some b)/\(∃d st,σ.H[id]? =some (.var d st))/\vs=[.pointer (some ⟨b,off,none⟩)]
 |.own id nn s xs,vs=>allSz s xs/\∃A c,vs=[.slice A xs.length c]/\xs.length<=c/\c<=maxLen/\ZqF nn A/\(A=none->c=0)/\
   (xs≠[]->∃b o us,A=some ⟨b,o,none⟩/\repCs σ.w σ.stab xs us/\Vt σ.w σ.stab b o us)/\ownFront σ id s xs.length A c
 |.view id off _ s lo n,vs=>∃b c a,σ.m[id]? =some (some b)/\(∃d st,σ.H[id]? =some (.var d st))/\vs=[.slice (some a) n c]/\n<=c/\c<=maxLen/\
   (0 < n->a=⟨b,off+lo*s,none⟩)
 |.agg xs,vs=>repDs σ xs vs
 |.arr n s xs,vs=>xs.length=n/\(∀x,x∈xs->x.size=s)/\repDs σ xs vs
 |.fn f cap,vs=>∃fs cs,vs=[.func (.func (Zjg f)) fs cs]/\(if f < big then fs else cs)= #[]/\repVs σ cap (fs++cs).toList
 |.iface t x,vs=>∃v,vs=[.iface t v]/\(x.isAgg=true->∃cs:Array yh,v=.agg cs/\yG σ x cs.toList)/\(x.isAgg=false->yG σ x [v])
 |.tup xs,vs=>∃cs,vs=[.tuple cs]/\repVs σ xs cs.toList
 |.mp id,vs=>∃b,σ.m[id]? =some (some b)/\(∃t kvs,σ.H[id]? =some (.map t kvs))/\vs=[.map (some b)]
 |.rv id v s lo n,vs=>∃A c,vs=[.slice A n c]/\n<=c/\c<=maxLen/\(A=none->c=0)/\(0 < n->∃b o,A=some ⟨b,o,none⟩)/\rowAt σ id v s lo A c
 |.rref id v off _,vs=>∃b o,vs=[.pointer (some ⟨b,o,none⟩)]/\rowIs σ id v b o off
 |.junk,vs=>vs.length=1
def repDs(σ:Sg):yL Dv->yL yh->Prop
 |[],vs=>vs=[]
 |x::xs,vs=>∃us us',vs=us++us'/\yG σ x us/\repDs σ xs us'
def repVs(σ:Sg):yL Dv->yL yh->Prop
 |[],vs=>vs=[]
 |x::xs,vs=>∃v vs',vs=v::vs'/\((x.isAgg=true->∃cs:Array yh,v=.agg cs/\yG σ x cs.toList)/\(x.isAgg=false->yG σ x [v]))/\repVs σ xs vs'
end
def yH(σ:Sg)(d:Dv)(v:yh):Prop:=
 (d.isAgg=true->∃cs:Array yh,v=.agg cs/\yG σ d cs.toList)/\(d.isAgg=false->yG σ d [v])
theorem Vt.mono{w w':yz}{S S':Nat->Nat->Prop}(h:∀(b o:Nat)(v:yh),w.cell? ⟨b,o,none⟩=some v->S b o->w'.cell? ⟨b,o,none⟩=some v/\S' b o)
 {b o:Nat} {us:yL yh} (hc:Vt w S b o us):Vt w' S' b o us:=
 λj u hu=>let ⟨h1,h2⟩:=hc j u hu;h _ _ _ h1 h2
mutual
theorem ZbE{w w':yz}{S S':Nat->Nat->Prop}(h:∀(b o:Nat)(v:yh),w.cell? ⟨b,o,none⟩=some v->S b o->w'.cell? ⟨b,o,none⟩=some v/\S' b o):∀(x:Pl)(vs:yL yh),repC w S x vs->repC w' S' x vs
 |.int _ _,_,hr=>by simpa[repC] using hr
 |.bool _,_,hr=>by simpa[repC] using hr
 |.str _,_,hr=>by simpa[repC] using hr
 |.ptr0,_,hr=>by simpa[repC] using hr
 |.fn0,_,hr=>by simpa[repC] using hr
 |.if0,_,hr=>by simpa[repC] using hr
 |.map0,_,hr=>by simpa[repC] using hr
 |.fnv _,_,hr=>by simpa[repC] using hr
 |.agg xs,vs,hr=>by
  simp only[repC] at hr ⊢
  exact repCs_mono h xs vs hr
 |.arr n s xs,vs,hr=>by
  simp only[repC] at hr ⊢
  exact⟨hr.1,hr.2.1,repCs_mono h xs vs hr.2.2⟩
 |.sl nn s xs,vs,hr=>by
  simp only[repC] at hr ⊢;obtain⟨h1,A,c,h2,h3,h4,h5,h6,h7⟩:=hr;refine⟨h1,A,c,h2,h3,h4,h5,h6,λhne=> ?_⟩;obtain⟨b,o,us,e1,e2,e3⟩:=h7 hne
  exact⟨b,o,us,e1,repCs_mono h xs us e2,e3.mono h⟩
 |.iface t x,vs,hr=>by
  simp only[repC] at hr ⊢;obtain⟨v,h1,h2,h3⟩:=hr;refine⟨v,h1,λha=> ?_,λha=>ZbE h x _ (h3 ha)⟩;obtain⟨cs,e1,e2⟩:=h2 ha;exact⟨cs,e1,ZbE h x _ e2⟩
theorem repCs_mono{w w':yz}{S S':Nat->Nat->Prop}(h:∀(b o:Nat)(v:yh),w.cell? ⟨b,o,none⟩=some v->S b o->w'.cell? ⟨b,o,none⟩=some v/\S' b o):∀(xs:yL Pl)(vs:yL yh),repCs w S xs vs->repCs w' S' xs vs
 |[],_,hr=>by simpa[repCs] using hr
 |x::xs,vs,hr=>by
  simp only[repCs] at hr ⊢;obtain⟨us,us',h1,h2,h3⟩:=hr;exact⟨us,us',h1,ZbE h x us h2,repCs_mono h xs us' h3⟩
end
structure Leaf(σ σ':Sg):Prop where
 cells:∀(b o:Nat)(v:yh),σ.w.cell? ⟨b,o,none⟩=some v->σ.stab b o->σ'.w.cell? ⟨b,o,none⟩=some v/\σ'.stab b o
 var:∀(id b:Nat),σ.m[id]? =some (some b)->(∃d st,σ.H[id]? =some (.var d st))->σ'.m[id]? =some (some b)/\∃d st,σ'.H[id]? =some (.var d st)
 front:∀(id s len:Nat)(A:Option Addr)(c:Nat),ownFront σ id s len A c->ownFront σ' id s len A c
 map:∀(id b:Nat),σ.m[id]? =some (some b)->(∃t kvs,σ.H[id]? =some (.map t kvs))->σ'.m[id]? =some (some b)/\∃t kvs,σ'.H[id]? =some (.map t kvs)
 row:∀(id v s:Nat)(st:Bool)(e:yb)(d:Dv),σ.H[id]? =some (.row v s st e d)->∃v' st' d',σ'.H[id]? =some (.row v' s st' e d')/\v<=v'/\(v'=v->σ'.m[id]? =σ.m[id]? /\
  ∀b cur,σ.m[id]? =some (some b)->σ.w.heap[b]? =some (.cells cur e (0,0))->∃cur',σ'.w.heap[b]? =some (.cells cur' e (0,0))/\cur'.size=cur.size)
theorem Leaf.refl(σ:Sg):Leaf σ σ:=⟨λ_ _ _ a b=>⟨a,b⟩,λ_ _ a b=>⟨a,b⟩,λ_ _ _ _ _ a=>a,λ_ _ a b=>⟨a,b⟩,λ_ v _ st _ d h=>⟨v,st,d,h,yl _,λ_=>⟨rfl,λb cur _ hc=>⟨cur,hc,rfl⟩⟩⟩⟩
theorem Leaf.trans{a b c:Sg}(h:Leaf a b)(k:Leaf b c):Leaf a c:=
 ⟨λx o v h1 h2=>let ⟨h3,h4⟩:=h.cells x o v h1 h2;k.cells x o v h3 h4,λi x h1 h2=>let ⟨h3,h4⟩:=h.var i x h1 h2;k.var i x h3 h4,
  λi s l A cc h1=>k.front i s l A cc (h.front i s l A cc h1),λi x h1 h2=>let ⟨h3,h4⟩:=h.map i x h1 h2;k.map i x h3 h4,
  λi v s st e d h1=>by
   obtain⟨v2,st2,d2,k1,k2,k3⟩:=h.row i v s st e d h1;obtain⟨v3,st3,d3,l1,l2,l3⟩:=k.row i v2 s st2 e d2 k1;refine⟨v3,st3,d3,l1,ybj k2 l2,λhv=> ?_⟩;have e1:v2=v:=by omega
   have e2:v3=v2:=by omega
   obtain⟨p1,p2⟩:=k3 e1;obtain⟨q1,q2⟩:=l3 e2;refine⟨q1.trans p1,λb cur hb hc=> ?_⟩;obtain⟨cur',r1,r2⟩:=p2 b cur hb hc;obtain⟨cur2,r3,r4⟩:=q2 b cur' (by rw[p1];exact hb) r1;exact⟨cur2,r3,by rw[r4,r2]⟩⟩
theorem ZzC{σ σ':Sg}(h:Leaf σ σ'){id v s lo:Nat}{A:yO Addr}{c:Nat}:rowAt σ id v s lo A c->rowAt σ' id v s lo A c:=by
 rintro⟨v',s',st,e,d,h1,h2,h3⟩;obtain⟨v2,st2,d2,k1,k2,k3⟩:=h.row _ _ _ _ _ _ h1;refine⟨v2,s',st2,e,d2,k1,ybj h2 k2,λhv=> ?_⟩;have e1:v'=v:=by omega
 have e2:v2=v':=by omega
 obtain⟨q1,q2⟩:=k3 e2;obtain⟨q3,q4⟩:=h3 e1;refine⟨q3, ?_⟩;rcases q4 with⟨a1,a2⟩|⟨b,cur,a1,a2,a3,a4⟩
 ·exact .inl ⟨by rw[q1,a1],a2⟩
 ·obtain⟨cur',b1,b2⟩:=q2 b cur a1 a2;exact .inr ⟨b,cur',by rw[q1,a1],b1,by rw[b2,a3],a4⟩
theorem ZzD{σ σ':Sg}(h:Leaf σ σ'){id v b o off:Nat}:rowIs σ id v b o off->rowIs σ' id v b o off:=by
 rintro⟨v',s',st,e,d,h1,h2,h3⟩;obtain⟨v2,st2,d2,k1,k2,k3⟩:=h.row _ _ _ _ _ _ h1;refine⟨v2,s',st2,e,d2,k1,ybj h2 k2,λhv=> ?_⟩;have e1:v'=v:=by omega
 have e2:v2=v':=by omega
 rw[(k3 e2).1];exact h3 e1
mutual
theorem Yk{σ σ':Sg}(h:Leaf σ σ'):∀(d:Dv)(vs:yL yh),yG σ d vs->yG σ' d vs
 |.p x,vs,hr=>by
  simp only[yG] at hr ⊢
  exact ZbE h.cells x vs hr
 |.elem x,vs,hr=>by
  simp only[yG] at hr ⊢;obtain⟨b,o,us,h1,h2,h3⟩:=hr
  exact⟨b,o,us,h1,ZbE h.cells x us h2,h3.mono h.cells⟩
 |.ref id off yM,vs,hr=>by
  simp only[yG] at hr ⊢;obtain⟨b,h1,h2,h3⟩:=hr
  exact⟨b,(h.var id b h1 h2).1,(h.var id b h1 h2).2,h3⟩
 |.own id nn s xs,vs,hr=>by
  simp only[yG] at hr ⊢;obtain⟨h1,A,c,h2,h3,h4,h5,h6,h7,h8⟩:=hr;refine⟨h1,A,c,h2,h3,h4,h5,h6,λhne=> ?_,h.front _ _ _ _ _ h8⟩;obtain⟨b,o,us,e1,e2,e3⟩:=h7 hne
  exact⟨b,o,us,e1,repCs_mono h.cells xs us e2,e3.mono h.cells⟩
 |.view id off yM s lo n,vs,hr=>by
  simp only[yG] at hr ⊢;obtain⟨b,c,a,h1,h2,h3⟩:=hr
  exact⟨b,c,a,(h.var id b h1 h2).1,(h.var id b h1 h2).2,h3⟩
 |.agg xs,vs,hr=>by
  simp only[yG] at hr ⊢
  exact repDs_leaf h xs vs hr
 |.arr n s xs,vs,hr=>by
  simp only[yG] at hr ⊢
  exact⟨hr.1,hr.2.1,repDs_leaf h xs vs hr.2.2⟩
 |.fn f cap,vs,hr=>by
  simp only[yG] at hr ⊢;obtain⟨fs,cs,h1,h0,h2⟩:=hr
  exact⟨fs,cs,h1,h0,repVs_leaf h cap _ h2⟩
 |.iface t x,vs,hr=>by
  simp only[yG] at hr ⊢;obtain⟨v,h1,h2,h3⟩:=hr;refine⟨v,h1,λha=> ?_,λha=>Yk h x _ (h3 ha)⟩;obtain⟨cs,e1,e2⟩:=h2 ha
  exact⟨cs,e1,Yk h x _ e2⟩
 |.tup xs,vs,hr=>by
  simp only[yG] at hr ⊢;obtain⟨cs,h1,h2⟩:=hr
  exact⟨cs,h1,repVs_leaf h xs _ h2⟩
 |.mp id,vs,hr=>by
  simp only[yG] at hr ⊢;obtain⟨b,h1,h2,h3⟩:=hr
  exact⟨b,(h.map id b h1 h2).1,(h.map id b h1 h2).2,h3⟩
 |.rv id v s lo n,vs,hr=>by
  simp only[yG] at hr ⊢;obtain⟨A,c,h1,h2,h3,h4,h5,h6⟩:=hr
  exact⟨A,c,h1,h2,h3,h4,h5,ZzC h h6⟩
 |.rref id v off yM,vs,hr=>by
  simp only[yG] at hr ⊢;obtain⟨b,o,h1,h2⟩:=hr
  exact⟨b,o,h1,ZzD h h2⟩
 |.junk,_,hr=>by simpa[yG] using hr
theorem repDs_leaf{σ σ':Sg}(h:Leaf σ σ'):∀(ds:yL Dv)(vs:yL yh),repDs σ ds vs->repDs σ' ds vs
 |[],_,hr=>by simpa[repDs] using hr
 |x::xs,vs,hr=>by
  simp only[repDs] at hr ⊢;obtain⟨us,us',h1,h2,h3⟩:=hr;exact⟨us,us',h1,Yk h x us h2,repDs_leaf h xs us' h3⟩
theorem repVs_leaf{σ σ':Sg}(h:Leaf σ σ'):∀(ds:yL Dv)(vs:yL yh),repVs σ ds vs->repVs σ' ds vs
 |[],_,hr=>by simpa[repVs] using hr
 |x::xs,vs,hr=>by
  simp only[repVs] at hr ⊢;obtain⟨v,vs',h1,⟨h2,h3⟩,h4⟩:=hr;refine⟨v,vs',h1,⟨λha=> ?_,λha=>Yk h x _ (h3 ha)⟩,repVs_leaf h xs vs' h4⟩;obtain⟨cs,e1,e2⟩:=h2 ha;exact⟨cs,e1,Yk h x _ e2⟩
end
theorem WK{σ σ':Sg}(h:Leaf σ σ'){d:Dv}{v:yh}(hr:yH σ d v):yH σ' d v:=by
 obtain⟨h2,h3⟩:=hr;refine⟨λha=> ?_,λha=>Yk h d _ (h3 ha)⟩;obtain⟨cs,e1,e2⟩:=h2 ha;exact⟨cs,e1,Yk h d _ e2⟩
def Zef(σ:Sg):yL (Pl×Pl)->yL MapEntry->Prop
 |[],[]=>True
 |q::r,e::es=>yH σ (.p q.1) e.key/\yH σ (.p q.2) e.val/\Zef σ r es
 |_,_=>False
def Zj8(σ:Sg)(kvs:yL (Pl×Pl))(es:yL MapEntry):Prop:=∃l,l.Perm kvs/\(kvs.map (·.1)).Nodup/\Zef σ l es
def Zm0(es:Array MapEntry)(clock:Nat):Prop:=
 (∀(q:Nat)en,es[q]? =some en->en.born < clock)/\∀(q q':Nat)en en',es[q]? =some en->es[q']? =some en'->en.born=en'.born->q=q'
def entOk(σ:Sg)(a:yO Nat):Ent->Prop
 |.var d _=>∃b cs t,a=some b/\σ.w.heap[b]? =some (.cells cs t (0,0))/\yG σ d (cs.toList.take d.size)/\d.size<=cs.size
 |.log s e xs=>(a=none/\xs=[])\/
   ∃b cur cap,a=some b/\σ.w.heap[b]? =some (.cells cur e (0,0))/\cur.size=cap*s/\xs.length<=cap/\cap<=maxLen/\allSz s xs/\
    repCs σ.w σ.stab xs (cur.toList.take (xs.length*s))
 |.map _ kvs=>∃b es clock,a=some b/\σ.w.heap[b]? =some (.map es clock)/\Zj8 σ kvs es.toList/\Zm0 es clock
 |.row _ s _ e d=>∃N,rowN d s=some N/\((a=none/\N=0)\/
   ∃b cur cap,a=some b/\σ.w.heap[b]? =some (.cells cur e (0,0))/\cur.size=cap*s/\N<=cap/\cap<=maxLen/\yG σ d (cur.toList.take (N*s)))
 |.gone=>True
structure Ok(σ:Sg):Prop where
 len:σ.m.length=σ.H.length
 inj:∀(i j b:Nat),σ.m[i]? =some (some b)->σ.m[j]? =some (some b)->i=j
 lt:∀(i b:Nat),σ.m[i]? =some (some b)->b < σ.w.heap.size
 ent:∀(i:Nat)(e:Ent)(a:Option Nat),σ.H[i]? =some e->σ.m[i]? =some a->entOk σ a e
 new:∀(b:Nat),σ.w.heap.size<=b->σ.B b
 own:∀(i b:Nat),σ.m[i]? =some (some b)->σ.B b
structure To(σ σ':Sg):Prop where
 leaf:Leaf σ σ'
 F:σ'.F=σ.F
 B:σ'.B=σ.B
 os:σ'.w.os=σ.w.os
 tape:σ'.w.tape=σ.w.tape
 output:σ'.w.output=σ.w.output
 size:σ.w.heap.size<=σ'.w.heap.size
 block:∀(b:Nat),b < σ.w.heap.size->(∀(id:Nat),σ.m[id]? ≠some (some b))->σ'.w.heap[b]? =σ.w.heap[b]?
 same:∀(id b:Nat),σ'.m[id]? =some (some b)->σ.m[id]? =some (some b)\/σ.w.heap.size<=b
 len:σ.m.length<=σ'.m.length
theorem To.refl(σ:Sg):To σ σ:=⟨Leaf.refl σ,rfl,rfl,rfl,rfl,rfl,yl _,λ_ _ _=>rfl,λ_ _ h=>.inl h,yl _⟩
theorem To.trans{a b c:Sg}(h:To a b)(k:To b c):To a c where
 leaf:=h.leaf.trans k.leaf
 F:=k.F.trans h.F
 B:=k.B.trans h.B
 os:=k.os.trans h.os
 tape:=k.tape.trans h.tape
 output:=k.output.trans h.output
 size:=ybj h.size k.size
 block x hx hn:=(k.block x (ycv hx h.size) (λid he=>by
  rcases h.same id x he with h1|h1
  ·exact hn id h1
  ·omega)).trans (h.block x hx hn)
 same id x hx:=by
  rcases k.same id x hx with h1|h1
  ·exact h.same id x h1
  ·exact .inr (ybj h.size h1)
 len:=ybj h.len k.len
def Con(P:yg)(f:yw)(args:yL Dv)(H:yL Ent)(r:Dv)(H':yL Ent):Prop:=
 ∀(σ:Sg)(vs:yL yh),Ok σ->σ.H=H->repVs σ args vs->
  Calls P f vs.toArray σ.w λe w'=>∃v σ',e=.returned v/\σ'.w=w'/\σ'.H=H'/\To σ σ'/\Ok σ'/\yH σ' r v
structure RepT(σ:Sg)(ts:List Dv)(a:Act):Prop where
 size:a.tmps.size=ts.length
 at_:∀(i:Nat)(d:Dv),ts[i]? =some d->yH σ d (a.tmps.getD i undef)
 defers:a.defers=[]
theorem RepT.to{σ σ':Sg}{ts:yL Dv}{a:Act}(h:RepT σ ts a)(k:Leaf σ σ'):RepT σ' ts a:=
 ⟨h.size,λi d hd=>WK k (h.at_ i d hd),h.defers⟩
inductive Ex where
 |normal
 |exit (id:Nat)
 |ret
 deriving DecidableEq,Inhabited
def Ex.to:Ex->Exit
 |.normal=>.normal
 |.exit id=>.exit id
 |.ret=>.ret
def Wt(P:yg)(c:Code)(ts:yL Dv)(H:yL Ent)(ex:Ex)(ts':yL Dv)(H':yL Ent):Prop:=
 ∀(σ:Sg)(a:Act),Ok σ->σ.H=H->RepT σ ts a->
  c.wp P (λe a' w'=>e=ex.to/\∃σ',σ'.w=w'/\σ'.H=H'/\To σ σ'/\Ok σ'/\RepT σ' ts' a') a σ.w
inductive Hint where
 |b (t:Bool)
 |el (x:Pl)
 |bare
 |raw
 |call (r:Dv) (H':List Ent) (ids:List Nat)
 |sub (t:Nat) (d:Dv)
 |own
 |snap
 |kvs (l:List (Pl×Pl))
 |arr
 |frz
 |fresh (dst:Nat)
 |freshR (dst:Nat)
 |still (dst:Nat)
 |ghost (yM:List Nat) (s:Nat) (e:yb)
 |loop (mask:List Nat) (ex:Ex) (ts':List Dv) (H':List Ent)
 |meth (g:yw)
 deriving Inhabited
def ZnC(P:yg)(t:yb)(name:String)(g:yw):Prop:=
 ∀(v:yh)(args:Array yh)(w:yz),(callMethod (.iface t v) name args).run P w=(callFunc g (#[v]++args)).run P w
def Qk(k:IntKind)(x:Int):Prop:=k.min<=x/\x<=k.max
def ZIQ(P:yg)(t:yb):Nat:=
 match P.underlying t with
 |some (.slice e)=>P.cellsOf e
 |_=>0
def WT(P:yg)(t:yb):Bool:=
 match P.underlying t with
 |some (.struct _)=>true
 |some (.array _ _)=>true
 |_=>false
def ZvD(P:yg)(t:yb):yh->yO Pl
 |.int k n=>some (.int k n)
 |.bool b=>some (.bool b)
 |.string s=>some (.str s)
 |.pointer none=>some .ptr0
 |.nilFunc=>some .fn0
 |.nilIface=>some .if0
 |.map none=>some .map0
 |.slice none 0 0=>some (.sl (some false) (ZIQ P t) [])
 |_=>none
mutual
def ZCL(P:yg):Nat->yb->yL yh->yO (Pl×yL yh)
 |0,_,_=>none
 |yD+1,t,vs=>
  match P.underlying t with
  |some (.struct fs)=>(plFields P yD (fs.toList.map (·.type)) vs).map λr=>(.agg r.1,r.2)
  |some (.array n e)=>(plArr P yD e n vs).map λr=>(.arr n (P.cellsOf e) r.1,r.2)
  |some _=>match vs with
   |v::r=>(ZvD P t v).map λx=>(x,r)
   |[]=>none
  |none=>none
def plFields(P:yg):Nat->yL yb->yL yh->yO (yL Pl×yL yh)
 |0,_,_=>none
 |_+1,[],vs=>some ([],vs)
 |yD+1,t::ts,vs=>
  match ZCL P yD t vs with
  |some (x,r)=>(plFields P yD ts r).map λq=>(x::q.1,q.2)
  |none=>none
def plArr(P:yg):Nat->yb->Nat->yL yh->yO (yL Pl×yL yh)
 |0,_,_,_=>none
 |_+1,_,0,vs=>some ([],vs)
 |yD+1,e,n+1,vs=>
  match ZCL P yD e vs with
  |some (x,r)=>if x.size=P.cellsOf e then(plArr P yD e n r).map λq=>(x::q.1,q.2) else none
  |none=>none
end
def ZoV(P:yg)(t:yb):yh->Dv
 |.agg cs=>match ZCL P 1000 t cs.toList with
  |some (x,[])=>if x.isAgg then .p x else .junk
  |_=>.junk
 |.func (.func f) fst cap=>if fst.size=0/\cap.size=0/\f < big then .fn f [] else .junk
 |v=>match ZvD P t v with
  |some x=>.p x
  |none=>.junk
def argD(P:yg)(ts:yL Dv)(t:yb):yn->Dv
 |.tmp i=>ts.getD i .junk
 |.const v=>ZoV P t v
 |.global _=>.junk
 |.func f=>if f < big then .fn f [] else .junk
mutual
def Dv.solid:Dv->Bool
 |.tup _=>false
 |.junk=>false
 |.agg xs=>Dv.solids xs
 |.arr _ _ xs=>Dv.solids xs
 |_=>true
def Dv.solids:yL Dv->Bool
 |[]=>true
 |x::r=>x.solid&&Dv.solids r
end
mutual
def Dv.rn(f:Nat->yO Nat):Dv->yO Dv
 |.p x=>some (.p x)
 |.elem x=>some (.elem x)
 |.ref id off yM=>(f id).map λi=>.ref i off yM
 |.own id nn s xs=>(f id).map λi=>.own i nn s xs
 |.view id off yM s lo n=>(f id).map λi=>.view i off yM s lo n
 |.agg xs=>(Dv.rns f xs).map .agg
 |.arr n s xs=>(Dv.rns f xs).map (.arr n s)
 |.fn g cap=>(Dv.rns f cap).map (.fn g)
 |.iface t x=>(Dv.rn f x).map (.iface t)
 |.tup xs=>(Dv.rns f xs).map .tup
 |.mp id=>(f id).map .mp
 |.rv id v s lo n=>(f id).map λi=>.rv i v s lo n
 |.rref id v off yM=>(f id).map λi=>.rref i v off yM
 |.junk=>some .junk
def Dv.rns(f:Nat->yO Nat):yL Dv->yO (yL Dv)
 |[]=>some []
 |x::r=>match Dv.rn f x,Dv.rns f r with
  |some y,some ys=>some (y::ys)
  |_,_=>none
end
def Ent.rn(f:Nat->yO Nat):Ent->yO Ent
 |.var d st=>(d.rn f).map λd'=>.var d' st
 |.log s e xs=>some (.log s e xs)
 |.map t kvs=>some (.map t kvs)
 |.row v s st e d=>(d.rn f).map λd'=>.row v s st e d'
 |.gone=>some .gone
def Ent.rns(f:Nat->yO Nat):yL Ent->yO (yL Ent)
 |[]=>some []
 |x::r=>match Ent.rn f x,Ent.rns f r with
  |some y,some ys=>some (y::ys)
  |_,_=>none
def Dv.plain:Dv->yO Pl
 |.p x=>some x
 |.own _ nn s xs=>some (.sl nn s xs)
 |_=>none
mutual
def Dv.flat:Dv->yO Pl
 |.p x=>some x
 |.own _ nn s xs=>some (.sl nn s xs)
 |.agg ds=>(Dv.flats ds).map .agg
 |_=>none
def Dv.flats:yL Dv->yO (yL Pl)
 |[]=>some []
 |d::r=>match d.flat,Dv.flats r with
  |some x,some xs=>some (x::xs)
  |_,_=>none
end
mutual
def Dv.owns(ids:yL Nat):Dv->Bool
 |.own id _ _ _=>ids.contains id
 |.agg ds=>Dv.ownss ids ds
 |_=>false
def Dv.ownss(ids:yL Nat):yL Dv->Bool
 |[]=>false
 |d::r=>d.owns ids || Dv.ownss ids r
end
def Dv.melt(ds:yL Dv):Dv:=
 match Dv.flats ds with
 |some xs=>.p (.agg xs)
 |none=>.agg ds
def Zf7:yL Dv->yO (yL Pl)
 |[]=>some []
 |d::r=>match d.plain,Zf7 r with
  |some x,some xs=>some (x::xs)
  |_,_=>none
def Zxo(ds:yL Dv):Dv:=
 match Zf7 ds with
 |some xs=>.p (.agg xs)
 |none=>.agg ds
abbrev ZzE:=yO (yL Prop×Dv×yL Hint)
abbrev ZG7:=yO (yL Prop×Dv×yL Ent×yL Hint)
def Zeg(k:IntKind)(x:Int):yL Hint->ZzE
 |.bare::hs=>some ([Qk k x],.p (.int k x),hs)
 |.raw::hs=>some ([],.p (.int k (k.wrap x)),hs)
 |_=>none
def ZqW(op:BinOp)(a b:Nat):yO Nat:=
 match op with
 |.and=>some (a&&&b)
 |.or=>some (a|||b)
 |.xor=>some (a^^^b)
 |_=>none
def XC(op:BinOp)(k:IntKind)(x y:Int)(hs:yL Hint):ZzE:=
 match op with
 |.add=>Zeg k (x+y) hs
 |.sub=>Zeg k (x - y) hs
 |.mul=>Zeg k (x*y) hs
 |.quo=>match hs with
  |.bare::hs'=>some ([0<=x,0 < y,Qk k (x / y)],.p (.int k (x / y)),hs')
  |.raw::hs'=>some ([y≠0],.p (.int k (k.wrap (x.tdiv y))),hs')
  |_=>none
 |.rem=>match hs with
  |.bare::hs'=>some ([0<=x,0 < y],.p (.int k (x % y)),hs')
  |.raw::hs'=>some ([y≠0],.p (.int k (x.tmod y)),hs')
  |_=>none
 |.and|.or|.xor=>match hs with
  |.bare::hs'=>(ZqW op x.toNat y.toNat).map λ(r:Nat)=>([0<=x,Qk k x,0<=y,Qk k y,Qk k (r:Int)],.p (.int k (r:Int)),hs')
  |.raw::hs'=>some ([],.p (.int k (bits op k x y)),hs')
  |_=>none
 |.andNot=>match hs with
  |.raw::hs'=>some ([],.p (.int k (bits op k x y)),hs')
  |_=>none
 |.eql=>some ([],.p (.bool (x==y)),hs)
 |.neq=>some ([],.p (.bool (x !=y)),hs)
 |.lss=>some ([],.p (.bool (decide (x < y))),hs)
 |.leq=>some ([],.p (.bool (decide (x<=y))),hs)
 |.gtr=>some ([],.p (.bool (decide (x > y))),hs)
 |.geq=>some ([],.p (.bool (decide (x >= y))),hs)
 |_=>none
def Vz(op:BinOp)(k:IntKind)(x y:Int)(hs:yL Hint):ZzE:=
 match op,hs with
 |.shl,.bare::hs'=>some ([0<=y,y.toNat < k.bits,Qk k (x*2 ^ y.toNat)],.p (.int k (x*2 ^ y.toNat)),hs')
 |.shl,.raw::hs'=>some ([0<=y],.p (.int k (k.wrap (x*2 ^ (min y.toNat k.bits)))),hs')
 |.shr,.bare::hs'=>some ([0<=y,y.toNat<=k.bits],.p (.int k (x / 2 ^ y.toNat)),hs')
 |.shr,.raw::hs'=>some ([0<=y],.p (.int k (x.fdiv (2 ^ (min y.toNat k.bits)))),hs')
 |_,_=>none
mutual
def Pl.flat:Pl->Bool
 |.int _ _=>true
 |.bool _=>true
 |.agg xs=>Pl.flats xs
 |.arr _ _ xs=>Pl.flats xs
 |_=>false
def Pl.flats:yL Pl->Bool
 |[]=>true
 |x::r=>x.flat&&Pl.flats r
end
def Zir(P:yg)(R:yb->Pl->Prop):yL Field->Nat->yL Pl->Prop
 |[],_,[]=>True
 |f::fs,o,y::ys=>f.name≠ "_" /\f.offset=o/\P.cellsOf f.type=y.size/\(P.info? f.type).isSome=true/\(P.underlying f.type).isSome=true/\WT P f.type=y.isAgg/\y.size≠0/\R f.type y/\Zir P R fs (o+y.size) ys
 |_,_,_=>False
def fitP(P:yg):Nat->yb->Pl->Prop
 |0,_,_=>False
 |n+1,t,x=>match P.underlying t,x with
  |some .bool,.bool _=>True
  |some (.int k),.int k' _=>k'=k
  |some (.array m e),.arr m' s xs=>m'=m/\P.cellsOf e=s/\s≠0/\(P.info? e).isSome=true/\(P.underlying e).isSome=true/\∀y,y∈xs->fitP P n e y/\y.size=s/\WT P e=y.isAgg
  |some (.struct fs),.agg xs=>P.stoodInHeld t=false/\Zir P (fitP P n) fs.toList 0 xs
  |_,_=>False
def Qg:yL (Pl×Pl)->Pl->yO Pl->Prop
 |[],_,r=>r=none
 |q::l,k,r=>(k=q.1/\r=some q.2)\/(k≠q.1/\Qg l k r)
def ZcZ:yL (Pl×Pl)->Pl->Pl->yL (Pl×Pl)->Prop
 |[],k,v,l=>l=[(k,v)]
 |q::r,k,v,l=>(k=q.1/\l=(k,v)::r)\/(k≠q.1/\∃l',l=q::l'/\ZcZ r k v l')
def Zj9(P:yg)(kt:yb)(kvs:yL (Pl×Pl)):Prop:=∀q,q∈kvs->fitP P 20 kt q.1
def hasZero(P:yg)(t:yb):Bool:=match P.info? t with|some i=>i.zero.isSome|none=>false
def keyTy(P:yg)(kt:yb):Bool:=
 match P.underlying kt with
 |some (.int _)=>true
 |some .bool=>true
 |some (.array _ _)=>true
 |some (.struct _)=>true
 |_=>false
def Zka(P:yg)(t:yb)(x y:Dv)(hs:yL Hint):yO (yL Prop×Bool×yL Hint):=
 match P.underlying t,x,y with
 |some .bool,.p (.bool a),.p (.bool b)=>some ([],a==b,hs)
 |some (.pointer _),.ref _ _ _,.p .ptr0=>some ([],false,hs)
 |some (.pointer _),.elem _,.p .ptr0=>some ([],false,hs)
 |some (.pointer _),.rref _ _ _ _,.p .ptr0=>some ([],false,hs)
 |some (.pointer _),.p .ptr0,.p .ptr0=>some ([],true,hs)
 |some (.slice _),.p (.sl (some b) _ _),.p (.sl (some false) _ [])=>some ([], !b,hs)
 |some (.slice _),.own _ (some b) _ _,.p (.sl (some false) _ [])=>some ([], !b,hs)
 |some (.slice _),.view _ _ _ _ _ _,.p (.sl (some false) _ [])=>some ([],false,hs)
 |some (.slice _),.p (.sl none _ xs),.p (.sl (some false) _ [])=>match hs with
  |.bare::hs'=>some ([xs≠[]],false,hs')
  |_=>none
 |some (.slice _),.own _ none _ xs,.p (.sl (some false) _ [])=>match hs with
  |.bare::hs'=>some ([xs≠[]],false,hs')
  |_=>none
 |some (.func _ _ _),.fn _ _,.p .fn0=>some ([],false,hs)
 |some (.func _ _ _),.p .fn0,.p .fn0=>some ([],true,hs)
 |some (.array _ _),.p (.arr n s xs),.p (.arr m r ys)=>match hs with
  |.b β::hs'=>if P.eqGuardType P.depth t=false then some ([fitP P 20 t (.arr n s xs),fitP P 20 t (.arr m r ys),(β=true↔Pl.arr n s xs=Pl.arr m r ys)],β,hs') else none
  |_=>none
 |some (.struct _),.p (.agg xs),.p (.agg ys)=>match hs with
  |.b β::hs'=>if P.eqGuardType P.depth t=false then some ([fitP P 20 t (.agg xs),fitP P 20 t (.agg ys),(β=true↔Pl.agg xs=Pl.agg ys)],β,hs') else none
  |_=>none
 |_,_,_=>none
def ZvE:BinOp->Bool
 |.shl=>true
 |.shr=>true
 |_=>false
def Zfg(P:yg)(op:BinOp)(t:yb)(x y:Dv)(hs:yL Hint):ZzE:=
 match x,y with
 |.p (.int k a),.p (.int k' b)=>if ZvE op then Vz op k a b hs else if k=k' then XC op k a b hs else none
 |.p (.str a),.p (.str b)=>match op with
  |.eql=>some ([],.p (.bool (a.data.toList==b.data.toList)),hs)
  |.neq=>some ([],.p (.bool (!(a.data.toList==b.data.toList))),hs)
  |_=>none
 |x,y=>match op with
  |.eql=>(Zka P t x y hs).map λr=>(r.1,.p (.bool r.2.1),r.2.2)
  |.neq=>(Zka P t x y hs).map λr=>(r.1,.p (.bool (!r.2.1)),r.2.2)
  |_=>none
def Zhn(P:yg)(fs:Array Field)(i:Nat)(before:Nat)(size:Nat)(isAgg:Bool):Bool:=
 match fs[i]? with
 |some f=>f.offset==before&&P.cellsOf f.type==size&&(P.info? f.type).isSome&&WT P f.type==isAgg&&(P.underlying f.type).isSome&&size !=0
 |none=>false
def Zbi(P:yg)(t:yb)(x:Dv)(i:Nat):yO Dv:=
 match P.underlying t,x with
 |some (.struct fs),.p (.agg xs)=>match xs[i]? with
  |some y=>if Zhn P fs i (Pl.sizes (xs.take i)) y.size y.isAgg then some (.p y) else none
  |none=>none
 |some (.struct fs),.agg xs=>match xs[i]? with
  |some y=>if Zhn P fs i (Dv.sizes (xs.take i)) y.size y.isAgg then some y else none
  |none=>none
 |_,_=>none
def Zeh(P:yg)(ts:yL Dv):yO yn->yO (yO Int)
 |none=>some none
 |some x=>match argD P ts 0 x with
  |.p (.int _ i)=>some (some i)
  |_=>none
def Ql{α:Type}(xs:yL α):yO Int->yO Int->yL α
 |none,none=>xs
 |none,some h=>xs.take h.toNat
 |some l,none=>xs.drop l.toNat
 |some l,some h=>(xs.take h.toNat).drop l.toNat
def XF(len:Nat):yO Int->yO Int->yL Prop
 |none,none=>[]
 |none,some h=>[0<=h,h<=(len:Int)]
 |some l,none=>[0<=l,l<=(len:Int)]
 |some l,some h=>[0<=l,l<=h,h<=(len:Int)]
def ZBd(ds:yL Dv)(i:Nat)(d:Dv):yO (yL Dv):=
 match ds[i]? with
 |some old=>if old.size=d.size then some (ds.set i d) else none
 |none=>none
def Ze2:yL Dv->yL (Nat×Dv)->yO (yL Dv)
 |ds,[]=>some ds
 |ds,(i,d)::r=>(ZBd ds i d).bind λds'=>Ze2 ds' r
def Zf8(l:yL (Nat×Dv)):Bool:=l.all λq=>q.2.solid
def Zdz(P:yg)(ts:yL Dv)(f:Nat->yb)(parts:yL (Nat×yn)):yL (Nat×Dv):=
 parts.map λq=>(q.1,argD P ts (f q.1) q.2)
def ZkL(P:yg)(t:yb)(i:Nat):yb:=
 match P.underlying t with
 |some (.struct fs)=>((fs[i]?).map (·.type)).getD 0
 |some (.array _ e)=>e
 |some (.slice e)=>e
 |_=>0
def zeroD(P:yg)(t:yb):Dv:=
 match P.info? t with
 |some i=>match i.zero with
  |some v=>ZoV P t v
  |none=>.junk
 |none=>.junk
def Dv.arg:Dv->Dv
 |.own _ nn s xs=>.p (.sl nn s xs)
 |.agg ds=>Dv.melt ds
 |d=>d
def Dv.argI(ids:yL Nat):Dv->Dv
 |.own id nn s xs=>if ids.contains id then .own id nn s xs else .p (.sl nn s xs)
 |.agg ds=>if Dv.ownss ids ds then .agg ds else Dv.melt ds
 |d=>d
def W7(P:yg)(ids:yL Nat)(ts:yL Dv)(c:Call)(g:yw)(cap:yL Dv):yL Dv:=
 if g < big then((c.args.toList.zip c.argTypes.toList).map λq=>(argD P ts q.2 q.1).argI ids)++cap.map (Dv.argI ids)
 else cap.map (Dv.argI ids)++((c.args.toList.zip c.argTypes.toList).map λq=>(argD P ts q.2 q.1).argI ids)
def srcOf(P:yg)(s:Nat)(t:yb)(d:Dv):yO (yL Pl):=
 match P.underlying t,d with
 |some (.slice e),.p (.sl _ s' xs)=>if s'=s\/xs.isEmpty then some xs else none
 |some (.slice e),.own _ _ s' xs=>if s'=s then some xs else none
 |some .string,.p (.str z)=>if s=1 then some (z.data.toList.map λb=>.int .u8 (b.toNat:Int)) else none
 |_,_=>none
def WL(P:yg)(ts:yL Dv)(e:yb)(s:Nat)(len:Nat)(parts:yL (Nat×yn)):yO (yL Pl):=
 if parts.map (·.1)==yp len then
  match Dv.flats (parts.map λq=>argD P ts e q.2) with
  |some xs=>if xs.all (λx=>x.size==s) then some xs else none
  |none=>none
 else none
def bytesBound:Nat:=140737488355328
def zOk(i:TypeInfo):Bool:=
 match i.zero with
 |some z=>z.cells.size==i.size
 |none=>false
def ZdA(P:yg)(g:yw):Bool:=
 match P.funcs[g]? with
 |some fn=>fn.body.isSome&& !(fn.name== "runtime.NumGoroutine")
 |none=>false
def evN(P:yg)(o:ym)(ts:yL Dv)(hs:yL Hint):ZzE:=
 match o.op with
 |.move x=>match hs with
  |.raw::hs'=>some ([],argD P ts o.type x,hs')
  |_=>none
 |.assign x=>match hs with
  |.raw::hs'=>some ([],argD P ts o.type x,hs')
  |_=>none
 |.pick c a b=>match argD P ts 0 c,hs with
  |.p (.bool t),.b β::hs'=>some ([t=β],if β then argD P ts o.type a else argD P ts o.type b,hs')
  |_,_=>none
 |.nilCheck x=>match argD P ts 0 x with
  |.ref i f p=>some ([],.ref i f p,hs)
  |.rref i v f p=>some ([],.rref i v f p,hs)
  |.elem y=>some ([],.elem y,hs)
  |.fn f c=>some ([],.fn f c,hs)
  |_=>none
 |.binOp op t x y yt=>Zfg P op t (argD P ts t x) (argD P ts yt y) hs
 |.unOp .not _ x=>match argD P ts 0 x with
  |.p (.bool t)=>some ([],.p (.bool (!t)),hs)
  |_=>none
 |.unOp .neg _ x=>match argD P ts 0 x with
  |.p (.int k n)=>Zeg k (0 - n) hs
  |_=>none
 |.unOp .xor _ x=>match argD P ts 0 x with
  |.p (.int k n)=>if k.signed then none else some ([],.p (.int k (bits .xor k k.max n)),hs)
  |_=>none
 |.convert src dst x=>match P.underlying src,P.underlying dst,argD P ts src x with
  |some _,some (.int k),.p (.int _ n)=>Zeg k n hs
  |some (.slice e),some .string,.p (.sl _ s xs)=>match hs,P.underlying e with
   |.el (.str b)::hs',some (.int .u8)=>if s=1 then some ([xs=b.data.toList.map λx=>.int .u8 (x.toNat:Int)],.p (.str b),hs') else none
   |_,_=>none
  |some (.slice e),some .string,.own _ _ s xs=>match hs,P.underlying e with
   |.el (.str b)::hs',some (.int .u8)=>if s=1 then some ([xs=b.data.toList.map λx=>.int .u8 (x.toNat:Int)],.p (.str b),hs') else none
   |_,_=>none
  |some .string,some (.slice e),.p (.str b)=>match P.underlying e with
   |some (.int .u8)=>some ([b.size<=maxLen],.p (.sl (some true) 1 (b.data.toList.map λx=>.int .u8 (x.toNat:Int))),hs)
   |_=>none
  |_,_,_=>none
 |.sliceToArrayPointer t x=>match P.underlying t,argD P ts 0 x with
  |some (.array n e),.p (.sl _ s xs)=>if n !=0 then some ([n<=xs.length],.elem (.arr n s (xs.take n)),hs) else none
  |some (.array n e),.own _ _ s xs=>if n !=0 then some ([n<=xs.length],.elem (.arr n s (xs.take n)),hs) else none
  |_,_=>none
 |.makeFunc (.func f) first captured=>if first.isEmpty&&decide (f < big) then some ([],.fn f (captured.toList.map (argD P ts 0)),hs) else if captured.isEmpty then some ([],.fn (f+big) (first.toList.map (argD P ts 0)),hs) else none
 |.makeInterface t x=>match P.underlying t with
  |some (.interface _)=>none
  |some _=>some ([],.iface t (argD P ts t x),hs)
  |none=>none
 |.field t x i=>(Zbi P t (argD P ts t x) i).map λd=>([],d,hs)
 |.fieldAddr t x i=>match P.underlying t,argD P ts 0 x with
  |some (.struct fs),.ref id off yM=>match fs[i]? with
   |some f=>if P.cellsOf f.type !=0&&(P.info? f.type).isSome then some ([],.ref id (off+f.offset) (yM++[i]),hs) else none
   |none=>none
  |some (.struct fs),.rref id v off yM=>match fs[i]? with
   |some f=>if P.cellsOf f.type !=0&&(P.info? f.type).isSome then some ([],.rref id v (off+f.offset) (yM++[i]),hs) else none
   |none=>none
  |some (.struct _),.elem y=>match Zbi P t (.p y) i with
   |some (.p z)=>some ([],.elem z,hs)
   |_=>none
  |_,_=>none
 |.indexAddr t x ix=>match P.underlying t,argD P ts t x,argD P ts 0 ix with
  |some (.slice e),.p (.sl _ s xs),.p (.int _ i)=>match hs with
   |.el y::hs'=>if P.cellsOf e=s&&(P.info? e).isSome then some ([0<=i,xs[i.toNat]? =some y],.elem y,hs') else none
   |_=>none
  |some (.slice e),.own _ _ s xs,.p (.int _ i)=>match hs with
   |.el y::hs'=>if P.cellsOf e=s&&(P.info? e).isSome then some ([0<=i,xs[i.toNat]? =some y],.elem y,hs') else none
   |_=>none
  |some (.slice e),.view id off yM s lo n,.p (.int _ i)=>
   if P.cellsOf e=s&&(P.info? e).isSome then some ([0<=i,i < (n:Int)],.ref id (off+(lo+i.toNat)*s) (yM++[lo+i.toNat]),hs) else none
  |some (.slice e),.rv id v s lo n,.p (.int _ i)=>
   if P.cellsOf e=s&&(P.info? e).isSome then some ([0<=i,i < (n:Int)],.rref id v ((lo+i.toNat)*s) [lo+i.toNat],hs) else none
  |some (.array n e),.rref id v off yM,.p (.int _ i)=>
   if(P.info? e).isSome then some ([0<=i,i < (n:Int)],.rref id v (off+i.toNat*P.cellsOf e) (yM++[i.toNat]),hs) else none
  |some (.array n e),.ref id off yM,.p (.int _ i)=>
   if(P.info? e).isSome then some ([0<=i,i < (n:Int)],.ref id (off+i.toNat*P.cellsOf e) (yM++[i.toNat]),hs) else none
  |some (.array n e),.elem (.arr n' s xs),.p (.int _ i)=>match hs with
   |.el y::hs'=>if n=n'&&P.cellsOf e=s&&(P.info? e).isSome then some ([0<=i,xs[i.toNat]? =some y],.elem y,hs') else none
   |_=>none
  |_,_,_=>none
 |.index t x ix=>match P.underlying t,argD P ts t x,argD P ts 0 ix with
  |some (.array n e),.p (.arr n' s xs),.p (.int _ i)=>match hs with
   |.el y::hs'=>if n=n'&&P.cellsOf e=s&&WT P e==y.isAgg&&(P.underlying e).isSome&&(P.info? e).isSome&&s !=0 then some ([0<=i,xs[i.toNat]? =some y],.p y,hs') else none
   |_=>none
  |some .string,.p (.str s),.p (.int _ i)=>match hs with
   |.el (.int .u8 b)::hs'=>some ([0<=i,(s.data.toList[i.toNat]?).map (λx:yB=>(x.toNat:Int))=some b],.p (.int .u8 b),hs')
   |_=>none
  |_,_,_=>none
 |.slice t x lo hi none=>match P.underlying t,argD P ts t x,Zeh P ts lo,Zeh P ts hi with
  |some (.slice e),.p (.sl nn s xs),some l,some h=>
   if P.cellsOf e=s&&(P.info? e).isSome then some (XF xs.length l h,.p (.sl nn s (Ql xs l h)),hs) else none
  |some (.slice e),.own _ nn s xs,some l,some h=>
   if P.cellsOf e=s&&(P.info? e).isSome then some (XF xs.length l h,.p (.sl nn s (Ql xs l h)),hs) else none
  |some (.slice e),.view id off yM s lo n,some l,some h=>
   if P.cellsOf e=s&&(P.info? e).isSome then some (XF n l h,.view id off yM s (lo+(l.getD 0).toNat) ((h.getD n).toNat - (l.getD 0).toNat),hs) else none
  |some (.slice e),.rv id v s lo n,some l,some h=>match hs with
   |.bare::hs'=>if P.cellsOf e=s&&(P.info? e).isSome then some (XF n l h,.rv id v s (lo+(l.getD 0).toNat) ((h.getD n).toNat - (l.getD 0).toNat),hs') else none
   |_=>none
  |some (.array n e),.elem (.arr n' s xs),some l,some h=>
   if n=n'&&P.cellsOf e=s&&(P.info? e).isSome&&n<=maxLen then some (XF n l h,.p (.sl (some true) s (Ql xs l h)),hs) else none
  |some (.array n e),.ref id off yM,some l,some h=>match hs with
   |.raw::hs'=>if(P.info? e).isSome&&n<=maxLen then some (XF n l h,.view id off yM (P.cellsOf e) (l.getD 0).toNat ((h.getD n).toNat - (l.getD 0).toNat),hs') else none
   |_=>none
  |_,_,_,_=>none
 |.slice t x lo hi (some mx)=>match P.underlying t,argD P ts t x,Zeh P ts lo,Zeh P ts hi,Zeh P ts (some mx) with
  |some (.slice e),.rv _ _ _ _ n,some (some l),some (some h),some (some m)=>if(P.info? e).isSome then some ([0<=l,l<=h,h<=m,m<=(n:Int)],.junk,hs) else none
  |_,_,_,_,_=>none
 |.extract x i=>match argD P ts 0 x with
  |.tup ds=>(ds[i]?).map λd=>([],d,hs)
  |_=>none
 |.load t a=>match argD P ts 0 a with
  |.elem y=>if P.cellsOf t=y.size&&WT P t==y.isAgg&&(P.underlying t).isSome&&(P.info? t).isSome then some ([],.p y,hs) else none
  |_=>none
 |.build t parts=>match P.underlying t,zeroD P t with
  |some (.struct fs),.p (.agg zs)=>
   if Zf8 (Zdz P ts (ZkL P t) parts.toList)&&fs.size==zs.length&&(yp zs.length).all λi=>Zhn P fs i (Pl.sizes (zs.take i)) ((zs.getD i default).size) ((zs.getD i default).isAgg) then
    (Ze2 (zs.map .p) (Zdz P ts (ZkL P t) parts.toList)).map λds=>([],Zxo ds,hs)
   else none
  |some (.array _ e),.p (.arr n s zs)=>
   if Zf8 (Zdz P ts (ZkL P t) parts.toList)&&P.cellsOf e=s&&(P.info? e).isSome then
    (Ze2 (zs.map .p) (Zdz P ts (ZkL P t) parts.toList)).bind λds=>match Zf7 ds with
      |some xs=>some ([],.p (.arr n s xs),hs)
      |none=>some ([],.arr n s ds,hs)
   else none
  |_,_=>none
 |.call c=>match c.callee with
  |.builtin .len=>match c.args.toList,c.argTypes.toList with
   |[x],[t]=>match P.underlying t,argD P ts t x with
    |some (.slice _),.p (.sl _ _ xs)=>some ([],.p (.int .i64 (xs.length:Int)),hs)
    |some (.slice _),.own _ _ _ xs=>some ([],.p (.int .i64 (xs.length:Int)),hs)
    |some (.slice _),.view _ _ _ _ _ n=>some ([],.p (.int .i64 (n:Int)),hs)
    |some (.slice _),.rv _ _ _ _ n=>some ([],.p (.int .i64 (n:Int)),hs)
    |some (.array n _),_=>some ([],.p (.int .i64 (n:Int)),hs)
    |some .string,.p (.str s)=>some ([],.p (.int .i64 (s.size:Int)),hs)
    |_,_=>none
   |_,_=>none
  |.builtin .append=>match c.args.toList,c.argTypes.toList,hs with
   |[x,y],[t,u],.snap::hs'=>match P.underlying t,argD P ts t x with
    |some (.slice e),.p (.sl (some false) _ [])=>match P.info? e,srcOf P (P.cellsOf e) u (argD P ts u y) with
     |some i,some ys=>if zOk i&&i.size !=0 then some ([ys.length*i.bytes<=bytesBound,ys.length<=maxLen],.p (.sl none (P.cellsOf e) ys),hs') else none
     |_,_=>none
    |_,_=>none
   |_,_,_=>none
  |.value f=>match argD P ts 0 f,hs with
   |.fn g cap,.call r [] []::hs'=>
    if ZdA P (Zjg g)&&c.args.size==c.argTypes.size then match Dv.rns (λ_=>none) (W7 P [] ts c g cap),r.rn (λ_=>none) with
     |some args',some _=>some ([Con P (Zjg g) args' [] r []],r,hs')
     |_,_=>none
    else none
   |_,_=>none
  |_=>none
 |.buildSlice t len parts=>match hs with
  |.snap::hs'=>match P.underlying t with
   |some (.slice e)=>match P.info? e,WL P ts e (P.cellsOf e) len parts.toList with
    |some i,some xs=>if zOk i&&i.size !=0&&len*i.size<=16777216 then some ([],.p (.sl (some true) i.size (xs.map Pl.soft)),hs') else none
    |_,_=>none
   |_=>none
  |.bare::hs'=>match P.underlying t with
   |some (.slice e)=>match P.info? e,WL P ts e (P.cellsOf e) len parts.toList with
    |some i,some xs=>if zOk i&&i.size !=0&&len*i.size<=16777216 then some ([],.p (.sl (some true) i.size xs),hs') else none
    |_,_=>none
   |_=>none
  |_=>none
 |_=>none
def YE:Dv->yL Nat->yL Hint->yO (yL Prop×Nat×Dv×yL Hint)
 |d,[],hs=>some ([],0,d,hs)
 |.p (.agg xs),i::r,hs=>match xs[i]? with
  |some x=>(YE (.p x) r hs).map λq=>(q.1,Pl.sizes (xs.take i)+q.2.1,q.2.2)
  |none=>none
 |.p (.arr _ s xs),i::r,hs=>match hs with
  |.el y::hs'=>(YE (.p y) r hs').map λq=>((xs[i]? =some y)::q.1,i*s+q.2.1,q.2.2)
  |_=>none
 |.agg xs,i::r,hs=>match xs[i]? with
  |some x=>(YE x r hs).map λq=>(q.1,Dv.sizes (xs.take i)+q.2.1,q.2.2)
  |none=>none
 |.arr _ s xs,i::r,hs=>match xs[i]? with
  |some x=>(YE x r hs).map λq=>(q.1,i*s+q.2.1,q.2.2)
  |none=>none
 |_,_,_=>none
def VA(new:Dv):Dv->yL Nat->yL Hint->yO Dv
 |_,[],_=>some new
 |.p (.agg xs),i::r,hs=>match xs[i]? with
  |some x=>match VA new (.p x) r hs with
   |some (.p y)=>some (.p (.agg (xs.set i y)))
   |some y=>some (.agg ((xs.map .p).set i y))
   |none=>none
  |none=>none
 |.p (.arr n s xs),i::r,hs=>match hs with
  |.el y::hs'=>match VA new (.p y) r hs' with
   |some (.p z)=>some (.p (.arr n s (xs.set i z.soft)))
   |some z=>some (.arr n s ((xs.map .p).set i z))
   |none=>none
  |_=>none
 |.agg xs,i::r,hs=>match xs[i]? with
  |some x=>(VA new x r hs).map λy=>.agg (xs.set i y)
  |none=>none
 |.arr n s xs,i::r,hs=>match xs[i]? with
  |some x=>(VA new x r hs).map λy=>.arr n s (xs.set i y)
  |none=>none
 |_,_,_=>none
def okT(P:yg)(t:yb)(d:Dv):Bool:=
 P.cellsOf t==d.size&&WT P t==d.isAgg&&(P.underlying t).isSome&&(P.info? t).isSome
def rdE:yO Ent->yO Ent
 |some (.var d _)=>some (.var d true)
 |some (.row v s _ e d)=>some (.row v s true e d)
 |x=>x
def evR(P:yg)(o:ym)(ts:yL Dv)(H:yL Ent)(hs:yL Hint):ZzE:=
 match o.op with
 |.load t a=>match argD P ts 0 a with
  |.ref id off yM=>match H[id]? with
   |some (.var d _)=>match YE d yM hs with
    |some (C,off',sub,hs')=>if okT P t sub then some (C++[off'=off],sub,hs') else none
    |none=>none
   |_=>none
  |.rref id v off yM=>match H[id]? with
   |some (.row v' _ _ _ d)=>match YE d yM hs with
    |some (C,off',sub,hs')=>if okT P t sub&&v'==v then some (C++[off'=off],sub,hs') else none
    |none=>none
   |_=>none
  |_=>none
 |.slice t x lo hi none=>match P.underlying t,argD P ts t x,Zeh P ts lo,Zeh P ts hi,hs with
  |some (.slice e),.rv id v s lo' n,some l,some (some h),.raw::hs'=>match H[id]? with
   |some (.row v' s' _ _ d)=>match rowN d s' with
    |some N=>if P.cellsOf e=s&&(P.info? e).isSome&&v'==v&&s'==s&&s' !=0 then some ([0<=l.getD 0,l.getD 0<=h,lo'+h.toNat<=N],.rv id v s (lo'+(l.getD 0).toNat) (h.toNat - (l.getD 0).toNat),hs') else none
    |none=>none
   |_=>none
  |some (.array n e),.ref id off yM,some l,some h,.frz::hs'=>match H[id]? with
   |some (.var d false)=>match YE d yM hs' with
    |some (C,off',.p (.arr n' s xs),hs'')=>
     if n=n'&&P.cellsOf e=s&&(P.info? e).isSome&&n<=maxLen then some (C++[off'=off]++XF n l h,.p (.sl (some true) s (Ql xs l h)),hs'') else none
    |_=>none
   |_=>none
  |_,_,_,_,_=>none
 |.lookup t x ix ok=>match P.underlying t,argD P ts t x with
  |some (.map kt et),.mp id=>match argD P ts kt ix,H[id]?,hs with
   |.p k,some (.map _ kvs),.el v::hs'=>if keyTy P kt then some ([fitP P 20 kt k,Zj9 P kt kvs,Qg kvs k (some v)],if ok then .tup [.p v,.p (.bool true)] else .p v,hs') else none
   |.p k,some (.map _ kvs),.raw::hs'=>if keyTy P kt&&hasZero P et then
     some ([fitP P 20 kt k,Zj9 P kt kvs,Qg kvs k none],if ok then .tup [zeroD P et,.p (.bool false)] else zeroD P et,hs') else none
   |_,_,_=>none
  |_,_=>none
 |.call c=>match c.callee with
  |.builtin .len=>match c.args.toList,c.argTypes.toList with
   |[x],[t]=>match P.underlying t,argD P ts t x with
    |some (.map _ _),.mp id=>match H[id]? with
     |some (.map _ kvs)=>some ([],.p (.int .i64 (kvs.length:Int)),hs)
     |_=>none
    |_,_=>none
   |_,_=>none
  |_=>none
 |_=>none
def toIds(ids:yL Nat)(id:Nat):yO Nat:=ids.idxOf? id
def fromIds(ids:yL Nat)(n:Nat)(j:Nat):yO Nat:=if j < ids.length then ids[j]? else some (n+(j - ids.length))
def subEnts(H:yL Ent)(all:yL Nat):yL Nat->yO (yL Ent)
 |[]=>some []
 |id::r=>match (H[id]?).bind (Ent.rn (toIds all)),subEnts H all r with
  |some e,some es=>some (e::es)
  |_,_=>none
def putBack{α:Type}:yL α->yL Nat->yL α->yL α
 |H,[],Hb=>H++Hb
 |H,id::r,e::Hb=>putBack (H.set id e) r Hb
 |H,_::_,[]=>H
def once:yL Nat->Bool
 |[]=>true
 |x::r=> !r.contains x&&once r
def Dv.meltP(d:Dv):Dv:=
 match d.flat with
 |some x=>.p x
 |none=>d
def Ze3(yM:yL Nat)(d:Dv)(new:Dv):yO Dv:=
 match d with
 |.p _=>some new.meltP
 |_=>match yM with
  |[]=>some new.meltP
  |_=>some new
def ZoW(xs ys:yL Pl)(lo:Nat):yL Pl:=xs.take lo++(ys++xs.drop (lo+ys.length))
def ZoX(P:yg)(s:Nat)(t:yb)(H:yL Ent)(hs:yL Hint)(d:Dv):yO (yL Prop×yL Pl×yL Hint):=
 match d with
 |.view id off yM s' lo n=>match P.underlying t,H[id]? with
  |some (.slice _),some (.var dd _)=>match YE dd yM hs with
   |some (C,off',.p (.arr N s'' zs),hs')=>if s'=s&&s''=s then some (C++[off'=off,lo+n<=N],(zs.drop lo).take n,hs') else none
   |_=>none
  |_,_=>none
 |.rv id v s' lo n=>match P.underlying t,H[id]? with
  |some (.slice _),some (.row v' s'' _ _ (.p (.arr N s3 zs)))=>if s'=s&&s''=s&&s3=s&&v'==v then some ([lo+n<=N],(zs.drop lo).take n,hs) else none
  |_,_=>none
 |d=>(srcOf P s t d).map λys=>([],ys,hs)
def Zf9(d:Dv)(H:yL Ent)(hs:yL Hint):ZG7:=
 match d with
 |.view id off yM s lo n=>match H[id]? with
  |some (.var dd _)=>match YE dd yM hs with
   |some (C,off',.p (.arr n' s' xs),hs')=>if s'=s then some (C++[off'=off,lo+n<=n'],.p (.sl (some true) s ((xs.drop lo).take n)),H.set id (.var dd false),hs') else none
   |_=>none
  |_=>none
 |.rv id v s lo n=>match H[id]? with
  |some (.row v' s' _ e (.p (.arr N s'' xs)))=>if s'=s&&s''=s&&v'==v then some ([lo+n<=N],.p (.sl none s ((xs.drop lo).take n)),H.set id (.row v s false e (.p (.arr N s xs))),hs) else none
  |_=>none
 |_=>none
def We:Dv->yL Nat->Nat->Dv->yO Dv
 |.p (.sl (some false) s' []),[],s,new=>if s'=s then some new else none
 |.p (.agg xs),i::r,s,new=>match xs[i]? with
  |some x=>(We (.p x) r s new).map λy=>.agg ((xs.map Dv.p).set i y)
  |none=>none
 |.agg xs,i::r,s,new=>match xs[i]? with
  |some x=>(We x r s new).map λy=>.agg (xs.set i y)
  |none=>none
 |_,_,_,_=>none
def YX(d:Dv)(n:Nat):yL Hint->Dv×yL Ent×yL Hint
 |.ghost yM s e::hs=>match We d yM s (.own n none s []) with
  |some d'=>((YX d' (n+1) hs).1,.log s e []::(YX d' (n+1) hs).2.1,(YX d' (n+1) hs).2.2)
  |none=>(d,[],.ghost yM s e::hs)
 |hs=>(d,[],hs)
def ZzF(d:Dv):Dv:=
 match d.plain with
 |some y=>.p y
 |none=>d
def evE(P:yg)(o:ym)(ts:yL Dv)(H:yL Ent)(hs:yL Hint):ZG7:=
 match o.op with
 |.assign x=>match hs with
  |.fresh t'::hs'=>if o.dst=some t' then match P.underlying o.type,argD P ts o.type x with
    |some (.slice e),.p (.sl (some false) _ [])=>match P.info? e with
     |some i=>if zOk i&&i.size !=0 then some ([],.own H.length none i.size [],H++[.log i.size e []],hs') else none
     |none=>none
    |_,_=>none
   else none
  |.freshR t'::hs'=>if o.dst=some t' then match P.underlying o.type,argD P ts o.type x with
    |some (.slice e),.p (.sl (some false) _ [])=>match P.info? e with
     |some i=>if zOk i&&i.size !=0 then some ([],.rv H.length 0 i.size 0 0,H++[.row 0 i.size true e (.p (.arr 0 i.size []))],hs') else none
     |none=>none
    |_,_=>none
   else none
  |.still t'::hs'=>if o.dst=some t' then Zf9 (argD P ts o.type x) H hs' else none
  |_=>none
 |.move x=>match hs with
  |.still t'::hs'=>if o.dst=some t' then Zf9 (argD P ts o.type x) H hs' else none
  |_=>none
 |.makeSlice t l c=>match P.underlying t,argD P ts 0 l,argD P ts 0 c with
  |some (.slice e),.p (.int .i64 n),.p (.int .i64 n')=>match P.info? e,hs with
   |some i,.own::hs'=>if zOk i&&i.size !=0 then some ([n=0,0<=n',n'.toNat*i.bytes<=bytesBound,n'.toNat<=maxLen],.own H.length (some true) i.size [],H++[.log i.size e []],hs') else none
   |some i,.arr::hs'=>if zOk i&&i.size !=0 then some ([n=0,0<=n',n'.toNat*i.bytes<=bytesBound,n'.toNat<=maxLen],.rv H.length 0 i.size 0 0,H++[.row 0 i.size true e (.p (.arr 0 i.size []))],hs') else none
   |_,_=>none
  |_,_,_=>none
 |.makeMap t none=>some ([],.mp H.length,H++[.map t []],hs)
 |.mapUpdate t m k x=>match P.underlying t,argD P ts t m with
  |some (.map kt et),.mp id=>match argD P ts kt k,(argD P ts et x).flat,H[id]?,hs with
   |.p k,some v,some (.map t' kvs),.kvs l::hs'=>if keyTy P kt then some ([fitP P 20 kt k,Zj9 P kt kvs,ZcZ kvs k v.soft l],.junk,H.set id (.map t' l),hs') else none
   |_,_,_,_=>none
  |_,_=>none
 |.alloc t=>match P.info? t with
  |some i=>match (YX (zeroD P t) (H.length+1) hs).2.2 with
   |.raw::hs'=>if zOk i&&okT P t (zeroD P t)&&(zeroD P t).solid then some ([],.ref H.length 0 [],H++.var (YX (zeroD P t) (H.length+1) hs).1 true::(YX (zeroD P t) (H.length+1) hs).2.1,hs') else none
   |_=>none
  |none=>none
 |.box t x=>
  match (YX (ZzF (argD P ts t x)) (H.length+1) hs).2.2 with
  |.raw::hs'=>if(ZzF (argD P ts t x)).solid then some ([],.ref H.length 0 [],H++.var (YX (ZzF (argD P ts t x)) (H.length+1) hs).1 true::(YX (ZzF (argD P ts t x)) (H.length+1) hs).2.1,hs') else none
  |_=>none
 |.store t a x=>match argD P ts 0 a,argD P ts t x with
  |.ref id off yM,v=>match H[id]? with
   |some (.var d true)=>match YE d yM hs with
    |some (C,off',sub,hs')=>match Ze3 yM d v with
     |some new=>match VA new d yM hs with
      |some d'=>if new.solid&&new.size==sub.size&&P.cellsOf t==new.size&&(P.info? t).isSome&&new.isAgg==sub.isAgg then(match (YX d' H.length hs').2.2 with
       |.raw::hs''=>some (C++[off'=off],.junk,H.set id (.var (YX d' H.length hs').1 true)++(YX d' H.length hs').2.1,hs'')
       |_=>none) else none
      |none=>none
     |none=>none
    |none=>none
   |_=>none
  |.rref id v off yM,w=>match H[id]? with
   |some (.row v' s true e d)=>match YE d yM hs with
    |some (C,off',sub,hs')=>match Ze3 yM d w with
     |some new=>match VA new d yM hs with
      |some d'=>if new.solid&&new.size==sub.size&&P.cellsOf t==new.size&&(P.info? t).isSome&&new.isAgg==sub.isAgg&&v'==v&&rowN d' s==rowN d s then
        some (C++[off'=off],.junk,H.set id (.row v s true e d'),hs') else none
      |none=>none
     |none=>none
    |none=>none
   |_=>none
  |_,_=>none
 |.buildSlice t len parts=>match hs with
  |.fresh id::hs'=>match P.underlying t,H[id]? with
   |some (.slice e),some (.row v s st e' dd)=>match P.info? e,WL P ts e (P.cellsOf e) len parts.toList with
    |some i,some xs=>if zOk i&&i.size !=0&&len*i.size<=16777216&&e'==e&&s==i.size then some ([],.rv id (v+1) i.size 0 len,H.set id (.row (v+1) i.size true e (.p (.arr len i.size (xs.map Pl.soft)))),hs') else none
    |_,_=>none
   |_,_=>none
  |.arr::hs'=>match P.underlying t with
   |some (.slice e)=>match P.info? e,WL P ts e (P.cellsOf e) len parts.toList with
    |some i,some xs=>if zOk i&&i.size !=0&&len*i.size<=16777216 then some ([],.rv H.length 0 i.size 0 len,H++[.row 0 i.size true e (.p (.arr len i.size (xs.map Pl.soft)))],hs') else none
    |_,_=>none
   |_=>none
  |.own::hs'=>match P.underlying t with
   |some (.slice e)=>match P.info? e,WL P ts e (P.cellsOf e) len parts.toList with
    |some i,some xs=>if zOk i&&i.size !=0&&len*i.size<=16777216 then some ([],.own H.length (some true) i.size (xs.map Pl.soft),H++[.log i.size e (xs.map Pl.soft)],hs') else none
    |_,_=>none
   |_=>none
  |_=>none
 |.slice t x lo hi none=>match P.underlying t,argD P ts t x,Zeh P ts lo,Zeh P ts hi with
  |some (.array n e),.ref id off yM,some l,some h=>match hs with
   |.frz::hs'=>match H[id]? with
    |some (.var d _)=>match YE d yM hs' with
     |some (C,off',.p (.arr n' s xs),hs'')=>
      if n=n'&&P.cellsOf e=s&&(P.info? e).isSome&&n<=maxLen then some (C++[off'=off]++XF n l h,.p (.sl (some true) s (Ql xs l h)),H.set id (.var d false),hs'') else none
     |_=>none
    |_=>none
   |_=>none
  |some (.slice e),.rv id v s lo' n,some l,some (some h)=>match hs with
   |.arr::hs'=>match H[id]? with
    |some (.row v' s' true e' (.p (.arr N s2 xs)))=>if P.cellsOf e=s&&(P.info? e).isSome&&v'==v&&s'==s&&s2==s&&s' !=0&&lo'==0&&l.getD 0==0 then
      some ([0<=h,h.toNat<=N],.rv id v s 0 h.toNat,H.set id (.row v s true e' (.p (.arr h.toNat s (xs.take h.toNat)))),hs') else none
    |_=>none
   |_=>none
  |_,_,_,_=>none
 |.call c=>match c.callee with
  |.builtin .append=>match c.args.toList,c.argTypes.toList with
   |[x,y],[t,u]=>match P.underlying t,argD P ts t x with
    |some (.slice e),.own id nn s xs=>match P.info? e,ZoX P s u H hs (argD P ts u y),H[id]? with
     |some i,some (C,ys,hs'),some (.log s' e' zs)=>if zOk i&&i.size=s&&s'=s&&e'=e&&s !=0 then
       some (C++[zs=xs,(xs.length+ys.length)*i.bytes<=bytesBound,xs.length+ys.length<=maxLen],.own id none s (xs++ys),H.set id (.log s e (xs++ys)),hs') else none
     |_,_,_=>none
    |some (.slice e),.p (.sl (some false) _ [])=>match hs,P.info? e,srcOf P (P.cellsOf e) u (argD P ts u y) with
     |.own::hs',some i,some ys=>if zOk i&&i.size !=0 then
       some ([ys.length*i.bytes<=bytesBound,ys.length<=maxLen],.own H.length none i.size ys,H++[.log i.size e ys],hs') else none
     |.arr::hs',some i,some ys=>if zOk i&&i.size !=0 then
       some ([ys.length*i.bytes<=bytesBound,ys.length<=maxLen],.rv H.length 0 i.size 0 ys.length,H++[.row 0 i.size true e (.p (.arr ys.length i.size ys))],hs') else none
     |_,_,_=>none
    |some (.slice e),.rv id v s lo n=>match hs with
     |.bare::hs0=>match P.info? e,ZoX P (P.cellsOf e) u H hs0 (argD P ts u y) with
      |some i,some (C,ys,hs')=>if zOk i then some (C++[ys=[]],.rv id v s lo n,H,hs') else none
      |_,_=>none
     |.raw::hs0=>match P.info? e,ZoX P s u H hs0 (argD P ts u y),H[id]? with
      |some i,some (C,ys,hs'),some (.row v' s' st e' (.p (.arr N s'' xs)))=>if zOk i&&i.size=s&&s'=s&&s''=s&&e'=e&&s !=0&&v'==v&&lo=0 then
        some (C++[n<=N,(n+ys.length)*i.bytes<=bytesBound,n+ys.length<=maxLen,st=true\/n=N],.rv id (v+1) s 0 (n+ys.length),H.set id (.row (v+1) s st e (.p (.arr (n+ys.length) s (xs.take n++ys)))),hs') else none
      |_,_,_=>none
     |.snap::hs0=>match P.info? e,ZoX P s u H hs0 (argD P ts u y),H[id]? with
      |some i,some (C,ys,hs'),some (.row v' s' true e' (.p (.arr N s'' xs)))=>if zOk i&&i.size=s&&s'=s&&s''=s&&e'=e&&s !=0&&v'==v&&lo=0 then
        some (C++[0 < N,n+ys.length<=N],.rv id v s 0 (n+ys.length),H.set id (.row v s true e (.p (.arr N s (xs.take n++(ys++xs.drop (n+ys.length)))))),hs') else none
      |_,_,_=>none
     |_=>none
    |_,_=>none
   |_,_=>none
  |.builtin .clear=>match c.args.toList,c.argTypes.toList with
   |[x],[t]=>match P.underlying t,argD P ts t x with
    |some (.slice e),.rv id v s lo n=>match P.info? e,zeroD P e,H[id]? with
     |some i,.p z,some (.row v' s' true e' (.p (.arr N s'' xs)))=>if zOk i&&i.size=s&&s'=s&&s''=s&&v'==v&&s !=0&&z.size==s then
       some ([n=1,lo+1<=N],.tup [],H.set id (.row v s true e' (.p (.arr N s (xs.set lo z.soft)))),hs) else none
     |_,_,_=>none
    |_,_=>none
   |_,_=>none
  |.builtin .copy=>match c.args.toList,c.argTypes.toList with
   |[x,y],[t,u]=>match P.underlying t,argD P ts t x with
    |some (.slice e),.view id off yM s lo n=>match srcOf P s u (argD P ts u y),H[id]? with
     |some ys,some (.var dd true)=>match YE dd yM hs with
      |some (C,off',.p (.arr N s' xs),hs')=>match VA (.p (.arr N s' (ZoW xs ys lo))) dd yM hs with
       |some dd'=>if s'=s&&P.cellsOf e=s&&(P.info? e).isSome then some (C++[off'=off,ys.length<=n,lo+n<=N],.p (.int .i64 (ys.length:Int)),H.set id (.var dd' true),hs') else none
       |none=>none
      |_=>none
     |_,_=>none
    |_,_=>none
   |_,_=>none
  |.value f=>match argD P ts 0 f,hs with
   |.fn g cap,.call r H' ids::hs'=>
    if ZdA P (Zjg g)&&c.args.size==c.argTypes.size&&once ids&&ids.length<=H'.length then
     match Dv.rns (toIds ids) (W7 P ids ts c g cap),subEnts H ids ids,r.rn (fromIds ids H.length),Ent.rns (fromIds ids H.length) H' with
     |some args',some Hin,some r',some Hb=>some ([Con P (Zjg g) args' Hin r H'],r',putBack H ids Hb,hs')
     |_,_,_,_=>none
    else none
   |_,_=>none
  |.invoke recv name=>match argD P ts 0 recv,hs with
   |.iface t x,.meth g::.call r H' ids::hs'=>
    if ZdA P g&&c.args.size==c.argTypes.size&&once ids&&ids.length<=H'.length then
     match Dv.rns (toIds ids) (x.argI ids::W7 P ids ts c 0 []),subEnts H ids ids,r.rn (fromIds ids H.length),Ent.rns (fromIds ids H.length) H' with
     |some args',some Hin,some r',some Hb=>some ([ZnC P t name g,Con P g args' Hin r H'],r',putBack H ids Hb,hs')
     |_,_,_,_=>none
    else none
   |_,_=>none
  |_=>none
 |_=>none
def Zga(P:yg)(o:ym)(ts:yL Dv)(H:yL Ent)(hs:yL Hint):ZG7:=
 match evN P o ts hs with
 |some (C,d,hs')=>some (C,d,H,hs')
 |none=>match evR P o ts H hs with
  |some (C,d,hs')=>some (C,d,H,hs')
  |none=>evE P o ts H hs
def Zkp(ts:yL Dv)(dst:yO Tmp)(d:Dv):yL Dv:=
 match dst with
 |some i=>ts.set i d
 |none=>ts
def ZqG(dst:yO Tmp)(d:Dv)(hs:yL Hint):yL Prop×Dv×yL Hint:=([],d,hs)
def evG(P:yg)(ops:Array ym)(o:ym)(ts:yL Dv)(H:yL Ent)(hs:yL Hint):ZG7:=
 match o.guard with
 |none=>(Zga P o ts H hs).map λ(C,d,H',hs')=>(C++(ZqG o.dst d hs').1,(ZqG o.dst d hs').2.1,H',(ZqG o.dst d hs').2.2)
 |some (j,want)=>match ((ops[j]?).bind (·.dst)).map λt=>ts.getD t .junk,hs with
  |some (.p (.bool t)),.b β::hs'=>
   if β=want then(Zga P o ts H hs').map λ(C,d,H',hs'')=>((t=β)::C++(ZqG o.dst d hs'').1,(ZqG o.dst d hs'').2.1,H',(ZqG o.dst d hs'').2.2)
   else some ([t=β],.tup [],H,hs')
  |some (.tup []),.raw::hs'=>some ([],.tup [],H,hs')
  |_,_=>none
def evOps(P:yg)(ops:Array ym):yL ym->yL Dv->yL Ent->yL Hint->yO (yL Prop×yL Dv×yL Ent×yL Hint)
 |[],ts,H,hs=>some ([],ts,H,hs)
 |o::yJ,ts,H,hs=>match evG P ops o ts H hs with
  |some (C,d,H',hs')=>match evOps P ops yJ (Zkp ts o.dst d) H' hs' with
   |some (C',ts',H'',hs'')=>some (C++C',ts',H'',hs'')
   |none=>none
  |none=>none
def looks(ops:Array ym)(o:ym):yL Nat:=
 (o.op.operands.toList.filterMap λx=>match x with|.tmp t=>some t|_=>none)++
 (match o.guard with|some (g,_)=>((ops[g]?).bind (·.dst)).toList|none=>[])
def maskFrom(keep:yL Nat):Nat->yL Dv->yL Dv
 |_,[]=>[]
 |i,d::r=>(if keep.contains i then d else .junk)::maskFrom keep (i+1) r
def clsOf(P:yg)(o:ym)(ts:yL Dv)(H:yL Ent)(hs:yL Hint):Nat:=
 match o.guard,hs with
 |some (_,want),.b β::hs'=>if β=want then(if(evN P o ts hs').isSome then 0 else if(evR P o ts H hs').isSome then 1 else 2) else 0
 |some _,.raw::_=>0
 |_,hs=>if(evN P o ts hs).isSome then 0 else if(evR P o ts H hs).isSome then 1 else 2
def ZoY(P:yg)(o:ym)(ts:yL Dv):yO Nat:=
 match o.op with
 |.load t a=>match argD P ts 0 a with
  |.ref id _ _=>some id
  |.rref id _ _ _=>some id
  |_=>none
 |.slice t x _ _ none=>match argD P ts t x with
  |.ref id _ _=>some id
  |_=>none
 |.lookup t x _ _=>match argD P ts t x with
  |.mp id=>some id
  |_=>none
 |_=>none
def ZdY(P:yg)(o:ym)(ts:yL Dv)(hs:yL Hint):yO (yL Nat):=
 match o.op with
 |.assign _=>some []
 |.move _=>some []
 |.makeSlice _ _ _=>some []
 |.makeMap _ none=>some []
 |.alloc _=>some []
 |.box _ _=>some []
 |.buildSlice _ _ _=>match hs with
  |.fresh id::_=>some [id]
  |_::_=>some []
  |[]=>none
 |.slice t x _ _ none=>match argD P ts t x with
  |.rv id _ _ _ _=>some [id]
  |_=>some []
 |.store t x y=>match argD P ts 0 x with
  |.ref id _ _=>some [id]
  |.rref id _ _ _=>some [id]
  |_=>none
 |.call c=>match c.callee with
  |.builtin .append=>match c.args.toList,c.argTypes.toList with
   |[x,y],[t,u]=>match argD P ts t x with
    |.own id _ _ _=>some [id]
    |.rv id _ _ _ _=>some [id]
    |.p _=>some []
    |_=>none
   |_,_=>none
  |.value _=>match hs with
   |.call _ _ ids::_=>some ids
   |_=>none
  |.invoke _ _=>match hs with
   |.meth _::.call _ _ ids::_=>some ids
   |_=>none
  |_=>none
 |_=>none
structure Rec where
 hs:List Hint
 C:List Prop
 d:Dv
 H:List Ent
 H':List Ent
 hs':List Hint
 cls:Nat
 rd:Option Nat
 tc:Option (List Nat)
 push:Bool
 loc:Bool
 ex:Bool
def exO(o:ym):Bool:=match o.op with
 |.slice _ _ _ _ _=>true
 |_=>false
def ZzG(r:Dv)(Hn:yL Ent)(ids:yL Nat):Bool:=Hn.length==ids.length&&(r.rn (λj=>ids[j]?)).isSome&&(Ent.rns (λj=>ids[j]?) Hn).isSome
def ZnD(o:ym)(hs:yL Hint):Bool:=o.guard.isNone&&match o.op with
 |.call c=>match c.callee with
  |.value _=>match hs with
   |.call r Hn ids::_=>ZzG r Hn ids
   |_=>false
  |.invoke _ _=>match hs with
   |.meth _::.call r Hn ids::_=>ZzG r Hn ids
   |_=>false
  |_=>false
 |_=>false
def Ze4(o:ym)(hs:yL Hint)(n:Nat):Bool:=o.guard.isNone&&match o.op with
 |.alloc _=>true
 |.call c=>match c.callee with
  |.value _=>match hs with
   |.call r Hn ids::_=>ids.isEmpty&&ZzG r Hn [n]
   |_=>false
  |_=>false
 |_=>false
def ZEh(P:yg)(o:ym)(ts:yL Dv):yO Nat:=ZoY P o ts
def ZvF(P:yg)(o:ym)(ts:yL Dv)(hs:yL Hint):yO (yL Nat):=if o.guard.isNone then ZdY P o ts hs else none
def evD(P:yg)(ops:Array ym):yL ym->yL Dv->yL Ent->yL Hint->yO (yL Prop×yL Rec×yL Dv×yL Ent×yL Hint)
 |[],ts,H,hs=>some ([],[],ts,H,hs)
 |o::yJ,ts,H,hs=>match evG P ops o (maskFrom (looks ops o) 0 ts) H hs with
  |some (C,d,H',hs')=>match evD P ops yJ (Zkp ts o.dst d) H' hs' with
   |some (C',rs,ts',H'',hs'')=>some (C++C',⟨hs,C,d,H,H',hs',clsOf P o (maskFrom (looks ops o) 0 ts) H hs,ZEh P o (maskFrom (looks ops o) 0 ts),ZvF P o (maskFrom (looks ops o) 0 ts) hs,Ze4 o hs H.length,ZnD o hs,exO o⟩::rs,ts',H'',hs'')
   |none=>none
  |none=>none
def Zjh(A:yL Nat)(i:Nat)(o:ym):Nat:=
 o.after.toList.foldl (λm e=>if Region.binds .any e&&decide (e.on < i) then m|||(1 <<< e.on)|||A.getD e.on 0 else m) 0
def ZIz:yL ym->Nat->yL Nat->yL Nat
 |[],_,A=>A
 |o::r,i,A=>ZIz r (i+1) (A++[Zjh A i o])
def ZEi(ops:yL ym):yL Nat:=ZIz ops 0 []
def Zis(l:yL ym):Nat->Bool
 |i=>match l with
  |[]=>true
  |o::r=>(o.after.toList.all λe=> !Region.binds .any e || decide (e.on < i))&&Zis r (i+1)
def Zkb(l:yL ym)(i:Nat):yO Tmp:=(l[i]?).bind (·.dst)
noncomputable def ZIR(id:Nat)(q:Rec):Bool:=@decide (rdE (q.H'[id]?)=rdE (q.H[id]?)) (Classical.propDecidable _)
noncomputable def ZkM(rs:yL Rec)(i j:Nat):Bool:=
 match rs[i]?,rs[j]? with
 |some r,some q=>(match r.rd with
  |some id=>decide (id < q.H.length)&&decide (id < r.H.length)&&(if r.ex=true then q.push else((match q.tc with|some l=> !l.contains id|none=>false) || ZIR id q))
  |none=>false)
 |_,_=>false
def cOk(rs:yL Rec)(c:Nat)(r:Rec):Bool:=r.loc || (r.push&&r.H'.length==r.H.length+1&&(rs.take c).all λq=>decide (q.H.length<=r.H.length))
def ZhW(rs:yL Rec)(c i j:Nat):Bool:=((rs[c]?).map (cOk rs c)).getD false&&((i==c&&decide (c < j)&&((rs[j]?).map (·.push)).getD false) || (j==c&&decide (c < i)&&((rs[i]?).map (·.push)).getD false))
noncomputable def ZvG(ops:Array ym)(rs:yL Rec):Bool:=
 let cls:=rs.map (·.cls);let l:=ops.toList;let A:=ZEi l;let n:=l.length
 (cls.length==n)&&Zis l 0&&
 ((yp n).all λi=>match l[i]? with|some o=>A.getD i 0==Zjh A i o|none=>true)&&
 ((yp n).all λi=>(yp n).all λj=>i==j || Zkb l i==none || !(Zkb l i==Zkb l j))&&
 ((yp n).all λi=>match l[i]? with
   |some o=>let k:=looks ops o
    (yp n).all λj=>match Zkb l j with
      |some t=>i==j || !(k.contains t) || (if j < i then(A.getD i 0).testBit j else(A.getD j 0).testBit i)
      |none=>true
   |none=>true)&&
 ((yp (n+1)).any λc=>(yp n).all λi=>cls.getD i 0==0 || (yp n).all λj=>i==j || !(cls.getD j 0==2) || (if j < i then(A.getD i 0).testBit j else(A.getD j 0).testBit i) || (cls.getD i 0==1&&ZkM rs i j) || ZhW rs c i j)
noncomputable def ZvH(P:yg)(ops:Array ym)(ts:yL Dv)(H:yL Ent)(hs:yL Hint):yO (yL Prop×yL Dv×yL Ent×yL Hint):=
 if P.follows .mixedOrders then
  match evD P ops ops.toList ts H hs with
  |some (C,rs,ts',H',hs')=>if ZvG ops rs then some (C,ts',H',hs') else none
  |none=>none
 else none
def ZnE(ts:yL Dv):yL Nat->yL Dv
 |[]=>ts
 |i::r=>ZnE (ts.set i .junk) r
abbrev ZLy:=yO (yL Prop×Ex×yL Dv×yL Ent×yL Hint)
noncomputable def ev(P:yg):Code->yL Dv->yL Ent->yL Hint->ZLy
 |.skip,ts,H,hs=>some ([],.normal,ts,H,hs)
 |.label _,ts,H,hs=>some ([],.normal,ts,H,hs)
 |.region _ ops draw,ts,H,hs=>if draw then(ZvH P ops ts H hs).map λ(C,ts',H',hs')=>(C,.normal,ts',H',hs') else(evOps P ops ops.toList ts H hs).map λ(C,ts',H',hs')=>(C,.normal,ts',H',hs')
 |.seq x y,ts,H,hs=>match ev P x ts H hs with
  |some (C,.normal,ts',H',hs')=>match ev P y ts' H' hs' with
   |some (C',ex,ts'',H'',hs'')=>some (C++C',ex,ts'',H'',hs'')
   |none=>none
  |r=>r
 |.cond c x y,ts,H,hs=>match argD P ts 0 c,hs with
  |.p (.bool t),.b true::hs'=>(ev P x ts H hs').map λ(C,r)=>((t=true)::C,r)
  |.p (.bool t),.b false::hs'=>(ev P y ts H hs').map λ(C,r)=>((t=false)::C,r)
  |_,_=>none
 |.block id body,ts,H,hs=>match ev P body ts H hs with
  |some (C,.exit id',ts',H',hs')=>some (C,if id'=id then .normal else .exit id',ts',H',hs')
  |r=>r
 |.loop body,ts,H,hs=>match hs with
  |.loop mask ex ts' H'::hs'=>if ex=.normal then none else some ([Wt P (.loop body) (ZnE ts mask) H ex ts' H'],ex,ts',H',hs')
  |_=>none
 |.scope body,ts,H,hs=>ev P body ts H hs
 |.exit id,ts,H,hs=>some ([],.exit id,ts,H,hs)
 |.ret,ts,H,hs=>some ([],.ret,ts,H,hs)
 |_,_,_,_=>none
def Ztz(P:yg)(ts:yL Dv)(H:yL Ent):yL ResultVar->yL Hint->yO (yL Prop×yL Dv)
 |[],_=>some ([],[])
 |.tmp t::r,hs=>(Ztz P ts H r hs).map λq=>(q.1,ts.getD t .junk::q.2)
 |.cell a ty::r,hs=>match ts.getD a .junk with
  |.ref id off yM=>match H[id]? with
   |some (.var d _)=>match YE d yM hs with
    |some (C,off',sub,hs')=>if okT P ty sub then(Ztz P ts H r hs').map λq=>(C++[off'=off]++q.1,sub::q.2) else none
    |none=>none
   |_=>none
  |_=>none
def Zrh:yL Dv->Dv
 |[d]=>d
 |ds=>.tup ds
def fin(P:yg)(fn:Func)(ts:yL Dv)(H:yL Ent)(k:Nat)(keep:yL Nat)(hs:yL Hint):yO (yL Prop×Dv×yL Ent):=
 match Ztz P ts H fn.results.toList hs with
 |some (C,ds)=>
  let L:=yp k++keep
  match once L,(Zrh (ds.map Dv.arg)).rn (toIds L),(Zrh ds).rn (toIds L),subEnts H L L with
  |true,_,some r,some H'=>some (C,r,H')
  |true,some r,none,some H'=>some (C,r,H')
  |_,_,_,_=>none
 |none=>none
def AllP:yL Prop->Prop
 |[]=>True
 |p::r=>p/\AllP r
end Go.Ev
end
section
namespace Go.Ev
section
variable{σ:Sg}{v:yh}
theorem Yd{k:IntKind}{n:Int}(h:yH σ (.p (.int k n)) v):v=.int k n:=by simpa[yH,Dv.isAgg,Pl.isAgg,yG,repC] using h
theorem YP{b:Bool}(h:yH σ (.p (.bool b)) v):v=.bool b:=by simpa[yH,Dv.isAgg,Pl.isAgg,yG,repC] using h
theorem Zf2{b:ByteArray}(h:yH σ (.p (.str b)) v):v=.string b:=by simpa[yH,Dv.isAgg,Pl.isAgg,yG,repC] using h
theorem Zgb(h:yH σ (.p .ptr0) v):v=.pointer none:=by simpa[yH,Dv.isAgg,Pl.isAgg,yG,repC] using h
theorem ZoZ(h:yH σ (.p .fn0) v):v=.nilFunc:=by simpa[yH,Dv.isAgg,Pl.isAgg,yG,repC] using h
theorem ZG(k:IntKind)(n:Int):yH σ (.p (.int k n)) (.int k n):=by simp[yH,Dv.isAgg,Pl.isAgg,yG,repC]
theorem YH(b:Bool):yH σ (.p (.bool b)) (.bool b):=by simp[yH,Dv.isAgg,Pl.isAgg,yG,repC]
theorem XU:yH σ .junk v:=by simp[yH,Dv.isAgg,yG]
theorem Yq{d:Dv}(ha:d.isAgg=true):yH σ d v↔∃cs:Array yh,v=.agg cs/\yG σ d cs.toList:=by
 simp[yH,ha]
theorem Zi{d:Dv}(ha:d.isAgg=false):yH σ d v↔yG σ d [v]:=by
 simp[yH,ha]
theorem W8{nn:yO Bool}{s:Nat}{xs:yL Pl}(h:yH σ (.p (.sl nn s xs)) v):
 allSz s xs/\∃A c,v=.slice A xs.length c/\xs.length<=c/\c<=maxLen/\ZqF nn A/\(A=none->c=0)/\
  (xs≠[]->∃b o us,A=some ⟨b,o,none⟩/\repCs σ.w σ.stab xs us/\Vt σ.w σ.stab b o us):=by
 rw[Zi (by rfl)] at h;simpa[yG,repC] using h
theorem YM{nn:yO Bool}{s:Nat}{xs:yL Pl}{A:yO Addr}{c:Nat}(h1:allSz s xs)(h2:xs.length<=c)(h3:c<=maxLen)(h4:ZqF nn A)(h5:A=none->c=0)
 (h6:xs≠[]->∃b o us,A=some ⟨b,o,none⟩/\repCs σ.w σ.stab xs us/\Vt σ.w σ.stab b o us):yH σ (.p (.sl nn s xs)) (.slice A xs.length c):=by
 rw[Zi (by rfl)];simp only[yG,repC];exact⟨h1,A,c,rfl,h2,h3,h4,h5,h6⟩
theorem ZbF{id s:Nat}{nn:yO Bool}{xs:yL Pl}(h:yH σ (.own id nn s xs) v):
 allSz s xs/\∃A c,v=.slice A xs.length c/\xs.length<=c/\c<=maxLen/\ZqF nn A/\(A=none->c=0)/\
  (xs≠[]->∃b o us,A=some ⟨b,o,none⟩/\repCs σ.w σ.stab xs us/\Vt σ.w σ.stab b o us)/\ownFront σ id s xs.length A c:=by
 rw[Zi (by rfl)] at h;simpa[yG] using h
theorem ZaQ{id s:Nat}{nn:yO Bool}{xs:yL Pl}(h:yH σ (.own id nn s xs) v):yH σ (.p (.sl nn s xs)) v:=by
 obtain⟨h1,A,c,rfl,h2,h3,h4,h5,h6,_⟩:=ZbF h;exact YM h1 h2 h3 h4 h5 h6
end
mutual
theorem W5{w:yz}{S:Nat->Nat->Prop}:∀(x:Pl)(vs:yL yh),repC w S x vs->vs.length=x.size
 |.int _ _,_,h=>by simp only[repC] at h;subst h;rfl
 |.bool _,_,h=>by simp only[repC] at h;subst h;rfl
 |.str _,_,h=>by simp only[repC] at h;subst h;rfl
 |.ptr0,_,h=>by simp only[repC] at h;subst h;rfl
 |.fn0,_,h=>by simp only[repC] at h;subst h;rfl
 |.if0,_,h=>by simp only[repC] at h;subst h;rfl
 |.map0,_,h=>by simp only[repC] at h;subst h;rfl
 |.fnv _,_,h=>by simp only[repC] at h;subst h;rfl
 |.agg xs,vs,h=>by
  simp only[repC] at h
  simpa[Pl.size] using repCs_size xs vs h
 |.arr n s xs,vs,h=>by
  simp only[repC] at h;obtain⟨h1,h2,h3⟩:=h;have:=repCs_size xs vs h3;rw[this,Pl.size, <-h1]
  exact sizes_all h2
 |.sl _ _ _,_,h=>by
  simp only[repC] at h;obtain⟨_,A,c,h,_⟩:=h
  subst h;rfl
 |.iface _ _,_,h=>by
  simp only[repC] at h;obtain⟨v,h,_⟩:=h;subst h;rfl
theorem repCs_size{w:yz}{S:Nat->Nat->Prop}:∀(xs:yL Pl)(vs:yL yh),repCs w S xs vs->vs.length=Pl.sizes xs
 |[],_,h=>by simp only[repCs] at h;subst h;rfl
 |x::xs,vs,h=>by
  simp only[repCs] at h;obtain⟨us,us',rfl,h1,h2⟩:=h;rw[yj,W5 x us h1,repCs_size xs us' h2,Pl.sizes]
theorem sizes_all{s:Nat}:∀{xs:yL Pl},allSz s xs->Pl.sizes xs=xs.length*s
 |[],_=>by simp[Pl.sizes]
 |x::xs,h=>by
  rw[Pl.sizes,h x (ybd ..),sizes_all (λy hy=>h y (ybh _ hy)),yao,yaz];omega
end
theorem Yt{w:yz}{S:Nat->Nat->Prop}{xs ys:yL Pl}{us vs:yL yh}(h:repCs w S xs us)(k:repCs w S ys vs):repCs w S (xs++ys) (us++vs):=by
 induction xs generalizing us with
 |nil=>simp only[repCs] at h;subst h;simpa using k
 |cons x xs ih=>
  simp only[repCs] at h;obtain⟨a,b,rfl,h1,h2⟩:=h;simp only[yae,repCs,yx];exact⟨a,b++vs,rfl,h1,ih h2⟩
theorem YN{w:yz}{S:Nat->Nat->Prop}{xs ys:yL Pl}{us:yL yh}(h:repCs w S (xs++ys) us):∃a b,us=a++b/\repCs w S xs a/\repCs w S ys b:=by
 induction xs generalizing us with
 |nil=>exact⟨[],us,rfl,by simp[repCs],h⟩
 |cons x xs ih=>
  simp only[yae,repCs] at h;obtain⟨a,b,rfl,h1,h2⟩:=h;obtain⟨c,d,rfl,h3,h4⟩:=ih h2;exact⟨a++c,d,by simp,by simp only[repCs];exact⟨a,c,rfl,h1,h3⟩,h4⟩
theorem WU{s:Nat}{xs ys:yL Pl}(h:allSz s xs)(k:allSz s ys):allSz s (xs++ys):=by
 intro x hx;rcases ycp.1 hx with h1|h1
 ·exact h x h1
 ·exact k x h1
theorem Qm{s:Nat}{xs:yL Pl}(h:allSz s xs)(n:Nat):allSz s (xs.take n):=λx hx=>h x (ycg hx)
theorem Zji{s:Nat}{xs:yL Pl}(h:allSz s xs)(n:Nat):allSz s (xs.drop n):=λx hx=>h x (List.mem_of_mem_drop hx)
theorem Vt.append{w:yz}{S:Nat->Nat->Prop}{b o:Nat}{us vs:yL yh}(h:Vt w S b o (us++vs)):Vt w S b o us/\Vt w S b (o+us.length) vs:=by
 constructor
 ·intro j u hu;exact h j u (by rw[yba (yo.1 hu).1];exact hu)
 ·intro j u hu;have:=h (us.length+j) u (by rw[yat (by omega)];simpa using hu)
  rwa [<-ych] at this
theorem Zri{P:yg}{t:yb}{v:yh}{x:Pl}(h:ZvD P t v=some x)(w:yz)(S:Nat->Nat->Prop):repC w S x [v]/\x.isAgg=false:=by
 unfold ZvD at h
 split at h <;> first
  |(cases h;done)
  |(simp only[yq] at h;subst h;refine⟨?_,rfl⟩;simp only[repC];done)
  |(simp only[yq] at h;subst h;exact⟨by simp only[repC];exact⟨λ_ hx=>(by cases hx),none,0,rfl,yl _,Nat.zero_le _,Zrg rfl,λ_=>rfl,λhn=>absurd rfl hn⟩,rfl⟩)
mutual
theorem Zrj{P:yg}:∀(yD:Nat)(t:yb)(vs:yL yh)(x:Pl)(r:yL yh),ZCL P yD t vs=some (x,r)->∀w S,∃us,vs=us++r/\repC w S x us
 |0,_,_,_,_,h,_,_=>by simp[ZCL] at h
 |yD+1,t,vs,x,r,h,w,S=>by
  simp only[ZCL] at h;split at h
  ·rename_i fs _;simp only[yu,yab] at h;obtain⟨⟨xs,r'⟩,h1,rfl,rfl⟩:=h;obtain⟨us,e,hr⟩:=plFields_rep yD _ _ _ _ h1 w S;exact⟨us,e,by simpa[repC] using hr⟩
  ·rename_i n e _;simp only[yu,yab] at h;obtain⟨⟨xs,r'⟩,h1,rfl,rfl⟩:=h;obtain⟨us,e',hl,ha,hr⟩:=plArr_rep yD _ _ _ _ _ h1 w S;exact⟨us,e',by simp only[repC];exact⟨hl,ha,hr⟩⟩
  ·split at h
   ·rename_i v r';simp only[yu,yab] at h;obtain⟨x',h1,rfl,rfl⟩:=h;exact⟨[v],rfl,(Zri h1 w S).1⟩
   ·cases h
  ·cases h
theorem plFields_rep{P:yg}:∀(yD:Nat)(ts:yL yb)(vs:yL yh)(xs:yL Pl)(r:yL yh),plFields P yD ts vs=some (xs,r)->∀w S,∃us,vs=us++r/\repCs w S xs us
 |0,_,_,_,_,h,_,_=>by simp[plFields] at h
 |yD+1,[],vs,xs,r,h,w,S=>by
  simp only[plFields,yq,yab] at h;obtain⟨rfl,rfl⟩:=h
  exact⟨[],rfl,by simp[repCs]⟩
 |yD+1,t::ts,vs,xs,r,h,w,S=>by
  simp only[plFields] at h;split at h
  ·rename_i x r' h1;simp only[yu,yab] at h;obtain⟨⟨xs',r''⟩,h2,rfl,rfl⟩:=h;obtain⟨us,e1,k1⟩:=Zrj yD _ _ _ _ h1 w S;obtain⟨us',e2,k2⟩:=plFields_rep yD _ _ _ _ h2 w S;subst e2;exact⟨us++us',by rw[e1,yx],by simp only[repCs];exact⟨us,us',rfl,k1,k2⟩⟩
  ·cases h
theorem plArr_rep{P:yg}:∀(yD:Nat)(e:yb)(n:Nat)(vs:yL yh)(xs:yL Pl)(r:yL yh),plArr P yD e n vs=some (xs,r)->
 ∀w S,∃us,vs=us++r/\xs.length=n/\allSz (P.cellsOf e) xs/\repCs w S xs us
 |0,_,_,_,_,_,h,_,_=>by simp[plArr] at h
 |yD+1,e,0,vs,xs,r,h,w,S=>by
  simp only[plArr,yq,yab] at h;obtain⟨rfl,rfl⟩:=h
  exact⟨[],rfl,rfl,(λ_ hx=>(by cases hx)),by simp[repCs]⟩
 |yD+1,e,n+1,vs,xs,r,h,w,S=>by
  simp only[plArr] at h;split at h
  ·rename_i x r' h1;split at h
   ·rename_i hs;simp only[yu,yab] at h;obtain⟨⟨xs',r''⟩,h2,rfl,rfl⟩:=h;obtain⟨us,e1,k1⟩:=Zrj yD _ _ _ _ h1 w S;obtain⟨us',e2,hl,ha,k2⟩:=plArr_rep yD _ _ _ _ _ h2 w S;subst e2;refine⟨us++us',by rw[e1,yx],by simp[hl], ?_,by simp only[repCs];exact⟨us,us',rfl,k1,k2⟩⟩;intro y hy
    cases hy with
    |head=>exact hs
    |tail _ hy=>exact ha y hy
   ·cases h
  ·cases h
end
theorem ZpO{σ:Sg}{f:yw}(hf:f < big):yH σ (.fn f []) (.func (.func f) #[] #[]):=by
 have e:Zjg f=f:=by
  unfold Zjg;rw[yW hf]
 rw[Zi rfl];simp only[yG];exact⟨#[], #[],by rw[e],yW hf,by simp[repVs]⟩
theorem Zaa{P:yg}{t:yb}{v:yh}{σ:Sg}:yH σ (ZoV P t v) v:=by
 unfold ZoV;split
 ·rename_i cs;split
  ·rename_i x h;split
   ·rename_i ha;obtain⟨us,e,hr⟩:=Zrj _ _ _ _ _ h σ.w σ.stab;rw[Yq (by simpa[Dv.isAgg] using ha)];exact⟨cs,rfl,by simp only[yG];rw[e];simpa using hr⟩
   ·exact XU
  ·exact XU
 ·rename_i f fst cap;split
  ·rename_i hh;have h1:fst= #[]:=by simpa using hh.1
   have h2:cap= #[]:=by simpa using hh.2.1
   subst h1;subst h2;exact ZpO hh.2.2
  ·exact XU
 ·split
  ·rename_i x h;have:=Zri h σ.w σ.stab;rw[Zi (by simpa[Dv.isAgg] using this.2)];simpa[yG] using this.1
  ·exact XU
theorem Zq{P:yg}{σ:Sg}{ts:yL Dv}{a:Act}(h:RepT σ ts a)(t:yb)(x:yn):yH σ (argD P ts t x) (a.eval x):=by
 cases x with
 |tmp i=>
  simp only[argD,Act.eval]
  cases hi:ts[i]? with
  |none=>simp only[List.getD,hi,Option.getD_none];exact XU
  |some d=>simp only[List.getD,hi,Option.getD_some];exact h.at_ i d hi
 |const v=>exact Zaa
 |global g=>exact XU
 |func f=>
  simp only[argD,Act.eval];split
  ·rename_i hf;exact ZpO hf
  ·exact XU
theorem ZCM{σ:Sg}{d:Dv}{x:Pl}{v:yh}(h:d.plain=some x)(hr:yH σ d v):yH σ (.p x) v:=by
 unfold Dv.plain at h;split at h
 ·cases h;exact hr
 ·cases h;exact ZaQ hr
 ·cases h
mutual
theorem ZlV{σ:Sg}:∀(d:Dv)(x:Pl)(us:yL yh),d.flat=some x->yG σ d us->repC σ.w σ.stab x us
 |.p y,x,us,h,hr=>by rw[Dv.flat] at h;cases h;simpa[yG] using hr
 |.own id nn s xs,x,us,h,hr=>by
  rw[Dv.flat] at h;cases h;simp only[yG] at hr;obtain⟨k1,A,c,k2,k3,k4,k5,k6,k7,_⟩:=hr;simp only[repC]
  exact⟨k1,A,c,k2,k3,k4,k5,k6,k7⟩
 |.agg ds,x,us,h,hr=>by
  rw[Dv.flat] at h
  cases h2:Dv.flats ds with
  |none=>rw[h2] at h;cases h
  |some xs=>
   rw[h2] at h;cases h;simp only[yG] at hr;simp only[repC]
   exact flats_repD ds xs us h2 hr
 |.elem _,x,us,h,hr=>by rw[Dv.flat] at h <;> simp_all
 |.ref _ _ _,x,us,h,hr=>by rw[Dv.flat] at h <;> simp_all
 |.view _ _ _ _ _ _,x,us,h,hr=>by rw[Dv.flat] at h <;> simp_all
 |.arr _ _ _,x,us,h,hr=>by rw[Dv.flat] at h <;> simp_all
 |.fn _ _,x,us,h,hr=>by rw[Dv.flat] at h <;> simp_all
 |.iface _ _,x,us,h,hr=>by rw[Dv.flat] at h <;> simp_all
 |.tup _,x,us,h,hr=>by rw[Dv.flat] at h <;> simp_all
 |.mp _,x,us,h,hr=>by rw[Dv.flat] at h <;> simp_all
 |.rv _ _ _ _ _,x,us,h,hr=>by rw[Dv.flat] at h <;> simp_all
 |.rref _ _ _ _,x,us,h,hr=>by rw[Dv.flat] at h <;> simp_all
 |.junk,x,us,h,hr=>by rw[Dv.flat] at h <;> simp_all
theorem flats_repD{σ:Sg}:∀(ds:yL Dv)(xs:yL Pl)(us:yL yh),Dv.flats ds=some xs->repDs σ ds us->repCs σ.w σ.stab xs us
 |[],xs,us,h,hr=>by rw[Dv.flats] at h;cases h;simpa[repDs,repCs] using hr
 |d::ds,xs,us,h,hr=>by
  rw[Dv.flats] at h;split at h
  ·rename_i x ys h1 h2;cases h;simp only[repDs] at hr;obtain⟨a,b,rfl,h3,h4⟩:=hr;simp only[repCs];exact⟨a,b,rfl,ZlV d x a h1 h3,flats_repD ds ys b h2 h4⟩
  ·cases h
end
theorem Zxp{d:Dv}{x:Pl}(h:d.flat=some x):x.isAgg=d.isAgg:=by
 cases d <;> first
  |(rw[Dv.flat] at h;cases h;rfl)
  |(rename_i ds;rw[Dv.flat] at h;cases h2:Dv.flats ds with
     |none=>rw[h2] at h;cases h
     |some xs=>rw[h2] at h;cases h;rfl)
  |(simp[Dv.flat] at h)
theorem Zrk{σ:Sg}{d:Dv}{x:Pl}{v:yh}(h:d.flat=some x)(hr:yH σ d v):yH σ (.p x) v:=by
 have ha:=Zxp h
 cases hd:d.isAgg with
 |true=>
  rw[Yq hd] at hr;rw[Yq (by show x.isAgg=_;rw[ha,hd])];obtain⟨cs,rfl,h2⟩:=hr
  exact⟨cs,rfl,by simp only[yG];exact ZlV d x _ h h2⟩
 |false=>
  rw[Zi hd] at hr;rw[Zi (by show x.isAgg=_;rw[ha,hd])];simp only[yG];exact ZlV d x _ h hr
theorem Zxq{σ:Sg}{ds:yL Dv}{v:yh}(hr:yH σ (.agg ds) v):yH σ (Dv.melt ds) v:=by
 unfold Dv.melt
 cases h:Dv.flats ds with
 |none=>exact hr
 |some xs=>exact Zrk (d:=.agg ds) (by rw[Dv.flat,h];rfl) hr
theorem Zrl{σ:Sg}{d:Dv}{v:yh}(ids:yL Nat)(hr:yH σ d v):yH σ (d.argI ids) v:=by
 unfold Dv.argI;split
 ·split
  ·exact hr
  ·exact ZaQ hr
 ·split
  ·exact hr
  ·exact Zxq hr
 ·exact hr
theorem ZG8{σ:Sg}{d:Dv}{v:yh}(hr:yH σ d v):yH σ d.arg v:=by
 unfold Dv.arg;split
 ·exact ZaQ hr
 ·exact Zxq hr
 ·exact hr
end Go.Ev
end
section
namespace Go.Ev
theorem Zbo{k:IntKind}{x:Int}(h:Qk k x):k.wrap x=x:=by
 obtain⟨h1,h2⟩:=h;cases k <;> simp only[IntKind.min,IntKind.max,IntKind.wrap,IntKind.signed,IntKind.bits] at* <;> simp at* <;> (try split) <;> omega
theorem Zk{A B:yL Prop}:AllP (A++B)↔AllP A/\AllP B:=by
 induction A with
 |nil=>simp[AllP]
 |cons p A ih=>simp[AllP,ih,and_assoc]
theorem Zei{k:IntKind}{x:Int}{hs hs':yL Hint}{C:yL Prop}{d:Dv}(h:Zeg k x hs=some (C,d,hs'))(hc:AllP C)(σ:Sg):yH σ d (.int k (k.wrap x)):=by
 unfold Zeg at h;split at h
 ·cases h;rw[Zbo hc.1];exact ZG _ _
 ·cases h;exact ZG _ _
 ·cases h
theorem Zf3(n a:Nat)(h:a < 2 ^ n):(BitVec.ofInt n (a:Int)).toNat=a:=by
 rw[BitVec.ofInt_natCast,BitVec.toNat_ofNat];exact Nat.mod_eq_of_lt h
theorem Zue{k:IntKind}{x:Int}(h:Qk k x)(h0:0<=x):x.toNat < 2 ^ k.bits:=by
 obtain⟨h1,h2⟩:=h;cases k <;> simp only[IntKind.min,IntKind.max,IntKind.signed,IntKind.bits] at* <;> simp at* <;> omega
theorem Zrm{op:BinOp}{k:IntKind}{x y:Int}{r:Nat}(hr:ZqW op x.toNat y.toNat=some r)(hx:0<=x)(kx:Qk k x)(hy:0<=y)(ky:Qk k y)(kr:Qk k (r:Int)):
 bits op k x y=(r:Int):=by
 obtain⟨a,rfl⟩:=Int.eq_ofNat_of_zero_le hx;obtain⟨b,rfl⟩:=Int.eq_ofNat_of_zero_le hy;have ha:=Zue kx hx;have hb:=Zue ky hy;simp only[Int.toNat_natCast] at ha hb hr;unfold ZqW at hr;split at hr
 ·cases hr;have e:bits .and k (a:Int) (b:Int)=k.wrap ((BitVec.ofInt k.bits (a:Int)&&&BitVec.ofInt k.bits (b:Int)).toNat:Int):=rfl;rw[e,BitVec.toNat_and,Zf3 _ _ ha,Zf3 _ _ hb];exact Zbo kr
 ·cases hr;have e:bits .or k (a:Int) (b:Int)=k.wrap ((BitVec.ofInt k.bits (a:Int)|||BitVec.ofInt k.bits (b:Int)).toNat:Int):=rfl;rw[e,BitVec.toNat_or,Zf3 _ _ ha,Zf3 _ _ hb];exact Zbo kr
 ·cases hr;have e:bits .xor k (a:Int) (b:Int)=k.wrap ((BitVec.ofInt k.bits (a:Int)^^^BitVec.ofInt k.bits (b:Int)).toNat:Int):=rfl;rw[e,BitVec.toNat_xor,Zf3 _ _ ha,Zf3 _ _ hb];exact Zbo kr
 ·cases hr
theorem Zxr{P:yg}{op:BinOp}{k:IntKind}{x y:Int}{hs hs':yL Hint}{C:yL Prop}{d:Dv}(h:XC op k x y hs=some (C,d,hs'))(hc:AllP C)(σ:Sg)(t:yb):
 ∃v,(binOp op t (.int k x) (.int k y)).run P σ.w=.ok v σ.w/\yH σ d v:=by
 unfold XC at h;split at h
 ·exact⟨_,by rw[binOp_add];rfl,Zei h hc σ⟩
 ·exact⟨_,by rw[binOp_sub];rfl,Zei h hc σ⟩
 ·exact⟨_,by rw[binOp_mul];rfl,Zei h hc σ⟩
 ·split at h
  ·cases h;obtain⟨h1,h2,h3,_⟩:=hc;have hy:y≠0:=by omega
   refine⟨_, ?_,ZG k (x / y)⟩;rw[binOp_quo];simp only[Op.intDiv,hy,if_false];rw[Int.tdiv_eq_ediv_of_nonneg h1,Zbo h3];rfl
  ·cases h;have hy:y≠0:=hc.1;refine⟨_, ?_,ZG k _⟩;rw[binOp_quo];simp only[Op.intDiv,hy,if_false];rfl
  ·cases h
 ·split at h
  ·cases h;obtain⟨h1,h2,_⟩:=hc;have hy:y≠0:=by omega
   refine⟨_, ?_,ZG k (x % y)⟩;rw[binOp_rem];simp only[Op.intDiv,hy,if_false];rw[Int.tmod_eq_emod_of_nonneg h1];rfl
  ·cases h;have hy:y≠0:=hc.1;refine⟨_, ?_,ZG k _⟩;rw[binOp_rem];simp only[Op.intDiv,hy,if_false];rfl
  ·cases h
 ·split at h
  ·simp only[yu,yab] at h;obtain⟨r,hr,rfl,rfl,rfl⟩:=h;obtain⟨h1,h2,h3,h4,h5,_⟩:=hc;refine⟨_, ?_,ZG k _⟩;rw[binOp_and,intBits_and,Zrm hr h1 h2 h3 h4 h5];rfl
  ·cases h;exact⟨_,by rw[binOp_and,intBits_and];rfl,ZG k _⟩
  ·cases h
 ·split at h
  ·simp only[yu,yab] at h;obtain⟨r,hr,rfl,rfl,rfl⟩:=h;obtain⟨h1,h2,h3,h4,h5,_⟩:=hc;refine⟨_, ?_,ZG k _⟩;rw[binOp_or,intBits_or,Zrm hr h1 h2 h3 h4 h5];rfl
  ·cases h;exact⟨_,by rw[binOp_or,intBits_or];rfl,ZG k _⟩
  ·cases h
 ·split at h
  ·simp only[yu,yab] at h;obtain⟨r,hr,rfl,rfl,rfl⟩:=h;obtain⟨h1,h2,h3,h4,h5,_⟩:=hc;refine⟨_, ?_,ZG k _⟩;rw[binOp_xor,intBits_xor,Zrm hr h1 h2 h3 h4 h5];rfl
  ·cases h;exact⟨_,by rw[binOp_xor,intBits_xor];rfl,ZG k _⟩
  ·cases h
 ·split at h
  ·cases h;exact⟨_,by rw[binOp_andNot,intBits_andNot];rfl,ZG k _⟩
  ·cases h
 all_goals first
  |(cases h;done)
  |(cases h
    first
     |exact⟨_,by rw[binOp_eql];rfl,YH _⟩
     |exact⟨_,by rw[binOp_neq];rfl,YH _⟩
     |exact⟨_,by rw[binOp_lss];rfl,YH _⟩
     |exact⟨_,by rw[binOp_leq];rfl,YH _⟩
     |exact⟨_,by rw[binOp_gtr];rfl,YH _⟩
     |exact⟨_,by rw[binOp_geq];rfl,YH _⟩)
theorem ZtA{P:yg}{op:BinOp}{k yk:IntKind}{x y:Int}{hs hs':yL Hint}{C:yL Prop}{d:Dv}(h:Vz op k x y hs=some (C,d,hs'))(hc:AllP C)(σ:Sg):
 ∃v,(Op.shift op k x yk y).run P σ.w=.ok v σ.w/\yH σ d v:=by
 unfold Vz at h;split at h
 ·cases h;obtain⟨h1,h2,h3,_⟩:=hc;refine⟨_, ?_,ZG k _⟩;have hn:¬y < 0:=by omega
  simp only[Op.shift,hn,if_false];rw[ybg (Nat.le_of_lt h2),Zbo h3];rfl
 ·cases h;refine⟨_, ?_,ZG k _⟩;have hn:¬y < 0:=by have:0<=y:=hc.1;omega
  simp only[Op.shift,hn,if_false];rfl
 ·cases h;obtain⟨h1,h2,_⟩:=hc;refine⟨_, ?_,ZG k _⟩;have hn:¬y < 0:=by omega
  simp only[Op.shift,hn,if_false];rw[ybg h2,Int.fdiv_eq_ediv_of_nonneg _ (by exact Int.le_of_lt (Int.pow_pos (by decide)))];rfl
 ·cases h;refine⟨_, ?_,ZG k _⟩;have hn:¬y < 0:=by have:0<=y:=hc.1;omega
  simp only[Op.shift,hn,if_false];rfl
 ·cases h
mutual
theorem Zrn{w:yz}{S:Nat->Nat->Prop}:∀(x:Pl)(vs:yL yh),repC w S x vs->∀u,u∈vs->u.oneCell'=true
 |.int _ _,_,h,u,hu=>by simp only[repC] at h;subst h;cases ybc.1 hu;rfl
 |.bool _,_,h,u,hu=>by simp only[repC] at h;subst h;cases ybc.1 hu;rfl
 |.str _,_,h,u,hu=>by simp only[repC] at h;subst h;cases ybc.1 hu;rfl
 |.ptr0,_,h,u,hu=>by simp only[repC] at h;subst h;cases ybc.1 hu;rfl
 |.fn0,_,h,u,hu=>by simp only[repC] at h;subst h;cases ybc.1 hu;rfl
 |.if0,_,h,u,hu=>by simp only[repC] at h;subst h;cases ybc.1 hu;rfl
 |.map0,_,h,u,hu=>by simp only[repC] at h;subst h;cases ybc.1 hu;rfl
 |.fnv _,_,h,u,hu=>by simp only[repC] at h;subst h;cases ybc.1 hu;rfl
 |.agg xs,vs,h,u,hu=>by
  simp only[repC] at h
  exact repCs_one xs vs h u hu
 |.arr n s xs,vs,h,u,hu=>by
  simp only[repC] at h
  exact repCs_one xs vs h.2.2 u hu
 |.sl _ _ _,_,h,u,hu=>by
  simp only[repC] at h;obtain⟨_,A,c,h,_⟩:=h
  subst h;cases ybc.1 hu;rfl
 |.iface _ _,_,h,u,hu=>by
  simp only[repC] at h;obtain⟨v,h,_⟩:=h;subst h;cases ybc.1 hu;rfl
theorem repCs_one{w:yz}{S:Nat->Nat->Prop}:∀(xs:yL Pl)(vs:yL yh),repCs w S xs vs->∀u,u∈vs->u.oneCell'=true
 |[],_,h,u,hu=>by simp only[repCs] at h;subst h;cases hu
 |x::xs,vs,h,u,hu=>by
  simp only[repCs] at h;obtain⟨us,us',rfl,h1,h2⟩:=h;rcases ycp.1 hu with h3|h3
  ·exact Zrn x us h1 u h3
  ·exact repCs_one xs us' h2 u h3
end
mutual
theorem W6{σ:Sg}:∀(d:Dv)(vs:yL yh),yG σ d vs->vs.length=d.size
 |.p x,vs,h=>by simp only[yG] at h;exact W5 x vs h
 |.elem _,_,h=>by simp only[yG] at h;obtain⟨b,o,us,rfl,_⟩:=h;rfl
 |.ref _ _ _,_,h=>by simp only[yG] at h;obtain⟨b,_,_,rfl⟩:=h;rfl
 |.own _ _ _ _,_,h=>by simp only[yG] at h;obtain⟨_,A,c,rfl,_⟩:=h;rfl
 |.view _ _ _ _ _ _,_,h=>by simp only[yG] at h;obtain⟨b,c,a,_,_,rfl,_⟩:=h;rfl
 |.agg xs,vs,h=>by simp only[yG] at h;simpa[Dv.size] using repDs_size xs vs h
 |.arr n s xs,vs,h=>by
  simp only[yG] at h;obtain⟨h1,h2,h3⟩:=h;rw[repDs_size xs vs h3,Dv.size, <-h1]
  exact dsizes_all h2
 |.fn _ _,_,h=>by simp only[yG] at h;obtain⟨fs,cs,rfl,_⟩:=h;rfl
 |.iface _ _,_,h=>by simp only[yG] at h;obtain⟨cs,rfl,_⟩:=h;rfl
 |.tup _,_,h=>by simp only[yG] at h;obtain⟨cs,rfl,_⟩:=h;rfl
 |.mp _,_,h=>by simp only[yG] at h;obtain⟨b,_,_,rfl⟩:=h;rfl
 |.rv _ _ _ _ _,_,h=>by simp only[yG] at h;obtain⟨A,c,rfl,_⟩:=h;rfl
 |.rref _ _ _ _,_,h=>by simp only[yG] at h;obtain⟨b,o,rfl,_⟩:=h;rfl
 |.junk,_,h=>by simpa[yG,Dv.size] using h
theorem repDs_size{σ:Sg}:∀(ds:yL Dv)(vs:yL yh),repDs σ ds vs->vs.length=Dv.sizes ds
 |[],_,h=>by simp only[repDs] at h;subst h;rfl
 |x::xs,vs,h=>by
  simp only[repDs] at h;obtain⟨us,us',rfl,h1,h2⟩:=h;rw[yj,W6 x us h1,repDs_size xs us' h2,Dv.sizes]
theorem dsizes_all{s:Nat}:∀{xs:yL Dv},(∀x,x∈xs->x.size=s)->Dv.sizes xs=xs.length*s
 |[],_=>by simp[Dv.sizes]
 |x::xs,h=>by
  rw[Dv.sizes,h x (ybd ..),dsizes_all (λy hy=>h y (ybh _ hy)),yao,yaz];omega
end
theorem Zb4{w:yz}{S:Nat->Nat->Prop}{xs:yL Pl}{us:yL yh}{i:Nat}{y:Pl}(h:repCs w S xs us)(hy:xs[i]? =some y):
 ∃a b c,us=a++(b++c)/\a.length=Pl.sizes (xs.take i)/\repC w S y b/\b.length=y.size/\repCs w S (xs.take i) a/\repCs w S (xs.drop (i+1)) c:=by
 have hi:i < xs.length:=(yo.1 hy).1
 have hx:xs=xs.take i++(y::xs.drop (i+1)):=by
  rw[<-(yo.1 hy).2,List.getElem_cons_drop,ybl]
 rw[hx] at h;obtain⟨a,r,rfl,h1,h2⟩:=YN h;simp only[repCs] at h2;obtain⟨b,c,rfl,h3,h4⟩:=h2;exact⟨a,b,c,rfl,repCs_size _ _ h1,h3,W5 _ _ h3,h1,h4⟩
theorem Zb5{σ:Sg}{xs ys:yL Dv}{us vs:yL yh}(h:repDs σ xs us)(k:repDs σ ys vs):repDs σ (xs++ys) (us++vs):=by
 induction xs generalizing us with
 |nil=>simp only[repDs] at h;subst h;simpa using k
 |cons x xs ih=>
  simp only[repDs] at h;obtain⟨a,b,rfl,h1,h2⟩:=h;simp only[yae,repDs,yx];exact⟨a,b++vs,rfl,h1,ih h2⟩
theorem Zxs{σ:Sg}{xs ys:yL Dv}{us:yL yh}(h:repDs σ (xs++ys) us):∃a b,us=a++b/\repDs σ xs a/\repDs σ ys b:=by
 induction xs generalizing us with
 |nil=>exact⟨[],us,rfl,by simp[repDs],h⟩
 |cons x xs ih=>
  simp only[yae,repDs] at h;obtain⟨a,b,rfl,h1,h2⟩:=h;obtain⟨c,d,rfl,h3,h4⟩:=ih h2;exact⟨a++c,d,by simp,by simp only[repDs];exact⟨a,c,rfl,h1,h3⟩,h4⟩
theorem Zgc{σ:Sg}{xs:yL Dv}{us:yL yh}{i:Nat}{y:Dv}(h:repDs σ xs us)(hy:xs[i]? =some y):
 ∃a b c,us=a++(b++c)/\a.length=Dv.sizes (xs.take i)/\yG σ y b/\b.length=y.size/\repDs σ (xs.take i) a/\repDs σ (xs.drop (i+1)) c:=by
 have hx:xs=xs.take i++(y::xs.drop (i+1)):=by
  rw[<-(yo.1 hy).2,List.getElem_cons_drop,ybl]
 rw[hx] at h;obtain⟨a,r,rfl,h1,h2⟩:=Zxs h;simp only[repDs] at h2;obtain⟨b,c,rfl,h3,h4⟩:=h2;exact⟨a,b,c,rfl,repDs_size _ _ h1,h3,W6 _ _ h3,h1,h4⟩
theorem Zho{σ:Sg}:∀{xs:yL Pl}{us:yL yh},repDs σ (xs.map .p) us↔repCs σ.w σ.stab xs us
 |[],us=>by simp[repDs,repCs]
 |x::xs,us=>by
  simp only[yah,repDs,repCs,yG];constructor
  ·rintro⟨a,b,rfl,h1,h2⟩;exact⟨a,b,rfl,h1,Zho.1 h2⟩
  ·rintro⟨a,b,rfl,h1,h2⟩;exact⟨a,b,rfl,h1,Zho.2 h2⟩
theorem Zro{P:yg}{t:yb}(h:(P.underlying t).isSome=true)(w:yz):(isAgg t).run P w=.ok (WT P t) w:=by
 cases hu:P.underlying t with
 |none=>simp[hu] at h
 |some d=>
  unfold isAgg WT;rw[Sem.run_bind,run_underlying hu w];cases d <;> simp[hu]
theorem Yg{P:yg}{t:yb}(h:(P.info? t).isSome=true)(w:yz):(sizeOf t).run P w=.ok (P.cellsOf t) w:=by
 cases hi:P.info? t with
 |none=>simp[hi] at h
 |some i=>simp[sizeOf,typeInfo,hi,Program.cellsOf]
theorem Zb6{P:yg}{σ:Sg}{t:yb}{d:Dv}{cs:Array yh}{a b c:yL yh}(hcs:cs.toList=a++(b++c))(hr:yG σ d b)(hs:P.cellsOf t=d.size)(hi:(P.info? t).isSome=true)
 (hu:(P.underlying t).isSome=true) (ha:WT P t=d.isAgg) (hn:d.size≠0):∃v,(part t cs a.length).run P σ.w=.ok v σ.w/\yH σ d v:=by
 have hb:b.length=d.size:=W6 _ _ hr;unfold part;simp only[Sem.run_bind,Zro hu,Result.andThen_ok]
 cases hagg:d.isAgg with
 |true=>
  rw[ha,hagg];simp only[if_true,Sem.run_bind,Yg hi,Result.andThen_ok,Sem.run_pure];refine⟨_,rfl, ?_⟩;rw[Yq hagg];refine⟨_,rfl, ?_⟩
  have:(cs.extract a.length (a.length+P.cellsOf t)).toList=b:=by
   rw[Array.toList_extract,hcs,hs, <-hb,List.extract_eq_take_drop];simp
  rw[this]
  exact hr
 |false=>
  rw[ha,hagg];simp only[Bool.false_eq_true,if_false]
  have h1:d.size=1:=by
   cases d with
   |p x=>cases x <;> first|rfl|(simp[Dv.isAgg,Pl.isAgg] at hagg)
   |agg _=>simp[Dv.isAgg] at hagg
   |arr _ _ _=>simp[Dv.isAgg] at hagg
   |_=>rfl
  rw[h1] at hb
  obtain⟨v,rfl⟩:∃v,b=[v]:=by
   match b,hb with
   |[v],_=>exact⟨v,rfl⟩
  have hv:cs[a.length]? =some v:=by
   rw[<-ycd,hcs];simp
  rw[hv];exact⟨v,rfl,(Zi hagg).2 hr⟩
theorem ZtB{P:yg}{σ:Sg}{t:yb}{x d:Dv}{i:Nat}{v:yh}(h:Zbi P t x i=some d)(hr:yH σ x v):
 ∃u,(Instr.field t v i).run P σ.w=.ok u σ.w/\yH σ d u:=by
 unfold Zbi at h;split at h
 ·rename_i fs xs hu;split at h
  ·rename_i y hy;split at h
   ·rename_i hok;cases h;unfold Zhn at hok;split at hok
    ·rename_i f hf;simp only[yi,yT,yE] at hok;obtain⟨⟨⟨⟨⟨h1,h2⟩,h3⟩,h4⟩,h5⟩,h6⟩:=hok;rw[Yq rfl] at hr;obtain⟨cs,rfl,hr⟩:=hr;simp only[yG,repC] at hr;obtain⟨a,b,c,e,ha,hb,_⟩:=Zb4 hr hy;obtain⟨u,hu1,hu2⟩:=Zb6 (P:=P) (σ:=σ) (t:=f.type) (d:=.p y) e (by simpa[yG] using hb) h2 h3 h5 h4 h6;refine⟨u, ?_,hu2⟩;rw[ha, <-h1] at hu1;simp[Instr.field,run_underlying hu,hf,asAgg,hu1]
    ·cases hok
   ·cases h
  ·cases h
 ·rename_i fs xs hu;split at h
  ·rename_i y hy;split at h
   ·rename_i hok;cases h;unfold Zhn at hok;split at hok
    ·rename_i f hf;simp only[yi,yT,yE] at hok;obtain⟨⟨⟨⟨⟨h1,h2⟩,h3⟩,h4⟩,h5⟩,h6⟩:=hok;rw[Yq rfl] at hr;obtain⟨cs,rfl,hr⟩:=hr;simp only[yG] at hr;obtain⟨a,b,c,e,ha,hb,_⟩:=Zgc hr hy;obtain⟨u,hu1,hu2⟩:=Zb6 (P:=P) (σ:=σ) (t:=f.type) (d:=d) e hb h2 h3 h5 h4 h6;refine⟨u, ?_,hu2⟩;rw[ha, <-h1] at hu1;simp[Instr.field,run_underlying hu,hf,asAgg,hu1]
    ·cases hok
   ·cases h
  ·cases h
 ·cases h
theorem Addr.add_mk(b o n:Nat):(⟨b,o,none⟩:Addr).add n=⟨b,o+n,none⟩:=Addr.add_lit b o n
theorem Zrp{w:yz}{S:Nat->Nat->Prop}{s:Nat}{xs:yL Pl}{us:yL yh}{b o i:Nat}{y:Pl}(hs:allSz s xs)(hr:repCs w S xs us)(hc:Vt w S b o us)(hy:xs[i]? =some y):
 ∃uy,repC w S y uy/\Vt w S b (o+i*s) uy:=by
 obtain⟨a,uy,c,rfl,ha,hb,_⟩:=Zb4 hr hy;have hi:i < xs.length:=(yo.1 hy).1
 have hl:a.length=i*s:=by
  rw[ha,sizes_all (Qm hs i),yv,ybg (Nat.le_of_lt hi)]
 refine⟨uy,hb, ?_⟩;have h2:=(Vt.append (Vt.append hc).2).1
 rwa [hl] at h2
theorem Zhp{P:yg}{σ:Sg}{t:yb}{d:Dv}{b o:Nat}{us:yL yh}(hr:yG σ d us)(hc:∀(j:Nat)(u:yh),us[j]? =some u->σ.w.cell? ⟨b,o+j,none⟩=some u)(hs:P.cellsOf t=d.size)
 (hi:(P.info? t).isSome=true) (hu:(P.underlying t).isSome=true) (ha:WT P t=d.isAgg):∃v,(loadVar t ⟨b,o,none⟩).run P σ.w=.ok v σ.w/\yH σ d v:=by
 have hb:us.length=d.size:=W6 _ _ hr;unfold loadVar;simp only[Sem.run_bind,Zro hu,Result.andThen_ok]
 cases hagg:d.isAgg with
 |true=>
  rw[ha,hagg];have hl:=run_loadCells_list (P:=P) σ.w ⟨b,o,none⟩ us (λj u hu=>by rw[Addr.add_mk];exact hc j u hu);rw[hb, <-hs] at hl;simp only[if_true,Sem.run_bind,Yg hi,Result.andThen_ok,hl,Sem.run_pure]
  exact⟨_,rfl,(Yq hagg).2 ⟨_,rfl,by simpa using hr⟩⟩
 |false=>
  rw[ha,hagg];simp only[Bool.false_eq_true,if_false]
  have h1:d.size=1:=by
   cases d with
   |p x=>cases x <;> first|rfl|(simp[Dv.isAgg,Pl.isAgg] at hagg)
   |agg _=>simp[Dv.isAgg] at hagg
   |arr _ _ _=>simp[Dv.isAgg] at hagg
   |_=>rfl
  rw[h1] at hb
  obtain⟨v,rfl⟩:∃v,us=[v]:=by
   match us,hb with
   |[v],_=>exact⟨v,rfl⟩
  have:=hc 0 v rfl;simp only[ycf] at this;rw[run_load,this];exact⟨v,rfl,(Zi hagg).2 hr⟩
mutual
theorem ZfC{f:Nat->yO Nat}:∀(d d':Dv),d.rn f=some d'->d'.size=d.size/\d'.isAgg=d.isAgg
 |.p x,d',h=>by simp only[Dv.rn,yq] at h;subst h;exact⟨rfl,rfl⟩
 |.elem x,d',h=>by simp only[Dv.rn,yq] at h;subst h;exact⟨rfl,rfl⟩
 |.ref id off yM,d',h=>by simp only[Dv.rn,yu] at h;obtain⟨i,_,rfl⟩:=h;exact⟨rfl,rfl⟩
 |.own id nn s xs,d',h=>by simp only[Dv.rn,yu] at h;obtain⟨i,_,rfl⟩:=h;exact⟨rfl,rfl⟩
 |.view id off yM s lo n,d',h=>by simp only[Dv.rn,yu] at h;obtain⟨i,_,rfl⟩:=h;exact⟨rfl,rfl⟩
 |.agg xs,d',h=>by
  simp only[Dv.rn,yu] at h;obtain⟨ys,h1,rfl⟩:=h
  exact⟨by simp only[Dv.size];exact rns_sizes xs ys h1,rfl⟩
 |.arr n s xs,d',h=>by simp only[Dv.rn,yu] at h;obtain⟨ys,_,rfl⟩:=h;exact⟨rfl,rfl⟩
 |.fn g cap,d',h=>by simp only[Dv.rn,yu] at h;obtain⟨ys,_,rfl⟩:=h;exact⟨rfl,rfl⟩
 |.iface t x,d',h=>by simp only[Dv.rn,yu] at h;obtain⟨ys,_,rfl⟩:=h;exact⟨rfl,rfl⟩
 |.tup xs,d',h=>by simp only[Dv.rn,yu] at h;obtain⟨ys,_,rfl⟩:=h;exact⟨rfl,rfl⟩
 |.mp id,d',h=>by simp only[Dv.rn,yu] at h;obtain⟨ys,_,rfl⟩:=h;exact⟨rfl,rfl⟩
 |.rv id _ _ _ _,d',h=>by simp only[Dv.rn,yu] at h;obtain⟨ys,_,rfl⟩:=h;exact⟨rfl,rfl⟩
 |.rref id _ _ _,d',h=>by simp only[Dv.rn,yu] at h;obtain⟨ys,_,rfl⟩:=h;exact⟨rfl,rfl⟩
 |.junk,d',h=>by simp only[Dv.rn,yq] at h;subst h;exact⟨rfl,rfl⟩
theorem rns_sizes{f:Nat->yO Nat}:∀(ds ds':yL Dv),Dv.rns f ds=some ds'->Dv.sizes ds'=Dv.sizes ds
 |[],ds',h=>by simp only[Dv.rns,yq] at h;subst h;rfl
 |x::r,ds',h=>by
  simp only[Dv.rns] at h;split at h
  ·rename_i y ys h1 h2;cases h;simp only[Dv.sizes];rw[(ZfC x y h1).1,rns_sizes r ys h2]
  ·cases h
end
theorem Zm1{f:Nat->yO Nat}:∀{ds ds':yL Dv},Dv.rns f ds=some ds'->ds'.length=ds.length
 |[],ds',h=>by simp only[Dv.rns,yq] at h;subst h;rfl
 |x::r,ds',h=>by
  simp only[Dv.rns] at h;split at h
  ·rename_i y ys h1 h2;cases h;simp[Zm1 h2]
  ·cases h
theorem ZBe{f:Nat->yO Nat}{s:Nat}:∀{ds ds':yL Dv},Dv.rns f ds=some ds'->(∀x,x∈ds->x.size=s)->∀x,x∈ds'->x.size=s
 |[],ds',h,_=>by simp only[Dv.rns,yq] at h;subst h;intro x hx;cases hx
 |x::r,ds',h,ha=>by
  simp only[Dv.rns] at h;split at h
  ·rename_i y ys h1 h2;cases h;intro z hz
   cases hz with
   |head=>rw[(ZfC x y h1).1];exact ha x (ybd ..)
   |tail _ hz=>exact ZBe h2 (λw hw=>ha w (ybh _ hw)) z hz
  ·cases h
structure Rn(f:Nat->Option Nat)(σ σ':Sg):Prop where
 w:σ'.w=σ.w
 stab:∀(b o:Nat)(v:yh),σ.w.cell? ⟨b,o,none⟩=some v->σ.stab b o->σ'.stab b o
 m:∀(id id':Nat),f id=some id'->∀(a:Option Nat),σ.m[id]? =some a->σ'.m[id']? =some a
 H:∀(id id':Nat),f id=some id'->∀(e:Ent),σ.H[id]? =some e->∃e',σ'.H[id']? =some e'/\e.rn f=some e'
theorem Rn.cells{f:Nat->yO Nat}{σ σ':Sg}(h:Rn f σ σ'):∀(b o:Nat)(v:yh),σ.w.cell? ⟨b,o,none⟩=some v->σ.stab b o->σ'.w.cell? ⟨b,o,none⟩=some v/\σ'.stab b o:=
 λb o v h1 h2=>⟨by rw[h.w];exact h1,h.stab b o v h1 h2⟩
theorem Rn.var{f:Nat->yO Nat}{σ σ':Sg}(h:Rn f σ σ'){id id':Nat}(hf:f id=some id')(hv:∃d st,σ.H[id]? =some (.var d st)):∃d st,σ'.H[id']? =some (.var d st):=by
 obtain⟨d,st,hv⟩:=hv;obtain⟨e',h1,h2⟩:=h.H id id' hf _ hv;simp only[Ent.rn,yu] at h2;obtain⟨d',_,rfl⟩:=h2;exact⟨d',st,h1⟩
theorem Rn.map{f:Nat->yO Nat}{σ σ':Sg}(h:Rn f σ σ'){id id':Nat}(hf:f id=some id')(hv:∃t kvs,σ.H[id]? =some (.map t kvs)):∃t kvs,σ'.H[id']? =some (.map t kvs):=by
 obtain⟨d,st,hv⟩:=hv;obtain⟨e',h1,h2⟩:=h.H id id' hf _ hv;simp only[Ent.rn,yq] at h2;subst h2;exact⟨d,st,h1⟩
theorem Rn.front{f:Nat->yO Nat}{σ σ':Sg}(h:Rn f σ σ'){id id' s len c:Nat}{A:yO Addr}(hf:f id=some id')(hv:ownFront σ id s len A c):ownFront σ' id' s len A c:=by
 obtain⟨e,ys,h1,h2,h3⟩:=hv;obtain⟨e',h4,h5⟩:=h.H id id' hf _ h1;simp only[Ent.rn,yq] at h5;subst h5;refine⟨e,ys,h4,h2,λhl=> ?_⟩;rcases h3 hl with⟨h6,h7⟩|⟨b,cur,h6,h7,h8,h9⟩
 ·exact .inl ⟨h.m _ _ hf _ h6,h7⟩
 ·exact .inr ⟨b,cur,h.m _ _ hf _ h6,h7,by rw[h.w];exact h8,h9⟩
theorem Rn.row{f:Nat->yO Nat}{σ σ':Sg}(h:Rn f σ σ'){id id' v s:Nat}{st:Bool}{e:yb}{d:Dv}(hf:f id=some id')(hv:σ.H[id]? =some (.row v s st e d)):∃d',σ'.H[id']? =some (.row v s st e d'):=by
 obtain⟨e',h1,h2⟩:=h.H id id' hf _ hv;simp only[Ent.rn,yu] at h2;obtain⟨d',_,rfl⟩:=h2;exact⟨d',h1⟩
theorem Rn.rowAt{f:Nat->yO Nat}{σ σ':Sg}(h:Rn f σ σ'){id id' v s lo c:Nat}{A:yO Addr}(hf:f id=some id')(hv:rowAt σ id v s lo A c):rowAt σ' id' v s lo A c:=by
 obtain⟨v',s',st,e,d,h1,h2,h3⟩:=hv;obtain⟨d',h4⟩:=h.row hf h1;refine⟨v',s',st,e,d',h4,h2,λhv=> ?_⟩;obtain⟨h5,h6⟩:=h3 hv;refine⟨h5, ?_⟩;rcases h6 with⟨h7,h8⟩|⟨b,cur,h7,h8,h9⟩
 ·exact .inl ⟨h.m _ _ hf _ h7,h8⟩
 ·exact .inr ⟨b,cur,h.m _ _ hf _ h7,by rw[h.w];exact h8,h9⟩
theorem Rn.rowIs{f:Nat->yO Nat}{σ σ':Sg}(h:Rn f σ σ'){id id' v b o off:Nat}(hf:f id=some id')(hv:rowIs σ id v b o off):rowIs σ' id' v b o off:=by
 obtain⟨v',s',st,e,d,h1,h2,h3⟩:=hv;obtain⟨d',h4⟩:=h.row hf h1;exact⟨v',s',st,e,d',h4,h2,λhv=>⟨h.m _ _ hf _ (h3 hv).1,(h3 hv).2⟩⟩
mutual
theorem ZfD{f:Nat->yO Nat}{σ σ':Sg}(h:Rn f σ σ'):∀(d d':Dv)(vs:yL yh),d.rn f=some d'->yG σ d vs->yG σ' d' vs
 |.p x,d',vs,hd,hr=>by
  simp only[Dv.rn,yq] at hd;subst hd;simp only[yG] at hr ⊢
  exact ZbE h.cells x vs hr
 |.elem x,d',vs,hd,hr=>by
  simp only[Dv.rn,yq] at hd;subst hd;simp only[yG] at hr ⊢;obtain⟨b,o,us,h1,h2,h3⟩:=hr
  exact⟨b,o,us,h1,ZbE h.cells x us h2,h3.mono h.cells⟩
 |.ref id off yM,d',vs,hd,hr=>by
  simp only[Dv.rn,yu] at hd;obtain⟨i,hf,rfl⟩:=hd;simp only[yG] at hr ⊢;obtain⟨b,h1,h2,h3⟩:=hr
  exact⟨b,h.m _ _ hf _ h1,h.var hf h2,h3⟩
 |.own id nn s xs,d',vs,hd,hr=>by
  simp only[Dv.rn,yu] at hd;obtain⟨i,hf,rfl⟩:=hd;simp only[yG] at hr ⊢;obtain⟨h1,A,c,h2,h3,h4,h5,h6,h7,h8⟩:=hr;refine⟨h1,A,c,h2,h3,h4,h5,h6,λhne=> ?_,h.front hf h8⟩;obtain⟨b,o,us,e1,e2,e3⟩:=h7 hne
  exact⟨b,o,us,e1,repCs_mono h.cells xs us e2,e3.mono h.cells⟩
 |.view id off yM s lo n,d',vs,hd,hr=>by
  simp only[Dv.rn,yu] at hd;obtain⟨i,hf,rfl⟩:=hd;simp only[yG] at hr ⊢;obtain⟨b,c,a,h1,h2,h3⟩:=hr
  exact⟨b,c,a,h.m _ _ hf _ h1,h.var hf h2,h3⟩
 |.agg xs,d',vs,hd,hr=>by
  simp only[Dv.rn,yu] at hd;obtain⟨ys,hf,rfl⟩:=hd;simp only[yG] at hr ⊢
  exact repDs_rn h xs ys vs hf hr
 |.arr n s xs,d',vs,hd,hr=>by
  simp only[Dv.rn,yu] at hd;obtain⟨ys,hf,rfl⟩:=hd;simp only[yG] at hr ⊢
  exact⟨by rw[Zm1 hf];exact hr.1,ZBe hf hr.2.1,repDs_rn h xs ys vs hf hr.2.2⟩
 |.fn g cap,d',vs,hd,hr=>by
  simp only[Dv.rn,yu] at hd;obtain⟨ys,hf,rfl⟩:=hd;simp only[yG] at hr ⊢;obtain⟨fs,cs,h1,h0,h2⟩:=hr
  exact⟨fs,cs,h1,h0,repVs_rn h cap ys _ hf h2⟩
 |.iface t x,d',vs,hd,hr=>by
  simp only[Dv.rn,yu] at hd;obtain⟨y,hf,rfl⟩:=hd;simp only[yG] at hr ⊢;obtain⟨v,h1,h2,h3⟩:=hr;refine⟨v,h1,λha=> ?_,λha=>ZfD h x y _ hf (h3 (by rw[<-(ZfC x y hf).2];exact ha))⟩;obtain⟨cs,e1,e2⟩:=h2 (by rw[<-(ZfC x y hf).2];exact ha)
  exact⟨cs,e1,ZfD h x y _ hf e2⟩
 |.tup xs,d',vs,hd,hr=>by
  simp only[Dv.rn,yu] at hd;obtain⟨ys,hf,rfl⟩:=hd;simp only[yG] at hr ⊢;obtain⟨cs,h1,h2⟩:=hr
  exact⟨cs,h1,repVs_rn h xs ys _ hf h2⟩
 |.mp id,d',vs,hd,hr=>by
  simp only[Dv.rn,yu] at hd;obtain⟨i,hf,rfl⟩:=hd;simp only[yG] at hr ⊢;obtain⟨b,h1,h2,h3⟩:=hr
  exact⟨b,h.m _ _ hf _ h1,h.map hf h2,h3⟩
 |.rv id v s lo n,d',vs,hd,hr=>by
  simp only[Dv.rn,yu] at hd;obtain⟨i,hf,rfl⟩:=hd;simp only[yG] at hr ⊢;obtain⟨A,c,h1,h2,h3,h4,h5,h6⟩:=hr
  exact⟨A,c,h1,h2,h3,h4,h5,h.rowAt hf h6⟩
 |.rref id v off yM,d',vs,hd,hr=>by
  simp only[Dv.rn,yu] at hd;obtain⟨i,hf,rfl⟩:=hd;simp only[yG] at hr ⊢;obtain⟨b,o,h1,h2⟩:=hr
  exact⟨b,o,h1,h.rowIs hf h2⟩
 |.junk,d',vs,hd,hr=>by
  simp only[Dv.rn,yq] at hd;subst hd;simpa[yG] using hr
theorem repDs_rn{f:Nat->yO Nat}{σ σ':Sg}(h:Rn f σ σ'):∀(ds ds':yL Dv)(vs:yL yh),Dv.rns f ds=some ds'->repDs σ ds vs->repDs σ' ds' vs
 |[],ds',vs,hd,hr=>by
  simp only[Dv.rns,yq] at hd;subst hd
  simpa[repDs] using hr
 |x::xs,ds',vs,hd,hr=>by
  simp only[Dv.rns] at hd;split at hd
  ·rename_i y ys h1 h2;cases hd;simp only[repDs] at hr ⊢;obtain⟨us,us',h3,h4,h5⟩:=hr;exact⟨us,us',h3,ZfD h x y us h1 h4,repDs_rn h xs ys us' h2 h5⟩
  ·cases hd
theorem repVs_rn{f:Nat->yO Nat}{σ σ':Sg}(h:Rn f σ σ'):∀(ds ds':yL Dv)(vs:yL yh),Dv.rns f ds=some ds'->repVs σ ds vs->repVs σ' ds' vs
 |[],ds',vs,hd,hr=>by
  simp only[Dv.rns,yq] at hd;subst hd
  simpa[repVs] using hr
 |x::xs,ds',vs,hd,hr=>by
  simp only[Dv.rns] at hd;split at hd
  ·rename_i y ys h1 h2;cases hd;simp only[repVs] at hr ⊢;obtain⟨v,vs',h3,⟨h4,h5⟩,h6⟩:=hr;refine⟨v,vs',h3,⟨λha=> ?_,λha=>ZfD h x y _ h1 (h5 (by rw[<-(ZfC x y h1).2];exact ha))⟩,repVs_rn h xs ys vs' h2 h6⟩;obtain⟨cs,e1,e2⟩:=h4 (by rw[<-(ZfC x y h1).2];exact ha);exact⟨cs,e1,ZfD h x y _ h1 e2⟩
  ·cases hd
end
theorem Zgd{f:Nat->yO Nat}{σ σ':Sg}(h:Rn f σ σ'){d d':Dv}{v:yh}(hd:d.rn f=some d')(hr:yH σ d v):yH σ' d' v:=by
 obtain⟨h4,h5⟩:=hr;refine⟨λha=> ?_,λha=>ZfD h d d' _ hd (h5 (by rw[<-(ZfC d d' hd).2];exact ha))⟩;obtain⟨cs,e1,e2⟩:=h4 (by rw[<-(ZfC d d' hd).2];exact ha);exact⟨cs,e1,ZfD h d d' _ hd e2⟩
theorem Wu{w:yz}{b o:Nat}{v:yh}(h:w.cell? ⟨b,o,none⟩=some v):b < w.heap.size:=World.block_lt_of_cell? w ⟨b,o,none⟩ h
theorem Zrq{σ σ':Sg}(h:Leaf σ σ'):∀(l:yL (Pl×Pl))(es:yL MapEntry),Zef σ l es->Zef σ' l es
 |[],[],_=>trivial
 |[],_::_,k=>k.elim
 |_::_,[],k=>k.elim
 |q::r,e::es,k=>⟨WK h k.1,WK h k.2.1,Zrq h r es k.2.2⟩
theorem Zrr{σ σ':Sg}(h:Leaf σ σ'){l:yL (Pl×Pl)}{es:yL MapEntry}(k:Zj8 σ l es):Zj8 σ' l es:=by
 obtain⟨l',p,nd,k⟩:=k;exact⟨l',p,nd,Zrq h _ _ k⟩
theorem Zab{σ σ':Sg}(h:Leaf σ σ'){a:yO Nat}{e:Ent}(hb:∀b,a=some b->σ'.w.heap[b]? =σ.w.heap[b]?)(he:entOk σ a e):entOk σ' a e:=by
 cases e with
 |var d st=>
  obtain⟨b,cs,t,rfl,h1,h2,h3⟩:=he
  exact⟨b,cs,t,rfl,(hb b rfl).trans h1,Yk h d _ h2,h3⟩
 |log s e xs=>
  rcases he with⟨rfl,h1⟩|⟨b,cur,cap,rfl,h1,h2,h3,h4,h5,h6⟩
  ·exact .inl ⟨rfl,h1⟩
  ·exact .inr ⟨b,cur,cap,rfl,(hb b rfl).trans h1,h2,h3,h4,h5,repCs_mono h.cells xs _ h6⟩
 |map t kvs=>
  obtain⟨b,es,clock,rfl,h1,h2,h3⟩:=he
  exact⟨b,es,clock,rfl,(hb b rfl).trans h1,Zrr h h2,h3⟩
 |row v s st e d=>
  obtain⟨N,h0,h1⟩:=he;refine⟨N,h0, ?_⟩;rcases h1 with h1|⟨b,cur,cap,rfl,h1,h2,h3,h4,h5⟩
  ·exact .inl h1
  ·exact .inr ⟨b,cur,cap,rfl,(hb b rfl).trans h1,h2,h3,h4,Yk h d _ h5⟩
 |gone=>exact he
theorem ZnF{σ:Sg}(ok:Ok σ){w':yz}(hg:σ.w.grownBy w' none):To σ { σ with w:=w'}/\Ok { σ with w:=w'}:=by
 have hb:∀b,b < σ.w.heap.size->w'.heap[b]? =σ.w.heap[b]? :=λb hb=>hg.block b hb (by simp);have hm:∀(id b:Nat),σ.m[id]? =some (some b)->w'.heap[b]? =σ.w.heap[b]? :=λid b h=>hb b (ok.lt id b h)
 have leaf:Leaf σ { σ with w:=w'}:=by
  refine⟨λb o v h1 h2=>⟨?_,h2⟩,λid b h1 h2=>⟨h1,h2⟩,λid s len A c h1=> ?_,λid b h1 h2=>⟨h1,h2⟩,λid v s st e d h=>⟨v,st,d,h,yl _,λ_=>⟨rfl,λb cur hb hc=>⟨cur,(hm id b hb).trans hc,rfl⟩⟩⟩⟩
  ·show w'.cell? ⟨b,o,none⟩=some v;rw[World.cell?_of_block (w:=σ.w) (hb b (Wu h1))];exact h1
  ·obtain⟨e,ys,h2,h3,h4⟩:=h1;refine⟨e,ys,h2,h3,λhl=> ?_⟩;rcases h4 hl with h5|⟨b,cur,h5,h6,h7,h8⟩
   ·exact .inl h5
   ·exact .inr ⟨b,cur,h5,h6,(hm id b h5).trans h7,h8⟩
 refine⟨⟨leaf,rfl,rfl,hg.os,hg.tape,hg.output,hg.size,λb h1 _=>hb b h1,λid b h=>.inl h,yl _⟩,⟨ok.len,ok.inj,λi b h=>ycv (ok.lt i b h) hg.size,λi e a h1 h2=> ?_,λb h=>ok.new b (ybj hg.size h),ok.own⟩⟩;exact Zab leaf (λb hb=>hm i b (by rw[h2,hb])) (ok.ent i e a h1 h2)
theorem Zxt{σ:Sg}(ok:Ok σ){b o:Nat}(h:σ.B b)(hn:∀(id:Nat),σ.m[id]? ≠some (some b)):σ.stab b o:=
 ⟨.inr h,λid _ he _=>absurd he (hn id)⟩
def Wd(P:yg)(o:ym)(a:Act)(σ:Sg)(d:Dv)(H':yL Ent):Prop:=
 ∀(K:Act->yz->Prop)(Q:Exit->Act->yz->Prop),(∀v σ',σ'.H=H'->To σ σ'->Ok σ'->yH σ' d v->K (a.put o.dst v) σ'.w)->o.wp P a σ.w K Q
theorem Zn{P:yg}{o:ym}{a:Act}{σ:Sg}{d:Dv}{v:yh}(ok:Ok σ)(hr:(execOp a.eval o).run P σ.w=.ok (.value v) σ.w)(hd:yH σ d v):Wd P o a σ d σ.H:=by
 intro K Q h;unfold Oper.wp;rw[hr];exact h v σ rfl (To.refl σ) ok hd
theorem ZX{P:yg}{o:ym}{a:Act}{σ σ':Sg}{d:Dv}{v:yh}(hr:(execOp a.eval o).run P σ.w=.ok (.value v) σ'.w)(to:To σ σ')(ok:Ok σ')(hd:yH σ' d v):Wd P o a σ d σ'.H:=by
 intro K Q h;unfold Oper.wp;rw[hr];exact h v σ' rfl to ok hd
structure PlWk(x y:Pl):Prop where
 size:x.size=y.size
 agg:x.isAgg=y.isAgg
 rep:∀(w:yz)(S:Nat->Nat->Prop)(vs:List yh),repC w S x vs->repC w S y vs
structure PlsWk(xs ys:List Pl):Prop where
 len:xs.length=ys.length
 sizes:Pl.sizes xs=Pl.sizes ys
 all:∀s,allSz s xs->allSz s ys
 rep:∀(w:yz)(S:Nat->Nat->Prop)(vs:List yh),repCs w S xs vs->repCs w S ys vs
theorem PlWk.refl(x:Pl):PlWk x x:=⟨rfl,rfl,λ_ _ _ h=>h⟩
theorem PlsWk.refl(x:yL Pl):PlsWk x x:=⟨rfl,rfl,λ_ h=>h,λ_ _ _ h=>h⟩
theorem PlsWk.of_eq{x y:yL Pl}(h:x=y):PlsWk x y:=h ▸ PlsWk.refl x
theorem PlsWk.nil:PlsWk [] []:=PlsWk.refl []
theorem PlsWk.cons{x y:Pl}{xs ys:yL Pl}(h:PlWk x y)(k:PlsWk xs ys):PlsWk (x::xs) (y::ys) where
 len:=by simp[k.len]
 sizes:=by simp only[Pl.sizes];rw[h.size,k.sizes]
 all s ha:=by
  intro z hz;rcases List.mem_cons.1 hz with rfl|hz
  ·rw[<-h.size];exact ha x (ybd ..)
  ·exact k.all s (λz hz=>ha z (ybh _ hz)) z hz
 rep w S vs hr:=by
  simp only[repCs] at hr ⊢;obtain⟨us,us',e,h1,h2⟩:=hr;exact⟨us,us',e,h.rep w S us h1,k.rep w S us' h2⟩
theorem PlWk.trans{x y z:Pl}(h:PlWk x y)(k:PlWk y z):PlWk x z:=⟨h.size.trans k.size,h.agg.trans k.agg,λw S vs r=>k.rep w S vs (h.rep w S vs r)⟩
theorem PlsWk.map{α:Type}{f g:α->Pl}(h:∀x,PlWk (f x) (g x)):∀(l:yL α),PlsWk (l.map f) (l.map g)
 |[]=>PlsWk.nil
 |x::l=>PlsWk.cons (h x) (PlsWk.map h l)
theorem PlWk.agg_mk{xs ys:yL Pl}(h:PlsWk xs ys):PlWk (.agg xs) (.agg ys):=⟨h.sizes,rfl,λw S vs hr=>by simp only[repC] at hr ⊢;exact h.rep w S vs hr⟩
theorem PlWk.arr_mk{n s:Nat}{xs ys:yL Pl}(h:PlsWk xs ys):PlWk (.arr n s xs) (.arr n s ys):=
 ⟨rfl,rfl,λw S vs hr=>by simp only[repC] at hr ⊢;exact⟨by rw[<-h.len];exact hr.1,h.all s hr.2.1,h.rep w S vs hr.2.2⟩⟩
theorem PlWk.sl_nn{nn:yO Bool}{s:Nat}{xs ys:yL Pl}(h:PlsWk xs ys):PlWk (.sl nn s xs) (.sl nn s ys):=⟨rfl,rfl,λw S vs hr=>by
 simp only[repC] at hr ⊢;obtain⟨h1,A,c,rfl,h2,h3,h4,h5,h6⟩:=hr;refine⟨h.all s h1,A,c,by rw[h.len],by rw[<-h.len];exact h2,h3,h4,h5,λhne=> ?_⟩;obtain⟨b,o,us,e,r,k⟩:=h6 (by intro e;subst e;exact hne (ybn h.len.symm));exact⟨b,o,us,e,h.rep _ _ _ r,k⟩⟩
theorem PlWk.iface_mk{t:yb}{x y:Pl}(h:PlWk x y):PlWk (.iface t x) (.iface t y):=⟨rfl,rfl,λw S vs hr=>by
 simp only[repC] at hr ⊢;obtain⟨v,e,h1,h2⟩:=hr;refine⟨v,e,λha=> ?_,λha=>h.rep _ _ _ (h2 (by rw[h.agg];exact ha))⟩;obtain⟨cs,e1,e2⟩:=h1 (by rw[h.agg];exact ha);exact⟨cs,e1,h.rep _ _ _ e2⟩⟩
theorem PlWk.sl_mk{nn:yO Bool}{s:Nat}{xs ys:yL Pl}(h:PlsWk xs ys):PlWk (.sl nn s xs) (.sl none s ys):=⟨rfl,rfl,λw S vs hr=>by
 simp only[repC] at hr ⊢;obtain⟨h1,A,c,rfl,h2,h3,h4,h5,h6⟩:=hr;refine⟨h.all s h1,A,c,by rw[h.len],by rw[<-h.len];exact h2,h3,Yp _,h5,λhne=> ?_⟩;obtain⟨b,o,us,e,r,k⟩:=h6 (by intro e;subst e;exact hne (ybn h.len.symm));exact⟨b,o,us,e,h.rep _ _ _ r,k⟩⟩
structure Wk(d e:Dv):Prop where
 size:d.size=e.size
 agg:d.isAgg=e.isAgg
 rep:∀(σ:Sg)(vs:List yh),yG σ d vs->yG σ e vs
theorem Wk.refl(d:Dv):Wk d d:=⟨rfl,rfl,λ_ _ h=>h⟩
theorem Wk.of_eq{x y:Dv}(h:x=y):Wk x y:=h ▸ Wk.refl x
theorem Wk.p{x y:Pl}(h:PlWk x y):Wk (.p x) (.p y):=⟨h.size,h.agg,λσ vs r=>by simp only[yG] at r ⊢;exact h.rep _ _ _ r⟩
theorem Zuf{σ:Sg}{id s:Nat}{nn mm:yO Bool}{xs ys:yL Pl}{vs:yL yh}(h:PlsWk xs ys)(hn:∀A,ZqF nn A->ZqF mm A)(r:yG σ (.own id nn s xs) vs):yG σ (.own id mm s ys) vs:=by
 simp only[yG] at r ⊢;obtain⟨h1,A,c,h2,h3,h4,h5,h6,h7,h8⟩:=r;refine⟨h.all s h1,A,c,by rw[<-h.len];exact h2,by rw[<-h.len];exact h3,h4,hn A h5,h6,λhne=> ?_,by rw[<-h.len];exact h8⟩;obtain⟨b,o,us,e,r,k⟩:=h7 (by intro e;subst e;exact hne (ybn h.len.symm));exact⟨b,o,us,e,h.rep _ _ _ r,k⟩
theorem Wk.own{id s:Nat}{nn:yO Bool}{xs ys:yL Pl}(e:xs=ys):Wk (.own id nn s xs) (.own id none s ys):=
 ⟨rfl,rfl,λσ vs r=>Zuf (PlsWk.of_eq e) (λ_ _=>Yp _) r⟩
theorem Wk.own_nn{id s:Nat}{nn:yO Bool}{xs ys:yL Pl}(e:PlsWk xs ys):Wk (.own id nn s xs) (.own id nn s ys):=
 ⟨rfl,rfl,λσ vs r=>Zuf e (λ_ h=>h) r⟩
theorem Wk.own_sl{id s:Nat}{nn:yO Bool}{xs ys:yL Pl}(h:PlsWk xs ys):Wk (.own id nn s xs) (.p (.sl none s ys)):=by
 refine⟨rfl,rfl,λσ vs r=> ?_⟩;simp only[yG] at r ⊢;obtain⟨h1,A,c,h2,h3,h4,h5,h6,h7,h8⟩:=r;exact(PlWk.sl_mk (nn:=nn) h).rep _ _ _ (by simp only[repC];exact⟨h1,A,c,h2,h3,h4,h5,h6,h7⟩)
theorem Wk.junk{d:Dv}(h:d.isAgg=false)(hs:d.size=1):Wk d .junk:=⟨hs,h,λσ vs r=>by simp only[yG];rw[W6 _ _ r,hs]⟩
theorem Wk.dv{d e:Dv}(h:Wk d e){σ:Sg}{v:yh}(r:yH σ d v):yH σ e v:=by
 obtain⟨r1,r2⟩:=r;refine⟨λha=> ?_,λha=>h.rep _ _ (r2 (by rw[h.agg];exact ha))⟩;obtain⟨cs,e1,e2⟩:=r1 (by rw[h.agg];exact ha);exact⟨cs,e1,h.rep _ _ e2⟩
inductive WkL:List Dv->List Dv->Prop where
 |nil:WkL [] []
 |cons {d e:Dv} {ds es:List Dv} (h:Wk d e) (k:WkL ds es):WkL (d::ds) (e::es)
theorem WkL.refl:∀(l:yL Dv),WkL l l
 |[]=>.nil
 |d::l=>.cons (Wk.refl d) (WkL.refl l)
theorem WkL.tup{ds es:yL Dv}(h:WkL ds es):Wk (.tup ds) (.tup es):=by
 refine⟨rfl,rfl,λσ vs r=> ?_⟩;simp only[yG] at r ⊢;obtain⟨cs,e,r⟩:=r;refine⟨cs,e, ?_⟩;clear e;generalize cs.toList=l at r
 induction h generalizing l with
 |nil=>exact r
 |cons h k ih=>
  simp only[repVs] at r ⊢;obtain⟨v,vs',e1,r1,r2⟩:=r;exact⟨v,vs',e1,h.dv r1,ih _ r2⟩
theorem WkL.vs{ds es:yL Dv}(h:WkL ds es){σ:Sg}:∀{l:yL yh},repVs σ ds l->repVs σ es l:=by
 induction h with
 |nil=>intro l r;exact r
 |cons h k ih=>
  intro l r;simp only[repVs] at r ⊢;obtain⟨v,vs',e1,r1,r2⟩:=r;exact⟨v,vs',e1,h.dv r1,ih r2⟩
theorem WkL.len{ds es:yL Dv}(h:WkL ds es):ds.length=es.length:=by
 induction h with
 |nil=>rfl
 |cons _ _ ih=>simp[ih]
theorem WkL.get{ds es:yL Dv}(h:WkL ds es):∀{i:Nat}{e:Dv},es[i]? =some e->∃d,ds[i]? =some d/\Wk d e:=by
 induction h with
 |nil=>intro i e h;simp at h
 |cons h k ih=>
  intro i e hi
  cases i with
  |zero=>simp only[ybx,yq] at hi ⊢;subst hi;exact⟨_,rfl,h⟩
  |succ j=>simp only[ybb] at hi ⊢;exact ih hi
theorem WkL.repT{ds es:yL Dv}(h:WkL ds es){σ:Sg}{a:Act}(r:RepT σ ds a):RepT σ es a:=by
 refine⟨by rw[<-h.len];exact r.size,λi e he=> ?_,r.defers⟩;obtain⟨d,hd,hw⟩:=h.get he;exact hw.dv (r.at_ i d hd)
theorem WkL.agg{ds es:yL Dv}(h:WkL ds es):Wk (.agg ds) (.agg es):=by
 have hs:Dv.sizes ds=Dv.sizes es:=by
  induction h with
  |nil=>rfl
  |cons h k ih=>simp only[Dv.sizes];rw[h.size,ih]
 refine⟨hs,rfl,λσ vs r=> ?_⟩;simp only[yG] at r ⊢;clear hs
 induction h generalizing vs with
 |nil=>exact r
 |cons h k ih=>
  simp only[repDs] at r ⊢;obtain⟨us,us',e,r1,r2⟩:=r;exact⟨us,us',e,h.rep _ _ r1,ih _ r2⟩
inductive KvWk:List (Pl×Pl)->List (Pl×Pl)->Prop where
 |nil:KvWk [] []
 |cons {k v v':Pl} {l m:List (Pl×Pl)} (h:PlWk v v') (r:KvWk l m):KvWk ((k,v)::l) ((k,v')::m)
theorem KvWk.rep{σ:Sg}{l m:yL (Pl×Pl)}(h:KvWk l m):∀(es:yL MapEntry),Zef σ l es->Zef σ m es:=by
 induction h with
 |nil=>intro es h;exact h
 |cons h r ih=>
  intro es k
  cases es with
  |nil=>exact k
  |cons e es=>exact⟨k.1,(Wk.p h).dv k.2.1,ih es k.2.2⟩
theorem KvWk.keys{l m:yL (Pl×Pl)}(h:KvWk l m):m.map (·.1)=l.map (·.1):=by
 induction h with
 |nil=>rfl
 |cons h r ih=>rw[yah,yah,ih]
theorem KvWk.perm{l l':yL (Pl×Pl)}(p:l.Perm l'):∀{m:yL (Pl×Pl)},KvWk l m->∃m',m.Perm m'/\KvWk l' m':=by
 induction p with
 |nil=>intro m h;exact⟨m,.refl _,h⟩
 |cons x p ih=>
  intro m h
  cases h with
  |cons h r=>
   obtain⟨m',q1,q2⟩:=ih r
   exact⟨_,q1.cons _,.cons h q2⟩
 |swap x y l=>
  intro m h
  cases h with
  |cons h r=>
   cases r with
   |cons h2 r=>exact⟨_,.swap _ _ _,.cons h2 (.cons h r)⟩
 |trans p q ih1 ih2=>
  intro m h;obtain⟨m1,a1,a2⟩:=ih1 h;obtain⟨m2,b1,b2⟩:=ih2 a2;exact⟨m2,a1.trans b1,b2⟩
theorem KvWk.any{σ:Sg}{l m:yL (Pl×Pl)}(h:KvWk l m){es:yL MapEntry}(k:Zj8 σ l es):Zj8 σ m es:=by
 obtain⟨l',p,nd,r⟩:=k;obtain⟨m',q1,q2⟩:=KvWk.perm p.symm h;exact⟨m',q1.symm,by rw[h.keys];exact nd,q2.rep _ r⟩
inductive WkE:Ent->Ent->Prop where
 |refl (e:Ent):WkE e e
 |var {d d':Dv} {st:Bool} (h:Wk d d'):WkE (.var d st) (.var d' st)
 |log {s:Nat} {e:yb} {xs ys:List Pl} (h:PlsWk xs ys):WkE (.log s e xs) (.log s e ys)
 |map {t:yb} {l m:List (Pl×Pl)} (h:KvWk l m):WkE (.map t l) (.map t m)
 |perm {t:yb} {l m:List (Pl×Pl)} (h:l.Perm m):WkE (.map t l) (.map t m)
 |row {v s:Nat} {st:Bool} {e:yb} {d d':Dv} (h:Wk d d'/\rowN d s=rowN d' s):WkE (.row v s st e d) (.row v s st e d')
 |lock {v s:Nat} {st:Bool} {e:yb} {d:Dv}:WkE (.row v s st e d) (.row v s false e d)
 |frz {d:Dv} {st:Bool}:WkE (.var d st) (.var d false)
 |varz {d d':Dv} {st:Bool} (h:Wk d d'):WkE (.var d st) (.var d' false)
 |shr {v s n N:Nat} {e:yb} {xs:List Pl} (h:n<=N):WkE (.row v s true e (.p (.arr N s xs))) (.row v s true e (.p (.arr n s (xs.take n))))
inductive WkH:List Ent->List Ent->Prop where
 |nil:WkH [] []
 |cons {e f:Ent} {es fs:List Ent} (h:WkE e f) (k:WkH es fs):WkH (e::es) (f::fs)
theorem WkH.refl:∀(l:yL Ent),WkH l l
 |[]=>.nil
 |d::l=>.cons (.refl d) (WkH.refl l)
theorem WkH.len{ds es:yL Ent}(h:WkH ds es):ds.length=es.length:=by
 induction h with
 |nil=>rfl
 |cons _ _ ih=>simp[ih]
theorem WkH.get{ds es:yL Ent}(h:WkH ds es):∀{i:Nat}{d:Ent},ds[i]? =some d->∃e,es[i]? =some e/\WkE d e:=by
 induction h with
 |nil=>intro i e h;simp at h
 |cons h k ih=>
  intro i e hi
  cases i with
  |zero=>simp only[ybx,yq] at hi ⊢;subst hi;exact⟨_,rfl,h⟩
  |succ j=>simp only[ybb] at hi ⊢;exact ih hi
theorem WkH.back{ds es:yL Ent}(h:WkH ds es):∀{i:Nat}{e:Ent},es[i]? =some e->∃d,ds[i]? =some d/\WkE d e:=by
 induction h with
 |nil=>intro i e h;simp at h
 |cons h k ih=>
  intro i e hi
  cases i with
  |zero=>simp only[ybx,yq] at hi ⊢;subst hi;exact⟨_,rfl,h⟩
  |succ j=>simp only[ybb] at hi ⊢;exact ih hi
theorem WkE.unlocked{e f:Ent}(h:WkE e f)(o:Nat)(k:e.unlocked o):f.unlocked o:=by
 cases h with
 |log h=>simpa only[Ent.unlocked,h.len] using k
 |lock=>exact⟨rfl,k.2⟩
 |row h=>exact⟨k.1,by rw[<-h.2];exact k.2⟩
 |shr _=>exact absurd k.1 (by simp)
 |frz=>rfl
 |varz _=>rfl
 |_=>exact k
theorem Zrs{w:yz}{S:Nat->Nat->Prop}{s:Nat}:∀{xs:yL Pl}{vs:yL yh},(∀x,x∈xs->x.size=s)->repCs w S xs vs->∀(n:Nat),n<=xs.length->repCs w S (xs.take n) (vs.take (n*s))
 |[],vs,_,h,n,hn=>by
  have:n=0:=by simpa using hn
  subst this;simp only[repCs] at h;subst h
  simp[repCs]
 |x::r,vs,hs,h,0,_=>by simp[repCs]
 |x::r,vs,hs,h,n+1,hn=>by
  simp only[repCs] at h;obtain⟨us,us',rfl,h1,h2⟩:=h;have hl:us.length=s:=by rw[W5 _ _ h1];exact hs x (ybd ..)
  simp only[List.take_succ_cons,repCs];refine⟨us,us'.take (n*s), ?_,h1,Zrs (λy hy=>hs y (ybh _ hy)) h2 n (by simpa using hn)⟩;rw[List.take_append,hl,yaz,Nat.one_mul,ybr (by omega)];congr 2;omega
theorem WkH.set_at:∀{l:yL Ent}{i:Nat}{e f:Ent},l[i]? =some e->WkE e f->WkH l (l.set i f)
 |[],_,_,_,h,_=>by simp at h
 |x::l,0,e,f,h,k=>by
  simp only[ybx,yq] at h;subst h
  exact .cons k (WkH.refl l)
 |x::l,i+1,e,f,h,k=>by
  simp only[ybb] at h;exact .cons (.refl x) (WkH.set_at h k)
theorem ZpP{σ:Sg}(ok:Ok σ){H':yL Ent}(h:WkH σ.H H'):To σ { σ with H:=H'}/\Ok { σ with H:=H'}:=by
 have stab:∀b o,σ.stab b o->({ σ with H:=H'}:Sg).stab b o:=λb o hs=>⟨hs.1,λid e h1 h2=>by
  obtain⟨d,h3,h4⟩:=h.back h2;exact h4.unlocked o (hs.2 id d h1 h3)⟩
 have leaf:Leaf σ { σ with H:=H'}:=by
  refine⟨λb o v h1 h2=>⟨h1,stab b o h2⟩,λid b h1 h2=>⟨h1, ?_⟩,λid s len A c h1=> ?_,λid b h1 h2=>⟨h1, ?_⟩,λid v s st e d h1=> ?_⟩
  ·obtain⟨d,st,h2⟩:=h2;obtain⟨e,h3,h4⟩:=h.get h2
   cases h4 with
   |refl=>exact⟨d,st,h3⟩
   |var h5=>exact⟨_,_,h3⟩
   |frz=>exact⟨_,_,h3⟩
   |varz _=>exact⟨_,_,h3⟩
  ·obtain⟨e,ys,h2,h3⟩:=h1;obtain⟨e',h4,h5⟩:=h.get h2
   cases h5 with
   |refl=>exact⟨e,ys,h4,h3⟩
   |log h6=>exact⟨_,_,h4,by rw[<-h6.len];exact h3⟩
  ·obtain⟨t,kvs,h2⟩:=h2;obtain⟨e',h4,h5⟩:=h.get h2
   cases h5 with
   |refl=>exact⟨t,kvs,h4⟩
   |map h6=>exact⟨_,_,h4⟩
   |perm h6=>exact⟨_,_,h4⟩
  ·obtain⟨e',h4,h5⟩:=h.get h1
   cases h5 with
   |refl=>exact⟨v,st,d,h4,yl _,λ_=>⟨rfl,λb cur _ hc=>⟨cur,hc,rfl⟩⟩⟩
   |row h6=>exact⟨v,st,_,h4,yl _,λ_=>⟨rfl,λb cur _ hc=>⟨cur,hc,rfl⟩⟩⟩
   |shr _=>exact⟨v,true,_,h4,yl _,λ_=>⟨rfl,λb cur _ hc=>⟨cur,hc,rfl⟩⟩⟩
   |lock=>exact⟨v,false,_,h4,yl _,λ_=>⟨rfl,λb cur _ hc=>⟨cur,hc,rfl⟩⟩⟩
 refine⟨⟨leaf,rfl,rfl,rfl,rfl,rfl,yl _,λ_ _ _=>rfl,λ_ _ h=>.inl h,yl _⟩,⟨by show σ.m.length=H'.length;rw[ok.len,h.len],ok.inj,ok.lt,λi e a h1 h2=> ?_,ok.new,ok.own⟩⟩;obtain⟨d,h3,h4⟩:=h.back h1;have hd:=Zab leaf (λb _=>rfl) (ok.ent i d a h3 h2)
 cases h4 with
 |refl=>exact hd
 |var h5=>
  obtain⟨b,cs,t,e1,e2,e3,e4⟩:=hd
  exact⟨b,cs,t,e1,e2,by rw[<-h5.size];exact h5.rep _ _ e3,by rw[<-h5.size];exact e4⟩
 |log h5=>
  rcases hd with⟨e1,e2⟩|⟨b,cur,cap,e1,e2,e3,e4,e5,e6,e7⟩
  ·subst e2;exact .inl ⟨e1,ybn h5.len.symm⟩
  ·exact .inr ⟨b,cur,cap,e1,e2,e3,by rw[<-h5.len];exact e4,e5,h5.all _ e6,by rw[<-h5.len];exact h5.rep _ _ _ e7⟩
 |map h5=>
  obtain⟨b,es,clock,e1,e2,e3,e4⟩:=hd
  exact⟨b,es,clock,e1,e2,h5.any e3,e4⟩
 |perm h5=>
  obtain⟨b,es,clock,e1,e2,⟨l',p,nd,r⟩,e4⟩:=hd
  exact⟨b,es,clock,e1,e2,⟨l',p.trans h5,(h5.map _).nodup_iff.1 nd,r⟩,e4⟩
 |row h5=>
  obtain⟨N,e1,e2⟩:=hd;refine⟨N,by rw[<-h5.2];exact e1, ?_⟩;rcases e2 with e2|⟨b,cur,cap,e3,e4,e5,e6,e7,e8⟩
  ·exact .inl e2
  ·exact .inr ⟨b,cur,cap,e3,e4,e5,e6,e7,h5.1.rep _ _ e8⟩
 |lock=>exact hd
 |frz=>exact hd
 |varz h5=>
  obtain⟨b,cs,t,e1,e2,e3,e4⟩:=hd
  exact⟨b,cs,t,e1,e2,by rw[<-h5.size];exact h5.rep _ _ e3,by rw[<-h5.size];exact e4⟩
 |shr h5=>
  obtain⟨N0,e1,e2⟩:=hd;simp only[rowN,yW,yq] at e1;subst e1;refine⟨_,yW rfl, ?_⟩;rcases e2 with⟨e2,e3⟩|⟨b,cur,cap,e3,e4,e5,e6,e7,e8⟩
  ·exact .inl ⟨e2,by omega⟩
  ·refine .inr ⟨b,cur,cap,e3,e4,e5,by omega,e7, ?_⟩;simp only[yG,repC] at e8 ⊢;obtain⟨q1,q2,q3⟩:=e8;refine⟨by rw[yv];omega,λx hx=>q2 x (ycg hx), ?_⟩;have:=Zrs q2 q3 _ (show _<=_ from by rw[q1];exact h5)
   rw[List.take_take,ybg (ybp _ h5)] at this;exact this
theorem Pl.softs_map:∀(xs:yL Pl),Pl.softs xs=xs.map Pl.soft
 |[]=>rfl
 |x::r=>by rw[Pl.softs,Pl.softs_map r];rfl
mutual
theorem Zjj:∀(x:Pl),PlWk x x.soft
 |.int _ _=>PlWk.refl _
 |.bool _=>PlWk.refl _
 |.str _=>PlWk.refl _
 |.ptr0=>PlWk.refl _
 |.fn0=>PlWk.refl _
 |.if0=>PlWk.refl _
 |.map0=>PlWk.refl _
 |.fnv _=>PlWk.refl _
 |.agg xs=>by rw[Pl.soft];exact PlWk.agg_mk (softs_wk xs)
 |.arr n s xs=>by rw[Pl.soft];exact PlWk.arr_mk (softs_wk xs)
 |.sl nn s xs=>by rw[Pl.soft];exact PlWk.sl_mk (PlsWk.refl _)
 |.iface t x=>by rw[Pl.soft];exact PlWk.iface_mk (Zjj x)
theorem softs_wk:∀(xs:yL Pl),PlsWk xs (Pl.softs xs)
 |[]=>PlsWk.nil
 |x::r=>by rw[Pl.softs];exact PlsWk.cons (Zjj x) (softs_wk r)
end
theorem Zo0(x:Pl):x.soft.size=x.size:=(Zjj x).size.symm
theorem WkH.append{a b c d:yL Ent}(h:WkH a b)(k:WkH c d):WkH (a++c) (b++d):=by
 induction h with
 |nil=>exact k
 |cons h _ ih=>exact .cons h ih
theorem WkH.set_same{e f:Ent}:∀(l:yL Ent)(i:Nat),WkE e f->WkH (l.set i e) (l.set i f)
 |[],_,_=>.nil
 |x::l,0,h=>.cons h (WkH.refl l)
 |x::l,i+1,h=>.cons (.refl x) (WkH.set_same l i h)
theorem PlsWk.set_same{x y:Pl}(h:PlWk x y):∀(l:yL Pl)(i:Nat),PlsWk (l.set i x) (l.set i y)
 |[],_=>.nil
 |z::l,0=>.cons h (PlsWk.refl l)
 |z::l,i+1=>.cons (PlWk.refl z) (PlsWk.set_same h l i)
theorem ZqX{P:yg}{o:ym}{a:Act}{σ:Sg}{d d':Dv}{H1 H2:yL Ent}(h:Wd P o a σ d H1)(hd:Wk d d')(hH:WkH H1 H2):Wd P o a σ d' H2:=by
 intro K Q hK;refine h K Q λv σ1 e1 to1 ok1 hd'=> ?_;obtain⟨to,ok2⟩:=ZpP ok1 (H':=H2) (by rw[e1];exact hH);exact hK v { σ1 with H:=H2} rfl (to1.trans to) ok2 (hd.dv (WK to.leaf hd'))
theorem Zo1{σ:Sg}:∀{ds:yL Dv}{vs:yL yh},repVs σ ds vs->vs.length=ds.length
 |[],vs,h=>by simp only[repVs] at h;subst h;rfl
 |d::ds,vs,h=>by
  simp only[repVs] at h;obtain⟨v,vs',rfl,_,h2⟩:=h;simp[Zo1 h2]
theorem Zrt{σ:Sg}:∀{ds:yL Dv}{vs:yL yh}{i:Nat}{d:Dv},repVs σ ds vs->ds[i]? =some d->∃v,vs[i]? =some v/\yH σ d v
 |[],vs,i,d,_,hd=>by simp at hd
 |x::ds,vs,i,d,h,hd=>by
  simp only[repVs] at h;obtain⟨v,vs',rfl,h1,h2⟩:=h
  cases i with
  |zero=>
   simp only[ybx,yq] at hd;subst hd
   exact⟨v,rfl,h1⟩
  |succ i=>
   simp only[ybb] at hd ⊢;exact Zrt h2 hd
theorem Zb7{σ:Sg}:∀{ds es:yL Dv}{vs us:yL yh},repVs σ ds vs->repVs σ es us->repVs σ (ds++es) (vs++us)
 |[],es,vs,us,h,k=>by simp only[repVs] at h;subst h;simpa using k
 |d::ds,es,vs,us,h,k=>by
  simp only[repVs] at h;obtain⟨v,vs',rfl,h1,h2⟩:=h;simp only[yae,repVs];exact⟨v,vs'++us,rfl,h1,Zb7 h2 k⟩
theorem Zru{σ:Sg}{α:Type}(f:α->Dv)(g:α->yh)(h:∀x,yH σ (f x) (g x)):∀(l:yL α),repVs σ (l.map f) (l.map g)
 |[]=>by simp[repVs]
 |x::l=>by
  simp only[yah,repVs];exact⟨g x,l.map g,rfl,h x,Zru f g h l⟩
theorem ZqY{w:yz}{S:Nat->Nat->Prop}{s:Nat}{xs:yL Pl}{A:yO Addr}{c l h:Nat}(hs:allSz s xs)(hn:xs.length<=c)(hcm:c<=maxLen)(hnil:A=none->c=0)
 (hr:xs≠[]->∃b o us,A=some ⟨b,o,none⟩/\repCs w S xs us/\Vt w S b o us) (h1:l<=h) (h2:h<=xs.length):
 allSz s ((xs.take h).drop l)/\((xs.take h).drop l).length=h - l/\h - l<=c - l/\c - l<=maxLen/\(if c=l then A else A.map (·.add (l*s))).isSome=A.isSome/\
  ((if c=l then A else A.map (·.add (l*s)))=none->c - l=0)/\
  ((xs.take h).drop l≠[]->∃b o us,(if c=l then A else A.map (·.add (l*s)))=some ⟨b,o,none⟩/\repCs w S ((xs.take h).drop l) us/\Vt w S b o us):=by
 have zB:((xs.take h).drop l).length=h - l:=by rw[List.length_drop,yv,ybg h2]
 refine⟨Zji (Qm hs _) _,zB,by omega,by omega, ?_, ?_,λhne=> ?_⟩
 ·split
  ·rfl
  ·simp
 ·split
  ·omega
  ·intro hA;have hA':A=none:=by simpa using hA
   have:=hnil hA';omega
 ·have hlt:l < h:=by
   rcases Nat.lt_or_ge l h with h3|h3
   ·exact h3
   ·exact absurd (ybn (by rw[zB];omega)) hne
  have hxs:xs≠[]:=by
   rintro rfl;simp at h2;omega
  obtain⟨b,o,us,rfl,h3,h4⟩:=hr hxs;have hc:¬c=l:=by omega
  rw[yX hc]
  have e:xs=xs.take l++((xs.take h).drop l++xs.drop h):=by
   have e1:(xs.take h).drop l++xs.drop h=xs.drop l:=by
    have:xs.drop l=(xs.take h++xs.drop h).drop l:=by rw[ybl]
    rw[this,List.drop_append_of_le_length (by rw[yv];omega)]
   rw[e1,ybl]
  rw[e] at h3;obtain⟨u1,u2,rfl,h5,h6⟩:=YN h3;obtain⟨u3,u4,rfl,h7,h8⟩:=YN h6
  have hl1:u1.length=l*s:=by
   rw[repCs_size _ _ h5,sizes_all (Qm hs _),yv,ybg (by omega)]
  refine⟨b,o+l*s,u3,by simp[Addr.add_mk],h7, ?_⟩;have:=(Vt.append (Vt.append h4).2).1
  rwa [hl1] at this
theorem Zbp{P:yg}{w:yz}(isSlice:Bool)(len cap:Nat)(lo hi:yO yh)(l h:yO Int)(hl:lo=none/\l=none\/∃k i,lo=some (.int k i)/\l=some i)
 (hh:hi=none/\h=none\/∃k i,hi=some (.int k i)/\h=some i) (hc:AllP (XF len l h)) (zB:len<=cap):
 ∃a b,(Instr.sliceBounds isSlice len cap lo hi none).run P w=.ok (a,b,cap) w/\a<=b/\b<=len/\a=(l.getD 0).toNat/\b=(h.getD (len:Int)).toNat:=by
 rcases hl with⟨rfl,rfl⟩|⟨k,i,rfl,rfl⟩ <;> rcases hh with⟨rfl,rfl⟩|⟨k',i',rfl,rfl⟩
 ·exact⟨0,len,by simp[Instr.sliceBounds],Nat.zero_le _,yl _,rfl,by simp⟩
 ·obtain⟨h1,h2,_⟩:=hc;refine⟨0,i'.toNat, ?_,Nat.zero_le _,by omega,rfl,rfl⟩;have hb:0<=i'/\i'<=(cap:Int):=⟨h1,by omega⟩;simp[Instr.sliceBounds,Instr.sliceBound,asIntOf,hb]
 ·obtain⟨h1,h2,_⟩:=hc;refine⟨i.toNat,len, ?_,by omega,yl _,rfl,by simp⟩;have hb:0<=i/\i<=(len:Int):=⟨h1,h2⟩;simp[Instr.sliceBounds,Instr.sliceBound,asIntOf,hb]
 ·obtain⟨h1,h2,h3,_⟩:=hc;refine⟨i.toNat,i'.toNat, ?_,by omega,by omega,rfl,rfl⟩;have hb:0<=i'/\i'<=(cap:Int):=⟨by omega,by omega⟩;have hb':0<=i/\i<=(i'.toNat:Int):=⟨h1,by omega⟩;have hb2:i<=max i' 0:=by omega
  simp[Instr.sliceBounds,Instr.sliceBound,asIntOf,hb,h1,hb2]
theorem Zjk{α:Type}(xs:yL α)(l h:yO Int)(hc:AllP (XF xs.length l h)):Ql xs l h=(xs.take ((h.getD (xs.length:Int)).toNat)).drop ((l.getD 0).toNat):=by
 cases l <;> cases h <;> simp[Ql]
theorem Y7{P:yg}{σ:Sg}{ts:yL Dv}{a:Act}(yK:RepT σ ts a){x:yO yn}{l:yO Int}(h:Zeh P ts x=some l):
 x.map a.eval=none/\l=none\/∃k i,x.map a.eval=some (.int k i)/\l=some i:=by
 unfold Zeh at h;split at h
 ·cases h;exact .inl ⟨rfl,rfl⟩
 ·rename_i y;split at h
  ·rename_i k i hy;cases h;have:=Zq (P:=P) yK 0 y;rw[hy] at this;exact .inr ⟨k,i,by simp[Yd this],rfl⟩
  ·cases h
end Go.Ev
end
section
namespace Go.Ev
section
variable{P:yg}{o:ym}{a:Act}{σ:Sg}{ts:yL Dv}{hs hs':yL Hint}{C:yL Prop}{d:Dv}
theorem Zkc{e:yb}{t:yb}{s:Nat}{xs:yL Pl}{A:yO Addr}{c:Nat}{k:IntKind}{i:Int}{y:Pl}(ok:Ok σ)(hu:P.underlying t=some (.slice e))(he:P.cellsOf e=s)
 (hi:(P.info? e).isSome=true) (hs:allSz s xs) (hr:xs≠[]->∃b o us,A=some ⟨b,o,none⟩/\repCs σ.w σ.stab xs us/\Vt σ.w σ.stab b o us) (h0:0<=i) (hy:xs[i.toNat]? =some y):
 ∃v,(Instr.indexAt t (.slice A xs.length c) (.int k i)).run P σ.w=.ok v σ.w/\yH σ (.elem y) v:=by
 have hlt:i.toNat < xs.length:=(yo.1 hy).1
 have hne:xs≠[]:=by
  grind
 obtain⟨b,o,us,rfl,h1,h2⟩:=hr hne;obtain⟨uy,h3,h4⟩:=Zrp hs h1 h2 hy;refine⟨.pointer (some ⟨b,o+i.toNat*s,none⟩), ?_, ?_⟩
 ·have hb:0<=i/\i < (xs.length:Int):=⟨h0,by omega⟩;simp[Instr.indexAt,asIntOf,run_underlying hu,hb,Yg hi,he,Addr.add_mk]
 ·rw[Zi (by rfl)];simp only[yG];grind
theorem ZkN{y:Pl}{v:yh}(h:yH σ (.elem y) v):∃b o us,v=.pointer (some ⟨b,o,none⟩)/\repC σ.w σ.stab y us/\Vt σ.w σ.stab b o us:=by
 rw[Zi (by rfl)] at h;simpa[yG] using h
theorem Zhq{id off:Nat}{yM:yL Nat}{v:yh}(h:yH σ (.ref id off yM) v):
 ∃b,σ.m[id]? =some (some b)/\(∃d st,σ.H[id]? =some (.var d st))/\v=.pointer (some ⟨b,off,none⟩):=by
 rw[Zi (by rfl)] at h;simpa[yG] using h
theorem Zit{id off s lo n:Nat}{yM:yL Nat}{v:yh}(h:yH σ (.view id off yM s lo n) v):
 ∃b c a,σ.m[id]? =some (some b)/\(∃d st,σ.H[id]? =some (.var d st))/\v=.slice (some a) n c/\n<=c/\c<=maxLen/\(0 < n->a=⟨b,off+lo*s,none⟩):=by
 rw[Zi (by rfl)] at h;simpa[yG] using h
theorem ZhX{id v s lo n:Nat}{u:yh}(h:yH σ (.rv id v s lo n) u):
 ∃A c,u=.slice A n c/\n<=c/\c<=maxLen/\(A=none->c=0)/\(0 < n->∃b o,A=some ⟨b,o,none⟩)/\rowAt σ id v s lo A c:=by
 rw[Zi (by rfl)] at h;simpa[yG] using h
theorem ZnG{id v off:Nat}{yM:yL Nat}{u:yh}(h:yH σ (.rref id v off yM) u):∃b o,u=.pointer (some ⟨b,o,none⟩)/\rowIs σ id v b o off:=by
 rw[Zi (by rfl)] at h;simpa[yG] using h
theorem ZvI{id v off b o:Nat}{yM:yL Nat}(h:rowIs σ id v b o off):yH σ (.rref id v off yM) (.pointer (some ⟨b,o,none⟩)):=by
 rw[Zi (by rfl)];simp only[yG];grind
theorem Zo2{id v b o off k:Nat}(h:rowIs σ id v b o off):rowIs σ id v b (o+k) (off+k):=by
 obtain⟨v',s,st,e,d,h1,h2,h3⟩:=h;exact⟨v',s,st,e,d,h1,h2,λhv=>⟨(h3 hv).1,by rw[(h3 hv).2]⟩⟩
theorem ZEj{id v s lo c b o:Nat}(h:rowAt σ id v s lo (some ⟨b,o,none⟩) c)(hc:0 < c):rowIs σ id v b o (lo*s):=by
 obtain⟨v',s',st,e,d,h1,h2,h3⟩:=h;refine⟨v',s',st,e,d,h1,h2,λhv=> ?_⟩
 all_goals grind
theorem Zug{id v s lo c l:Nat}{A:yO Addr}(h:rowAt σ id v s lo A c)(hl:l<=c):rowAt σ id v s (lo+l) (if c=l then A else A.map (·.add (l*s))) (c - l):=by
 obtain⟨v',s',st,e,d,h1,h2,h3⟩:=h;refine⟨v',s',st,e,d,h1,h2,λhv=> ?_⟩;obtain⟨h4,h5⟩:=h3 hv;refine⟨h4, ?_⟩;rcases h5 with⟨h6,rfl,h7⟩|⟨b,cur,h6,h7,h8,h9⟩
 ·grind
 ·refine .inr ⟨b,cur,h6,h7,by rw[h8];congr 1;omega,λhc=> ?_⟩;rw[yX (by omega),h9 (by omega)];simp[Addr.add_mk,yaz]
theorem ZEk{id v s lo n c l h:Nat}{A:yO Addr}(h2:n<=c)(h3:c<=maxLen)(h4:A=none->c=0)(h5:0 < c->∃b o,A=some ⟨b,o,none⟩)(h6:rowAt σ id v s lo A c)(hl:l<=h)(hh:h<=c):
 yH σ (.rv id v s (lo+l) (h - l)) (.slice (if c=l then A else A.map (·.add (l*s))) (h - l) (c - l)):=by
 rw[Zi (by rfl)];simp only[yG];refine⟨_,_,rfl,by omega,by omega,λhA=> ?_,λhp=> ?_,Zug h6 (by omega)⟩
 ·all_goals grind
 ·obtain⟨b,o,rfl⟩:=h5 (by omega);rw[yX (by omega)];exact⟨b,o+l*s,by simp[Addr.add_mk]⟩
theorem ZzH{f:yw}{cap:yL Dv}{v:yh}(h:yH σ (.fn f cap) v):∃fs cs,v=.func (.func (Zjg f)) fs cs/\(if f < big then fs else cs)= #[]/\repVs σ cap (fs++cs).toList:=by
 rw[Zi (by rfl)] at h;simpa[yG] using h
theorem Zxu{t:yb}{x ix:yn}(ok:Ok σ)(yK:RepT σ ts a)(ho:o.op=.indexAddr t x ix)(h:evN P o ts hs=some (C,d,hs'))(hc:AllP C):Wd P o a σ d σ.H:=by
 simp only[evN,ho] at h;have hx:=Zq (P:=P) yK t x;have hix:=Zq (P:=P) yK 0 ix
 have run:∀v,(Instr.indexAt t (a.eval x) (a.eval ix)).run P σ.w=.ok v σ.w->(execOp a.eval o).run P σ.w=.ok (.value v) σ.w:=λv hv=>by
  simp[execOp,ho,hv]
 split at h
 ·rename_i e nn s xs k i hu hdx hdi;rw[hdx] at hx;rw[hdi] at hix;split at h
  ·rename_i y hs'';split at h
   ·rename_i hk;simp only[yi,yP] at hk;cases h;obtain⟨h1,A,c,hv,h2,h3,h4,h5,h6⟩:=W8 hx;obtain⟨v,h7,h8⟩:=Zkc (k:=k) (c:=c) ok hu hk.1 hk.2 h1 h6 hc.1 hc.2.1;exact Zn ok (run v (by rw[hv,Yd hix];exact h7)) h8
   ·cases h
  ·cases h
 ·rename_i e id nn s xs k i hu hdx hdi;rw[hdx] at hx;rw[hdi] at hix;split at h
  ·rename_i y hs'';split at h
   ·rename_i hk;simp only[yi,yP] at hk;cases h;obtain⟨h1,A,c,hv,h2,h3,h4,h5,h6,_⟩:=ZbF hx;obtain⟨v,h7,h8⟩:=Zkc (k:=k) (c:=c) ok hu hk.1 hk.2 h1 h6 hc.1 hc.2.1;exact Zn ok (run v (by rw[hv,Yd hix];exact h7)) h8
   ·cases h
  ·cases h
 ·rename_i e id off yM s lo n k i hu hdx hdi;rw[hdx] at hx;rw[hdi] at hix;split at h
  ·rename_i hk;simp only[yi,yP] at hk;cases h;obtain⟨h0,h1,_⟩:=hc;obtain⟨b,c,aa,hm,hv,hx,h2,h3,h4⟩:=Zit hx;have e1:=h4 (by omega);subst e1;refine Zn (v:=.pointer (some ⟨b,off+(lo+i.toNat)*s,none⟩)) ok (run _ ?_) ?_
   ·rw[hx,Yd hix];have hb:0<=i/\i < (n:Int):=⟨h0,h1⟩;simp[Instr.indexAt,asIntOf,run_underlying hu,hb,Yg hk.2,hk.1,Addr.add_mk,yaz,ych]
   ·rw[Zi (by rfl)];simp only[yG];exact⟨b,hm,hv,rfl⟩
  ·cases h
 ·rename_i e id v s lo n k i hu hdx hdi;rw[hdx] at hx;rw[hdi] at hix;split at h
  ·rename_i hk;simp only[yi,yP] at hk;cases h;obtain⟨h0,h1,_⟩:=hc;obtain⟨A,c,hx,h2,h3,h4,h5,h6⟩:=ZhX hx;obtain⟨b,o',rfl⟩:=h5 (by omega);refine Zn (v:=.pointer (some ⟨b,o'+i.toNat*s,none⟩)) ok (run _ ?_) ?_
   ·rw[hx,Yd hix];have hb:0<=i/\i < (n:Int):=⟨h0,h1⟩;simp[Instr.indexAt,asIntOf,run_underlying hu,hb,Yg hk.2,hk.1,Addr.add_mk]
   ·rw[yaz];exact ZvI (Zo2 (ZEj h6 (by omega)))
  ·cases h
 ·rename_i n e id v off yM k i hu hdx hdi;rw[hdx] at hx;rw[hdi] at hix;split at h
  ·rename_i hk;cases h;obtain⟨h0,h1,_⟩:=hc;obtain⟨b,o',hx,h2⟩:=ZnG hx;refine Zn (v:=.pointer (some ⟨b,o'+i.toNat*P.cellsOf e,none⟩)) ok (run _ ?_) ?_
   ·rw[hx,Yd hix];have hb:0<=i/\i < (n:Int):=⟨h0,h1⟩;simp[Instr.indexAt,asIntOf,run_underlying hu,hb,Yg hk,Instr.sureAddr,Addr.add_mk]
   ·exact ZvI (Zo2 h2)
  ·cases h
 ·rename_i n e id off yM k i hu hdx hdi;rw[hdx] at hx;rw[hdi] at hix;split at h
  ·rename_i hk;cases h;obtain⟨h0,h1,_⟩:=hc;obtain⟨b,hm,hv,hx⟩:=Zhq hx;refine Zn (v:=.pointer (some ⟨b,off+i.toNat*P.cellsOf e,none⟩)) ok (run _ ?_) ?_
   ·rw[hx,Yd hix];have hb:0<=i/\i < (n:Int):=⟨h0,h1⟩;simp[Instr.indexAt,asIntOf,run_underlying hu,hb,Yg hk,Instr.sureAddr,Addr.add_mk]
   ·rw[Zi (by rfl)];simp only[yG];exact⟨b,hm,hv,rfl⟩
  ·cases h
 ·rename_i n e n' s xs k i hu hdx hdi;rw[hdx] at hx;rw[hdi] at hix;split at h
  ·rename_i y hs'';split at h
   ·rename_i hk;simp only[yi,yP] at hk;obtain⟨⟨rfl,hk⟩,hk2⟩:=hk;cases h;obtain⟨h0,h1,_⟩:=hc;obtain⟨b,off,us,hx,h2,h3⟩:=ZkN hx;simp only[repC] at h2;obtain⟨h4,h5,h6⟩:=h2;obtain⟨uy,h7,h8⟩:=Zrp h5 h6 h3 h1;have hlt:i.toNat < xs.length:=(yo.1 h1).1;refine Zn (v:=.pointer (some ⟨b,off+i.toNat*s,none⟩)) ok (run _ ?_) ?_
    ·rw[hx,Yd hix];have hb:0<=i/\i < (n:Int):=⟨h0,by omega⟩;simp[Instr.indexAt,asIntOf,run_underlying hu,hb,Yg hk2,hk,Instr.sureAddr,Addr.add_mk]
    ·rw[Zi (by rfl)];simp only[yG];exact⟨b,_,uy,rfl,h7,h8⟩
   ·cases h
  ·cases h
 ·cases h
theorem ZG9{t:yb}{x:yn}{lo hi:yO yn}(ok:Ok σ)(yK:RepT σ ts a)(ho:o.op=.slice t x lo hi none)(h:evN P o ts hs=some (C,d,hs'))(hc:AllP C):Wd P o a σ d σ.H:=by
 simp only[evN,ho] at h;have hx:=Zq (P:=P) yK t x
 have run:∀v,(Instr.sliceAt t (a.eval x) (lo.map a.eval) (hi.map a.eval) none).run P σ.w=.ok v σ.w->(execOp a.eval o).run P σ.w=.ok (.value v) σ.w:=λv hv=>by
  simp[execOp,ho,hv]
 split at h
 ·rename_i e nn s xs l r hu hdx hl hr;rw[hdx] at hx;split at h
  ·rename_i hk;simp only[yi,yP] at hk;cases h;obtain⟨h1,A,c,hv,h2,h3,h4,h5,h6⟩:=W8 hx;obtain⟨p,q,hb,h7,h8,rfl,rfl⟩:=Zbp (P:=P) (w:=σ.w) true xs.length c _ _ _ _ (Y7 yK hl) (Y7 yK hr) hc h2;obtain⟨k1,k2,k3,k4,k5,k6,k7⟩:=ZqY h1 h2 h3 h5 h6 h7 h8;refine Zn ok (run _ (by rw[hv];simp[Instr.sliceAt,Instr.slice,run_underlying hu,hb,Yg hk.2,hk.1];rfl)) ?_;rw[Zjk xs l r hc, <-k2];exact YM k1 (by rw[k2];exact k3) k4 (λb hb=>by rw[k5];exact h4 b hb) k6 k7
  ·cases h
 ·rename_i e id nn s xs l r hu hdx hl hr;rw[hdx] at hx;split at h
  ·rename_i hk;simp only[yi,yP] at hk;cases h;obtain⟨h1,A,c,hv,h2,h3,h4,h5,h6,_⟩:=ZbF hx;obtain⟨p,q,hb,h7,h8,rfl,rfl⟩:=Zbp (P:=P) (w:=σ.w) true xs.length c _ _ _ _ (Y7 yK hl) (Y7 yK hr) hc h2;obtain⟨k1,k2,k3,k4,k5,k6,k7⟩:=ZqY h1 h2 h3 h5 h6 h7 h8;refine Zn ok (run _ (by rw[hv];simp[Instr.sliceAt,Instr.slice,run_underlying hu,hb,Yg hk.2,hk.1];rfl)) ?_;rw[Zjk xs l r hc, <-k2];exact YM k1 (by rw[k2];exact k3) k4 (λb hb=>by rw[k5];exact h4 b hb) k6 k7
  ·cases h
 ·rename_i e id off yM s lo n l r hu hdx hl hr;rw[hdx] at hx;split at h
  ·rename_i hk;simp only[yi,yP] at hk;cases h;obtain⟨b,c,aa,hm,hv,hx,h2,h3,h4⟩:=Zit hx;obtain⟨p,q,hb,h7,h8,rfl,rfl⟩:=Zbp (P:=P) (w:=σ.w) true n c _ _ _ _ (Y7 yK hl) (Y7 yK hr) hc h2;refine Zn ok (run _ (by rw[hx];simp[Instr.sliceAt,Instr.slice,run_underlying hu,hb,Yg hk.2,hk.1];rfl)) ?_;rw[Zi (by rfl)];simp only[yG];by_cases hcl:c=(l.getD 0).toNat
   ·exact⟨b,c - (l.getD 0).toNat,aa,hm,hv,by rw[yW hcl],by omega,by omega,λh0=>absurd h0 (by omega)⟩
   ·refine⟨b,c - (l.getD 0).toNat,aa.add ((l.getD 0).toNat*s),hm,hv,by rw[yX hcl],by omega,by omega,λh0=> ?_⟩;rw[h4 (by omega),Addr.add_mk,yaz,ych]
  ·cases h
 ·rename_i e id v s lo n l r hu hdx hl hr;rw[hdx] at hx;split at h
  ·rename_i hs'';split at h
   ·rename_i hk;simp only[yi,yP] at hk;cases h;obtain⟨A,c,hx,h2,h3,h4,h5,h6⟩:=ZhX hx;obtain⟨p,q,hb,h7,h8,rfl,rfl⟩:=Zbp (P:=P) (w:=σ.w) true n c _ _ _ _ (Y7 yK hl) (Y7 yK hr) hc h2;refine Zn ok (run _ (by rw[hx];simp[Instr.sliceAt,Instr.slice,run_underlying hu,hb,Yg hk.2,hk.1];rfl)) ?_;by_cases hz:0 < (r.getD (n:Int)).toNat - (l.getD 0).toNat
    ·obtain⟨b,o',rfl⟩:=h5 (by omega);exact ZEk h2 h3 h4 (λ_=>⟨b,o',rfl⟩) h6 h7 (by omega)
    ·rw[Zi (by rfl)];simp only[yG];refine⟨_,_,rfl,by omega,by omega,λhA=> ?_,λhp=>absurd hp hz,Zug h6 (by omega)⟩;split at hA
     ·omega
     ·have hA':A=none:=by simpa using hA
      have:=h4 hA';omega
   ·cases h
  ·cases h
 ·rename_i n e n' s xs l r hu hdx hl hr;rw[hdx] at hx;split at h
  ·rename_i hk;simp only[yi,yP] at hk;obtain⟨⟨⟨rfl,hk⟩,hk2⟩,hm⟩:=hk;cases h;obtain⟨b,off,us,hx',h2,h3⟩:=ZkN hx;simp only[repC] at h2;obtain⟨h4,h5,h6⟩:=h2;subst h4;obtain⟨p,q,hb,h7,h8,rfl,rfl⟩:=Zbp (P:=P) (w:=σ.w) false xs.length xs.length _ _ _ _ (Y7 yK hl) (Y7 yK hr) hc (yl _);obtain⟨k1,k2,k3,k4,k5,k6,k7⟩:=ZqY (A:=some ⟨b,off,none⟩) h5 (yl _) hm (λhA=>by cases hA) (λ_=>⟨b,off,us,rfl,h6,h3⟩) h7 h8;refine Zn ok (run _ (by rw[hx'];simp[Instr.sliceAt,Instr.sureAddr,run_underlying hu,hb,Yg hk2,hk];rfl)) ?_;rw[Zjk xs l r hc, <-k2];have:=YM (σ:=σ) k1 (by rw[k2];exact k3) k4 (Zdy k5) k6 k7;rw[k2] at this ⊢;simpa[apply_ite] using this
  ·cases h
 ·rename_i n e id off yM l r hu hdx hl hr;rw[hdx] at hx;split at h
  ·rename_i hs'';split at h
   ·rename_i hk;simp only[yi,yP] at hk;obtain⟨hk,hm'⟩:=hk;cases h;obtain⟨b,hm,hv,hx⟩:=Zhq hx;obtain⟨p,q,hb,h7,h8,rfl,rfl⟩:=Zbp (P:=P) (w:=σ.w) false n n _ _ _ _ (Y7 yK hl) (Y7 yK hr) hc (yl _);refine Zn ok (run _ (by rw[hx];simp[Instr.sliceAt,Instr.sureAddr,run_underlying hu,hb,Yg hk];rfl)) ?_;rw[Zi (by rfl)];simp only[yG];refine⟨b,_,_,hm,hv,rfl,by omega,by omega,λh0=> ?_⟩;rw[yX (by omega),Addr.add_mk]
   ·cases h
  ·cases h
 ·cases h
theorem Zxv{P:yg}{w:yz}(isSlice:Bool)(len cap:Nat){k1 k2 k3:IntKind}{l h m:Int}(h0:0<=l)(h1:l<=h)(h2:h<=m)(h3:m<=(cap:Int)):
 (Instr.sliceBounds isSlice len cap (some (.int k1 l)) (some (.int k2 h)) (some (.int k3 m))).run P w=.ok (l.toNat,h.toNat,m.toNat) w:=by
 have b1:0<=m/\m<=(cap:Int):=⟨by omega,h3⟩;have b2:0<=h/\h<=(m.toNat:Int):=⟨by omega,by omega⟩;have b3:0<=l/\l<=(h.toNat:Int):=⟨h0,by omega⟩;simp[Instr.sliceBounds,Instr.sliceBound,asIntOf,b1,b2,b3];grind
theorem ZEl{t:yb}{x:yn}{lo hi:yO yn}{mx:yn}(ok:Ok σ)(yK:RepT σ ts a)(ho:o.op=.slice t x lo hi (some mx))(h:evN P o ts hs=some (C,d,hs'))(hc:AllP C):Wd P o a σ d σ.H:=by
 simp only[evN,ho] at h;have hx:=Zq (P:=P) yK t x;split at h
 ·rename_i e id v s l0 n l r m hu hdx hl hr hm;rw[hdx] at hx;split at h
  ·rename_i hi';cases h;obtain⟨c1,c2,c3,c4,_⟩:=hc;obtain⟨A,c,hx,h2,h3,_⟩:=ZhX hx;rcases Y7 yK hl with⟨_,q⟩|⟨k1,i1,e1,q1⟩
   ·cases q
   rcases Y7 yK hr with⟨_,q⟩|⟨k2,i2,e2,q2⟩
   ·cases q
   rcases Y7 yK hm with⟨_,q⟩|⟨k3,i3,e3,q3⟩
   ·cases q
   cases q1;cases q2;cases q3;have hb:=Zxv (P:=P) (w:=σ.w) true n c (k1:=k1) (k2:=k2) (k3:=k3) c1 c2 c3 (by omega:m<=(c:Int))
   have zO:∃u,(Instr.sliceAt t (a.eval x) (lo.map a.eval) (hi.map a.eval) (some (a.eval mx))).run P σ.w=.ok u σ.w:=by
    have e3':a.eval mx=.int k3 m:=by simpa using e3
    rw[hx,e1,e2,e3'];exact⟨_,by simp[Instr.sliceAt,Instr.slice,run_underlying hu,hb,Yg hi'];rfl⟩
   obtain⟨u,zO⟩:=zO;exact Zn (v:=u) ok (by simp[execOp,ho,zO]) XU
  ·cases h
 ·cases h
end
end Go.Ev
end
section
namespace Go.Ev
theorem ZnH(off:Nat):∀(vs:yL yh)(k:Nat)(cs:Array yh),off+k+vs.length<=cs.size->
 ((vs.zipIdx k).foldl (λcs q=>cs.setIfInBounds (off+q.2) q.1) cs).toList=cs.toList.take (off+k)++vs++cs.toList.drop (off+k+vs.length)
 |[],k,cs,_=>by simp
 |v::vs,k,cs,h=>by
  simp only[List.zipIdx_cons,List.foldl_cons,yao] at h ⊢;rw[ZnH off vs (k+1) _ (by simp;omega)];apply ybk;intro j;have hl:cs.toList.length=cs.size:=ybo;simp only[Array.toList_setIfInBounds,List.getElem?_append,yj,yv,yan,hl,ycc,ybq,List.getElem?_drop,yao];by_cases h1:j < off+k
  ·have e1:j < min (off+(k+1)) cs.size:=by omega
   have e2:j < min (off+k) cs.size:=by omega
   have e3:¬(off+k=j):=by omega
   have e4:j < off+(k+1):=by omega
   have e5:j < min (off+(k+1)) cs.size+vs.length:=by omega
   have e6:j < min (off+k) cs.size+(vs.length+1):=by omega
   simp[e1,e2,e3,e4,e5,e6,h1]
  ·by_cases h2:j=off+k
   ·subst h2;have e1:off+k < min (off+(k+1)) cs.size:=by omega
    have e2:¬(off+k < min (off+k) cs.size):=by omega
    have e3:min (off+k) cs.size=off+k:=by omega
    have e4:off+k < min (off+(k+1)) cs.size+vs.length:=by omega
    have e5:off+k < cs.size:=by omega
    have e6:off+k < off+(k+1):=by omega
    simp[e1,e3,e4,e5,e6]
   ·by_cases h3:j < off+(k+1)+vs.length
    ·have e1:¬(j < min (off+(k+1)) cs.size):=by omega
     have e2:¬(j < min (off+k) cs.size):=by omega
     have e3:min (off+k) cs.size=off+k:=by omega
     have e4:min (off+(k+1)) cs.size=off+(k+1):=by omega
     have e5:j < off+k+(vs.length+1):=by omega
     have e6:j < off+(k+1)+vs.length:=by omega
     have e7:j - (off+k)=(j - (off+(k+1)))+1:=by omega
     have e8:¬(j < off+(k+1)):=by omega
     simp[e3,e4,e5,e6,h1,e7,e8]
    ·have e1:min (off+k) cs.size=off+k:=by omega
     have e2:min (off+(k+1)) cs.size=off+(k+1):=by omega
     have e3:¬(j < off+(k+1)+vs.length):=by omega
     have e4:¬(j < off+k+(vs.length+1)):=by omega
     have e5:¬(off+k=off+(k+1)+vs.length+(j - (off+(k+1)+vs.length))):=by omega
     have e6:off+(k+1)+vs.length+(j - (off+(k+1)+vs.length))=off+k+(vs.length+1)+(j - (off+k+(vs.length+1))):=by omega
     simp only[e1,e2,e3,e4,if_false,e6];rw[yX (by omega)]
theorem ZEm(off:Nat)(vs cs:Array yh)(h:off+vs.size<=cs.size):
 (vs.zipIdx.foldl (λcs(q:yh×Nat)=>cs.setIfInBounds (off+q.2) q.1) cs).toList=cs.toList.take off++vs.toList++cs.toList.drop (off+vs.size):=by
 have:=ZnH off vs.toList 0 cs (by simpa using h);simp only[ycf,ybo] at this;rw[<-this, <-Array.foldl_toList,Array.toList_zipIdx]
theorem ZdB:∀(ds:yL Dv),Dv.sizes ds=(ds.map Dv.size).sum
 |[]=>rfl
 |d::ds=>by simp[Dv.sizes,ZdB ds]
theorem Zge:∀(ds:yL Pl),Pl.sizes ds=(ds.map Pl.size).sum
 |[]=>rfl
 |d::ds=>by simp[Pl.sizes,Zge ds]
theorem ZpQ{σ:Sg}{d:Dv}{v:yh}(hd:d.isAgg=true\/v.oneCell'=true)(h:yH σ d v):yG σ d v.cells.toList:=by
 cases ha:d.isAgg with
 |true=>
  obtain⟨cs,rfl,h1⟩:=(Yq ha).1 h
  exact h1
 |false=>
  have h1:=(Zi ha).1 h
  have:v.cells= #[v]:=by
   rcases hd with hd|hd
   ·rw[ha] at hd;cases hd
   ·cases v <;> first|rfl|(simp[Value.oneCell'] at hd)
  rw[this];exact h1
mutual
theorem ZlW{σ:Sg}:∀(d:Dv)(vs:yL yh),d.solid=true->yG σ d vs->∀u,u∈vs->u.oneCell'=true
 |.p x,vs,_,h,u,hu=>by simp only[yG] at h;exact Zrn x vs h u hu
 |.elem _,_,_,h,u,hu=>by simp only[yG] at h;obtain⟨b,o,us,rfl,_⟩:=h;cases ybc.1 hu;rfl
 |.ref _ _ _,_,_,h,u,hu=>by simp only[yG] at h;obtain⟨b,_,_,rfl⟩:=h;cases ybc.1 hu;rfl
 |.own _ _ _ _,_,_,h,u,hu=>by simp only[yG] at h;obtain⟨_,A,c,rfl,_⟩:=h;cases ybc.1 hu;rfl
 |.view _ _ _ _ _ _,_,_,h,u,hu=>by simp only[yG] at h;obtain⟨b,c,a,_,_,rfl,_⟩:=h;cases ybc.1 hu;rfl
 |.agg xs,vs,hs,h,u,hu=>by simp only[yG] at h;simp only[Dv.solid] at hs;exact solids_one xs vs hs h u hu
 |.arr n s xs,vs,hs,h,u,hu=>by simp only[yG] at h;simp only[Dv.solid] at hs;exact solids_one xs vs hs h.2.2 u hu
 |.fn _ _,_,_,h,u,hu=>by simp only[yG] at h;obtain⟨fs,cs,rfl,_⟩:=h;cases ybc.1 hu;rfl
 |.iface _ _,_,_,h,u,hu=>by simp only[yG] at h;obtain⟨cs,rfl,_⟩:=h;cases ybc.1 hu;rfl
 |.tup _,_,hs,_,_,_=>by simp[Dv.solid] at hs
 |.mp _,_,_,h,u,hu=>by simp only[yG] at h;obtain⟨b,_,_,rfl⟩:=h;cases ybc.1 hu;rfl
 |.rv _ _ _ _ _,_,_,h,u,hu=>by simp only[yG] at h;obtain⟨A,c,rfl,_⟩:=h;cases ybc.1 hu;rfl
 |.rref _ _ _ _,_,_,h,u,hu=>by simp only[yG] at h;obtain⟨b,o,rfl,_⟩:=h;cases ybc.1 hu;rfl
 |.junk,_,hs,_,_,_=>by simp[Dv.solid] at hs
theorem solids_one{σ:Sg}:∀(ds:yL Dv)(vs:yL yh),Dv.solids ds=true->repDs σ ds vs->∀u,u∈vs->u.oneCell'=true
 |[],_,_,h,u,hu=>by simp only[repDs] at h;subst h;cases hu
 |x::xs,vs,hs,h,u,hu=>by
  simp only[Dv.solids,yi] at hs;simp only[repDs] at h;obtain⟨us,us',rfl,h1,h2⟩:=h;rcases ycp.1 hu with h3|h3
  ·exact ZlW x us hs.1 h1 u h3
  ·exact solids_one xs us' hs.2 h2 u h3
end
theorem ZbG{σ:Sg}{d:Dv}{v:yh}(hs:d.solid=true)(h:yH σ d v):yG σ d v.cells.toList:=by
 cases ha:d.isAgg with
 |true=>exact ZpQ (.inl ha) h
 |false=>
  have h1:=(Zi ha).1 h;exact ZpQ (.inr (ZlW d _ hs h1 v (by simp))) h
theorem Zjl{σ:Sg}{place:Nat->yO (Nat×Nat)}{sz:yL Nat}(hp:∀i s,sz[i]? =some s->place i=some ((sz.take i).sum,s)):
 ∀(parts:yL (Nat×Dv×yh))(ds ds':yL Dv)(cells:Array yh),ds.map Dv.size=sz->repDs σ ds cells.toList->(∀q,q∈parts->q.2.1.solid=true/\yH σ q.2.1 q.2.2)->
  Ze2 ds (parts.map λq=>(q.1,q.2.1))=some ds'->∃cells',Instr.fill place cells (parts.map λq=>(q.1,q.2.2))=some cells'/\repDs σ ds' cells'.toList/\ds'.map Dv.size=sz
 |[],ds,ds',cells,hsz,hr,_,h=>by
  simp only[List.map_nil,Ze2,yq] at h;subst h
  exact⟨cells,rfl,hr,hsz⟩
 |(i,d,v)::yJ,ds,ds',cells,hsz,hr,hq,h=>by
  simp only[yah,Ze2,yf] at h;obtain⟨ds1,h1,h2⟩:=h;unfold ZBd at h1;split at h1
  ·rename_i old hold;split at h1
   ·rename_i hsame;cases h1;obtain⟨a,b,c,e,ha,hb,hbl,h3,h4⟩:=Zgc hr hold;obtain⟨hd1,hd2⟩:=hq (i,d,v) (ybd ..);have hcells:=ZbG hd1 hd2;have hvl:v.cells.toList.length=d.size:=W6 _ _ hcells;have hi:i < ds.length:=(yo.1 hold).1;have hszi:sz[i]? =some d.size:=by rw[<-hsz,yal,hold];simp[hsame]
    have hpl:=hp i _ hszi;have hoff:(sz.take i).sum=a.length:=by rw[ha,ZdB, <-hsz,List.map_take]
    have hcs:cells.size=a.length+(b.length+c.length):=by
     rw[<-ybo,e];simp
    have hbl':b.length=d.size:=by rw[hbl,hsame]
    have hvs:v.cells.size=d.size:=by rw[<-hvl,ybo]
    have hrest:=Zjl hp yJ (ds.set i d) ds' (v.cells.zipIdx.foldl (λcs(q:yh×Nat)=>cs.setIfInBounds (a.length+q.2) q.1) cells) (by
     rw[<-hsz,List.map_set,hsame.symm];apply ybk;intro j;rw[ybq];split
     ·rename_i hij;subst hij;rw[yal,hold];simp[hi]
     ·rfl) (by
     rw[ZEm _ _ _ (by omega),e];have e1:(a++(b++c)).take a.length=a:=by simp
     have e2:(a++(b++c)).drop (a.length+v.cells.size)=c:=by
      rw[hvs, <-hbl', <-yx, <-yj];simp
     rw[e1,e2,yx]
     have e3:ds.set i d=ds.take i++(d::ds.drop (i+1)):=by
      rw[List.set_eq_take_append_cons_drop,yW hi]
     rw[e3];refine Zb5 h3 ?_;simp only[repDs];exact⟨_,_,rfl,hcells,h4⟩) (λq hq'=>hq q (ybh _ hq')) h2
    obtain⟨cells',k1,k2,k3⟩:=hrest;refine⟨cells', ?_,k2,k3⟩;simp only[yah,Instr.fill,hpl,hoff];rw[yX (by simp;omega)];exact k1
   ·cases h1
  ·cases h1
theorem Zm2{σ:Sg}:∀{ds:yL Dv}{xs:yL Pl}{us:yL yh},Zf7 ds=some xs->repDs σ ds us->repCs σ.w σ.stab xs us
 |[],xs,us,h,hr=>by simp only[Zf7,yq] at h;subst h;simpa[repDs,repCs] using hr
 |d::ds,xs,us,h,hr=>by
  simp only[Zf7] at h;split at h
  ·rename_i x ys h1 h2;cases h;simp only[repDs] at hr;obtain⟨a,b,rfl,h3,h4⟩:=hr;simp only[repCs];refine⟨a,b,rfl, ?_,Zm2 h2 h4⟩;unfold Dv.plain at h1;split at h1
   ·cases h1;simpa[yG] using h3
   ·cases h1;simp only[yG] at h3;obtain⟨k1,A,c,k2,k3,k4,k5,k6,k7,_⟩:=h3;simp only[repC];exact⟨k1,A,c,k2,k3,k4,k5,k6,k7⟩
   ·cases h1
  ·cases h
theorem ZpR:∀{ds:yL Dv}{xs:yL Pl},Zf7 ds=some xs->xs.map Pl.size=ds.map Dv.size
 |[],xs,h=>by simp only[Zf7,yq] at h;subst h;rfl
 |d::ds,xs,h=>by
  simp only[Zf7] at h;split at h
  ·rename_i x ys h1 h2;cases h;simp only[yah,ZpR h2];congr 1;unfold Dv.plain at h1;split at h1 <;> first|(cases h1;rfl)|cases h1
  ·cases h
mutual
theorem Zo3:∀(d:Dv)(x:Pl),d.flat=some x->x.size=d.size
 |.p y,x,h=>by rw[Dv.flat] at h;cases h;rfl
 |.own id nn s xs,x,h=>by rw[Dv.flat] at h;cases h;rfl
 |.agg ds,x,h=>by
  rw[Dv.flat] at h
  cases h2:Dv.flats ds with
  |none=>rw[h2] at h;cases h
  |some xs=>
   rw[h2] at h;cases h;rw[Pl.size,Dv.size]
   exact flats_sizes ds xs h2
 |.elem _,x,h=>by simp[Dv.flat] at h
 |.ref _ _ _,x,h=>by simp[Dv.flat] at h
 |.view _ _ _ _ _ _,x,h=>by simp[Dv.flat] at h
 |.arr _ _ _,x,h=>by simp[Dv.flat] at h
 |.fn _ _,x,h=>by simp[Dv.flat] at h
 |.iface _ _,x,h=>by simp[Dv.flat] at h
 |.tup _,x,h=>by simp[Dv.flat] at h
 |.mp _,x,h=>by simp[Dv.flat] at h
 |.rv _ _ _ _ _,x,h=>by simp[Dv.flat] at h
 |.rref _ _ _ _,x,h=>by simp[Dv.flat] at h
 |.junk,x,h=>by simp[Dv.flat] at h
theorem flats_sizes:∀(ds:yL Dv)(xs:yL Pl),Dv.flats ds=some xs->Pl.sizes xs=Dv.sizes ds
 |[],xs,h=>by rw[Dv.flats] at h;cases h;rfl
 |d::ds,xs,h=>by
  rw[Dv.flats] at h;split at h
  ·rename_i x ys h1 h2;cases h;rw[Pl.sizes,Dv.sizes,Zo3 d x h1,flats_sizes ds ys h2]
  ·cases h
end
theorem Zrv:∀{ds:yL Dv}{xs:yL Pl},Dv.flats ds=some xs->xs.map Pl.size=ds.map Dv.size
 |[],xs,h=>by rw[Dv.flats] at h;cases h;rfl
 |d::ds,xs,h=>by
  rw[Dv.flats] at h;split at h
  ·rename_i x ys h1 h2;cases h;simp only[yah,Zrv h2,Zo3 d x h1]
  ·cases h
mutual
theorem Zrw:∀(d:Dv)(x:Pl),d.flat=some x->d.solid=true
 |.p y,x,h=>rfl
 |.own id nn s xs,x,h=>rfl
 |.agg ds,x,h=>by
  rw[Dv.flat] at h
  cases h2:Dv.flats ds with
  |none=>rw[h2] at h;cases h
  |some xs=>rw[Dv.solid];exact flats_solids ds xs h2
 |.elem _,x,h=>by simp[Dv.flat] at h
 |.ref _ _ _,x,h=>by simp[Dv.flat] at h
 |.view _ _ _ _ _ _,x,h=>by simp[Dv.flat] at h
 |.arr _ _ _,x,h=>by simp[Dv.flat] at h
 |.fn _ _,x,h=>by simp[Dv.flat] at h
 |.iface _ _,x,h=>by simp[Dv.flat] at h
 |.tup _,x,h=>by simp[Dv.flat] at h
 |.mp _,x,h=>by simp[Dv.flat] at h
 |.rv _ _ _ _ _,x,h=>by simp[Dv.flat] at h
 |.rref _ _ _ _,x,h=>by simp[Dv.flat] at h
 |.junk,x,h=>by simp[Dv.flat] at h
theorem flats_solids:∀(ds:yL Dv)(xs:yL Pl),Dv.flats ds=some xs->Dv.solids ds=true
 |[],xs,h=>rfl
 |d::ds,xs,h=>by
  rw[Dv.flats] at h;split at h
  ·rename_i x ys h1 h2;rw[Dv.solids,Zrw d x h1,flats_solids ds ys h2];rfl
  ·cases h
end
theorem ZpS:∀{ds:yL Dv}{xs:yL Pl},Dv.flats ds=some xs->∀d,d∈ds->d.solid=true
 |[],_,_,d,hd=>by cases hd
 |x::ds,xs,h,d,hd=>by
  rw[Dv.flats] at h;split at h
  ·rename_i y ys h1 h2
   cases hd with
   |head=>exact Zrw _ _ h1
   |tail _ hd=>exact ZpS h2 d hd
  ·cases h
theorem ZCN{σ:Sg}{ds:yL Dv}{xs:yL Pl}{us:yL yh}(h:Dv.flats ds=some xs)(hr:repDs σ ds us):repCs σ.w σ.stab xs us:=flats_repD ds xs us h hr
theorem ZCO{σ:Sg}{ds:yL Dv}{cs:Array yh}(hr:repDs σ ds cs.toList):yH σ (Zxo ds) (.agg cs):=by
 unfold Zxo;split
 ·rename_i xs h;rw[Yq rfl];exact⟨cs,rfl,by simp only[yG,repC];exact Zm2 h hr⟩
 ·rw[Yq rfl];exact⟨cs,rfl,by simp only[yG];exact hr⟩
theorem Zuh{P:yg}{σ:Sg}{t:yb}{d:Dv}(h:zeroD P t=d)(hj:d≠ .junk):∃i v,P.info? t=some i/\i.zero=some v/\yH σ d v:=by
 unfold zeroD at h;split at h
 ·rename_i i hi;split at h
  ·rename_i v hv;exact⟨i,v,hi,hv,by rw[<-h];exact Zaa⟩
  ·exact absurd h.symm hj
 ·exact absurd h.symm hj
theorem Zui{P:yg}:∀(fs:yL Field),(∀f,f∈fs->(P.info? f.type).isSome=true)->
 fs.mapM (λf=>(P.info? f.type).map λi=>(f.offset,i.size))=some (fs.map λf=>(f.offset,P.cellsOf f.type))
 |[],_=>by simp
 |f::fs,h=>by
  have h1:=h f (ybd ..)
  cases hi:P.info? f.type with
  |none=>simp[hi] at h1
  |some i=>
   simp[List.mapM_cons,hi,Zui fs (λg hg=>h g (ybh _ hg)),Program.cellsOf]
section
variable{P:yg}{o:ym}{a:Act}{σ:Sg}{ts:yL Dv}{hs hs':yL Hint}{C:yL Prop}{d:Dv}
theorem Zm3(yK:RepT σ ts a)(f:Nat->yb)(parts:yL (Nat×yn))(hsol:Zf8 (Zdz P ts f parts)=true):
 ∃qs:yL (Nat×Dv×yh),(qs.map λq=>(q.1,q.2.1))=Zdz P ts f parts/\(qs.map λq=>(q.1,q.2.2))=parts.map (λq=>(q.1,a.eval q.2))/\(∀q,q∈qs->q.2.1.solid=true/\yH σ q.2.1 q.2.2):=by
 refine⟨parts.map λq=>(q.1,argD P ts (f q.1) q.2,a.eval q.2),by simp[Zdz],by simp,λq hq=> ?_⟩;obtain⟨x,hx,rfl⟩:=ycb.1 hq;refine⟨?_,Zq yK _ _⟩;simp only[Zf8,Zdz,List.all_map,ybs] at hsol;exact hsol x hx
theorem Zgf(n s i:Nat)(h:i<=n):((yac n s).take i).sum=i*s:=by
 rw[List.take_replicate,ybg h,List.sum_replicate_nat]
theorem ZHa{t:yb}{parts:Array (Nat×yn)}(ok:Ok σ)(yK:RepT σ ts a)(ho:o.op=.build t parts)(h:evN P o ts hs=some (C,d,hs')):Wd P o a σ d σ.H:=by
 simp only[evN,ho] at h
 have run:∀cells,P.built t (parts.map λq=>(q.1,a.eval q.2)).toList=some cells->(execOp a.eval o).run P σ.w=.ok (.value (.agg cells)) σ.w:=λcells hv=>by
  have:=run_build (P:=P) σ.w t (parts.map λq=>(q.1,a.eval q.2)) cells hv;simp[execOp,ho,this]
 split at h
 ·rename_i fs zs hu hz;split at h
  ·rename_i hk;simp only[yi,yT] at hk;obtain⟨⟨hsol,zB⟩,zL⟩:=hk;simp only[yu,yab] at h;obtain⟨ds,hset,rfl,rfl,rfl⟩:=h;obtain⟨it,z,hit,hitz,hzr0⟩:=Zuh (σ:=σ) hz (by simp);obtain⟨cs,rfl,hzr⟩:=(Yq rfl).1 hzr0;simp only[yG,repC] at hzr
   have hf:∀i,i < fs.size->∃f z,fs[i]? =some f/\zs[i]? =some z/\f.offset=Pl.sizes (zs.take i)/\P.cellsOf f.type=z.size/\(P.info? f.type).isSome=true:=by
    intro i hi;have hi':i < zs.length:=by omega
    have h1:=ybs.1 zL i (List.mem_range.2 hi');unfold Zhn at h1;have hzi:zs.getD i default=zs[i]:=by simp[List.getD,hi']
    rw[hzi] at h1;have hfi:fs[i]? =some fs[i]:=Array.getElem?_eq_getElem hi;rw[hfi] at h1;simp only[yi,yT] at h1;obtain⟨⟨⟨⟨⟨h2,h3⟩,h4⟩,_⟩,_⟩,_⟩:=h1;exact⟨fs[i],zs[i],hfi,yad hi',h2,h3,h4⟩
   have hmap:=Zui (P:=P) fs.toList (λf hf'=>by
    obtain⟨i,hi,rfl⟩:=List.getElem_of_mem hf';obtain⟨f,z,h1,_,_,_,h2⟩:=hf i (by simpa using hi)
    have:fs.toList[i]=f:=by
     have:=(Array.getElem?_eq_some_iff.1 h1).2;simpa using this
    rw[this];exact h2)
   obtain⟨qs,hq1,hq2,hq3⟩:=Zm3 (P:=P) yK (ZkL P t) parts.toList hsol;rw[<-hq1] at hset
   obtain⟨cells',hfill,hr,_⟩:=Zjl (σ:=σ) (place:=((fs.toList.map λf=>(f.offset,P.cellsOf f.type)).toArray[·]?)) (sz:=zs.map Pl.size) (by
    intro i s hi;rw[yal] at hi;obtain⟨z,hz1,hz2⟩:=yu.1 hi;have hi':i < zs.length:=(yo.1 hz1).1;obtain⟨f,z',h1,h2,h3,h4,_⟩:=hf i (by omega);rw[hz1] at h2;cases h2;have:fs.toList[i]? =some f:=by simpa using h1
    simp only[List.getElem?_toArray,yal,this,Option.map_some,h3,h4,hz2,Zge,List.map_take]) qs (zs.map .p) ds cs (by simp[Dv.size,Function.comp_def]) (Zho.2 hzr) hq3 hset
   have hb:P.built t (parts.map λq=>(q.1,a.eval q.2)).toList=some cells':=by
    unfold Program.built;rw[hit,hu];simp only[hitz,hmap,Value.cells];rw[Array.toList_map, <-hq2];exact hfill
   exact Zn ok (run _ hb) (ZCO hr)
  ·cases h
 ·rename_i n e n' s zs hu hz;split at h
  ·rename_i hk;simp only[yi,yP] at hk;obtain⟨⟨hsol,hse⟩,hie⟩:=hk;simp only[yf] at h;obtain⟨ds,hset,h⟩:=h;obtain⟨it,z,hit,hitz,hzr0⟩:=Zuh (σ:=σ) hz (by simp);obtain⟨cs,rfl,hzr⟩:=(Yq rfl).1 hzr0;simp only[yG,repC] at hzr;obtain⟨hzl,hzs,hzr⟩:=hzr;obtain⟨qs,hq1,hq2,hq3⟩:=Zm3 (P:=P) yK (ZkL P t) parts.toList hsol;rw[<-hq1] at hset
   have hszs:(zs.map Dv.p).map Dv.size=yac n' s:=by
    rw[<-hzl];apply ybk;intro j;simp only[yal,List.getElem?_replicate]
    cases hj:zs[j]? with
    |none=>
     have:=List.getElem?_eq_none_iff.1 hj
     simp;omega
    |some x=>
     have h1:=(yo.1 hj).1;simp[h1,Dv.size,hzs x (List.mem_of_getElem? hj)]
   obtain⟨cells',hfill,hr,hsz'⟩:=Zjl (σ:=σ) (place:=λi=>some (i*s,s)) (sz:=yac n' s) (by
    intro i s' hi;simp only[List.getElem?_replicate] at hi;split at hi
    ·cases hi;rw[Zgf _ _ _ (by omega)]
    ·cases hi) qs (zs.map .p) ds cs hszs (Zho.2 hzr) hq3 hset
   have hlen':ds.length=n':=by
    have:=congrArg List.length hsz';simpa using this
   have hall':∀x,x∈ds->x.size=s:=by
    intro x hx;have:x.size∈ds.map Dv.size:=List.mem_map_of_mem hx;rw[hsz'] at this;exact List.eq_of_mem_replicate this
   have hb:P.built t (parts.map λq=>(q.1,a.eval q.2)).toList=some cells':=by
    unfold Program.built;rw[hit,hu]
    cases hie':P.info? e with
    |none=>simp[hie'] at hie
    |some ie=>
     have:ie.size=s:=by rw[<-hse];simp[Program.cellsOf,hie']
     simp only[hitz,hie',Value.cells,this];rw[Array.toList_map, <-hq2];exact hfill
   split at h
   ·rename_i xs hxs;cases h;refine Zn ok (run _ hb) ?_;rw[Yq rfl];have hps:=ZpR hxs
    refine⟨cells',rfl,by
     simp only[yG,repC];refine⟨?_, ?_,Zm2 hxs hr⟩
     ·have:=congrArg List.length hps;simp only[yaa] at this;rw[this,hlen']
     ·intro x hx;have:x.size∈xs.map Pl.size:=List.mem_map_of_mem hx;rw[hps,hsz'] at this;exact List.eq_of_mem_replicate this⟩
   ·cases h;refine Zn ok (run _ hb) ?_;rw[Yq rfl];exact⟨cells',rfl,by simp only[yG];exact⟨hlen',hall',hr⟩⟩
  ·cases h
 ·cases h
end
theorem Zrx(s:Nat):∀(new pre post:yL Dv),post.length=new.length->(∀x,x∈post->x.size=s)->(∀x,x∈new->x.size=s)->
 Ze2 (pre++post) ((List.range' pre.length new.length).zip new)=some (pre++new)
 |[],pre,post,hl,_,_=>by
  have:post=[]:=ybn (by simpa using hl);subst this
  simp[Ze2]
 |d::new,pre,[],hl,_,_=>by simp at hl
 |d::new,pre,q::post,hl,h1,h2=>by
  simp only[yao,List.range'_succ,List.zip_cons_cons,Ze2];have e:(pre++q::post)[pre.length]? =some q:=by simp
  have hs:q.size=d.size:=by rw[h1 q (ybd ..),h2 d (ybd ..)]
  have e2:(pre++q::post).set pre.length d=(pre++[d])++post:=by simp
  simp only[ZBd,e,hs,if_true,Option.bind_some,e2];have:=Zrx s new (pre++[d]) post (by simpa using hl) (λx hx=>h1 x (ybh _ hx)) (λx hx=>h2 x (ybh _ hx));simp only[yj,yao,List.length_nil,yay,yx,List.singleton_append] at this ⊢;exact this
theorem ZEn{α β γ:Type}(f:α->β)(g:α->γ):∀(l:yL α),l.map (λq=>(f q,g q))=(l.map f).zip (l.map g)
 |[]=>rfl
 |x::l=>by simp[ZEn f g l]
theorem Zuj{σ:Sg}:∀(us:yL yh),repDs σ (yac us.length .junk) us
 |[]=>by simp[repDs]
 |u::us=>by
  simp only[yao,List.replicate_succ,repDs];exact⟨[u],us,rfl,by simp[yG],Zuj us⟩
def Zuk(s:Nat):Dv:=.agg (yac s .junk)
theorem Zry(s:Nat):(Zuk s).size=s:=by
 show Dv.sizes (yac s .junk)=s;rw[ZdB,List.map_replicate,List.sum_replicate_nat];simp[Dv.size]
theorem ZCP{σ:Sg}{s:Nat}{us:yL yh}(h:us.length=s):yG σ (Zuk s) us:=by
 subst h;show yG σ (.agg (yac us.length .junk)) us;simp only[yG];exact Zuj us
theorem Zrz{σ:Sg}{s:Nat}:∀(n:Nat)(us:yL yh),us.length=n*s->repDs σ (yac n (Zuk s)) us
 |0,us,h=>by
  have:us=[]:=ybn (by simpa using h);subst this
  simp[repDs]
 |n+1,us,h=>by
  rw[yaz,Nat.one_mul] at h;simp only[List.replicate_succ,repDs];exact⟨us.take s,us.drop s,(ybl s us).symm,ZCP (by rw[yv];omega),Zrz n _ (by rw[List.length_drop];omega)⟩
section
variable{P:yg}{o:ym}{a:Act}{σ:Sg}{ts:yL Dv}{hs hs':yL Hint}{C:yL Prop}{d:Dv}
theorem ZCQ(yK:RepT σ ts a){e:yb}{s len:Nat}{parts:yL (Nat×yn)}{xs:yL Pl}(h:WL P ts e s len parts=some xs)(Z:Array yh)(hZ:Z.size=len*s):
 ∃cells:Array yh,Instr.fill (λi=>some (i*s,s)) Z (parts.map λq=>(q.1,a.eval q.2))=some cells/\repCs σ.w σ.stab xs cells.toList/\xs.length=len/\allSz s xs:=by
 unfold WL at h;split at h
 ·rename_i hr;have hr':parts.map (·.1)=yp len:=by simpa using hr
  split at h
  ·rename_i xs' hp;split at h
   ·rename_i zL;cases h
    have hsz:∀x,x∈xs->x.size=s:=by
     intro x hx;have:=ybs.1 zL x hx;simpa using this
    have hps:=Zrv hp
    have hdl:(parts.map λq=>argD P ts e q.2).length=len:=by
     have:=congrArg List.length hr';simpa using this
    have hds:∀x,x∈(parts.map λq=>argD P ts e q.2)->x.size=s:=by
     intro x hx;have h1:x.size∈(parts.map λq=>argD P ts e q.2).map Dv.size:=List.mem_map_of_mem hx;rw[<-hps] at h1;obtain⟨y,hy,he⟩:=ycb.1 h1;rw[<-he];exact hsz y hy
    have hxl:xs.length=len:=by
     have:=congrArg List.length hps;simp only[yaa] at this;rw[this];simpa using hdl
    obtain⟨qs,hq1,hq2,hq3⟩:=Zm3 (P:=P) yK (λ_=>e) parts (by
     simp only[Zf8,Zdz,List.all_map,ybs];intro q hq;exact ZpS hp _ (List.mem_map_of_mem hq))
    have hset:Ze2 (yac len (Zuk s)) (Zdz P ts (λ_=>e) parts)=some (parts.map λq=>argD P ts e q.2):=by
     have h1:=Zrx s (parts.map λq=>argD P ts e q.2) [] (yac len (Zuk s)) (by simpa using hdl.symm) (λx hx=>by rw[List.eq_of_mem_replicate hx,Zry]) hds;simp only[List.nil_append,List.length_nil] at h1
     have h2:Zdz P ts (λ_=>e) parts=(List.range' 0 (parts.map λq=>argD P ts e q.2).length).zip (parts.map λq=>argD P ts e q.2):=by
      rw[hdl, <-List.range_eq_range', <-hr'];exact ZEn _ _ parts
     rw[h2];exact h1
    rw[<-hq1] at hset
    obtain⟨cells,hfill,hrd,_⟩:=Zjl (σ:=σ) (place:=λi=>some (i*s,s)) (sz:=yac len s) (by
     intro i s' hi;simp only[List.getElem?_replicate] at hi;split at hi
     ·cases hi;rw[Zgf _ _ _ (by omega)]
     ·cases hi) qs (yac len (Zuk s)) _ Z (by simp[Zry]) (Zrz len _ (by simpa using hZ)) hq3 hset
    refine⟨cells, ?_,ZCN hp hrd,hxl,λx hx=>hsz x hx⟩;rw[<-hq2];exact hfill
   ·cases h
  ·cases h
 ·cases h
theorem ZrA{e t:yb}{i:TypeInfo}{len:Nat}{parts:Array (Nat×yh)}{Q:Array yh->Prop}(w:yz)(hu:P.underlying t=some (.slice e))(hi:P.info? e=some i)(hz:zOk i=true)
 (hsz:len*i.size<=16777216) (hfill:∀Z:Array yh,Z.size=len*i.size->∃cells,Instr.fill (λj=>some (j*i.size,i.size)) Z parts.toList=some cells/\Q cells):
 ∃cells,(Instr.buildSlice t len parts).run P w=.ok (.slice (some ⟨w.heap.size,0,none⟩) len len) (w.alloc (.cells cells e))/\Q cells:=by
 unfold zOk at hz;split at hz
 ·rename_i z hzz;have h1:¬(16777216 < len*i.size):=by omega
  by_cases h0:len*i.size=0
  ·obtain⟨cells,h2,hq⟩:=hfill ((Array.range (len*i.size)).map (#[][· % (#[]:Array yh).size]!)) (by simp);refine⟨cells, ?_,hq⟩;simp only[h0] at h2;simp[Instr.buildSlice,run_underlying hu,sizeOf,typeInfo,hi,h0,newRow];simp at h2;simp[h2]
  ·obtain⟨cells,h2,hq⟩:=hfill ((Array.range (len*i.size)).map (z.cells[· % z.cells.size]!)) (by simp);exact⟨cells,by simp[Instr.buildSlice,run_underlying hu,sizeOf,typeInfo,zeroValue,hi,hzz,h1,h0,newRow,h2],hq⟩
 ·cases hz
end
theorem getElem?_set_ne'{α:Type}{l:yL α}{i j:Nat}{x:α}(h:i≠j):(l.set i x)[j]? =l[j]? :=by
 rw[ybq,yX h]
theorem getElem?_set_eq'{α:Type}{l:yL α}{i:Nat}{x y:α}(h:l[i]? =some y):(l.set i x)[i]? =some x:=by
 rw[ybq,yW rfl,yW (yo.1 h).1]
theorem XR{σ σ':Sg}(ok:Ok σ){id:Nat}{mi mi':yO Nat}{en en':Ent}(hH:σ.H[id]? =some en)(hm:σ.m[id]? =some mi)
 (eF:σ'.F=σ.F) (en_:σ'.B=σ.B) (eH:σ'.H=σ.H.set id en') (em:σ'.m=σ.m.set id mi')
 (hos:σ'.w.os=σ.w.os) (htape:σ'.w.tape=σ.w.tape) (hout:σ'.w.output=σ.w.output) (hsize:σ.w.heap.size<=σ'.w.heap.size)
 (zU:∀b,b < σ.w.heap.size->mi≠some b->σ'.w.heap[b]? =σ.w.heap[b]?)
 (hown:∀b o v,mi=some b->en.unlocked o->σ.w.cell? ⟨b,o,none⟩=some v->σ'.w.cell? ⟨b,o,none⟩=some v)
 (hunl:∀o,mi'=mi->en.unlocked o->en'.unlocked o)
 (hmi:mi'=mi\/∃b',mi'=some b'/\σ.w.heap.size<=b'/\b' < σ'.w.heap.size)
 (hvar:(∃d st,en=.var d st)->mi'=mi/\∃d st,en'=.var d st)
 (hmap:(∃t kvs,en=.map t kvs)->mi'=mi/\∃t kvs,en'=.map t kvs)
 (hlog:∀s e xs,en=.log s e xs->∃xs',en'=.log s e xs'/\xs.length<=xs'.length/\(xs'.length=xs.length->mi'=mi/\∀b,b < σ.w.heap.size->σ'.w.heap[b]? =σ.w.heap[b]?))
 (hent:Leaf σ σ'->entOk σ' mi' en')
 (hrow:∀v s st e d,en=.row v s st e d->∃v' st' d',en'=.row v' s st' e d'/\v<=v'/\(v'=v->mi'=mi/\∀b cur,mi=some b->σ.w.heap[b]? =some (.cells cur e (0,0))->∃cur',σ'.w.heap[b]? =some (.cells cur' e (0,0))/\cur'.size=cur.size):=by
   intro _ _ _ _ _ h;cases h):To σ σ'/\Ok σ':=by
 have hlt:∀b,mi=some b->b < σ.w.heap.size:=λb h=>ok.lt id b (by rw[hm,h]);have mset:∀j,j≠id->σ'.m[j]? =σ.m[j]? :=λj hj=>by rw[em,getElem?_set_ne' (Ne.symm hj)]
 have mself:σ'.m[id]? =some mi':=by rw[em];exact getElem?_set_eq' hm
 have Hset:∀j,j≠id->σ'.H[j]? =σ.H[j]? :=λj hj=>by rw[eH,getElem?_set_ne' (Ne.symm hj)]
 have Hself:σ'.H[id]? =some en':=by rw[eH];exact getElem?_set_eq' hH
 have hob:∀j b,j≠id->σ.m[j]? =some (some b)->σ'.w.heap[b]? =σ.w.heap[b]? :=λj b hj h=>
  zU b (ok.lt j b h) (λhe=>hj (ok.inj j id b h (by rw[hm,he])))
 have leaf:Leaf σ σ':=by
  refine⟨λb o v h1 h2=>⟨?_, ?_, ?_⟩,λj b h1 h2=> ?_,λj s len A c h1=> ?_,λj b h1 h2=> ?_,λj v s st e d h1=> ?_⟩
  ·by_cases hb:mi=some b
   ·exact hown b o v hb (h2.2 id en (by rw[hm,hb]) hH) h1
   ·rw[World.cell?_of_block (w:=σ.w) (zU b (Wu h1) hb)];exact h1
  ·rcases h2.1 with h3|h3
   ·exact .inl (by rw[eF];exact h3)
   ·exact .inr (by rw[en_];exact h3)
  ·intro j e hj he;by_cases hji:j=id
   ·subst hji;rw[mself] at hj;rw[Hself] at he;cases he;have hj':mi'=some b:=by simpa using hj
    rcases hmi with h3|⟨b',h3,h4,_⟩
    ·have hmb:mi=some b:=by rw[<-h3,hj']
     exact hunl o h3 (h2.2 j en (by rw[hm,hmb]) hH)
    ·have:b'=b:=by rw[h3] at hj';exact ybw hj'
     have:=Wu h1;omega
   ·rw[mset j hji] at hj;rw[Hset j hji] at he;exact h2.2 j e hj he
  ·by_cases hji:j=id
   ·subst hji;obtain⟨d,st,h2⟩:=h2;rw[hH] at h2;obtain⟨h3,d',st',h4⟩:=hvar ⟨d,st,ybw h2⟩;rw[hm] at h1;exact⟨by rw[mself,h3];exact h1,d',st',by rw[Hself,h4]⟩
   ·exact⟨by rw[mset j hji];exact h1,by rw[Hset j hji];exact h2⟩
  ·obtain⟨e,ys,h2,h3,h4⟩:=h1;by_cases hji:j=id
   ·subst hji;rw[hH] at h2;obtain⟨xs',k1,k2,k3⟩:=hlog s e ys (ybw h2);refine⟨e,xs',by rw[Hself,k1],by omega,λhl=> ?_⟩;obtain⟨k4,k5⟩:=k3 (by omega);rcases h4 (by omega) with⟨h5,h6⟩|⟨b,cur,h5,h6,h7,h8⟩
    ·exact .inl ⟨by rw[mself,k4, <-hm];exact h5,h6⟩
    ·exact .inr ⟨b,cur,by rw[mself,k4, <-hm];exact h5,h6,(k5 b (ok.lt j b h5)).trans h7,h8⟩
   ·refine⟨e,ys,by rw[Hset j hji];exact h2,h3,λhl=> ?_⟩;rcases h4 hl with⟨h5,h6⟩|⟨b,cur,h5,h6,h7,h8⟩
    ·exact .inl ⟨by rw[mset j hji];exact h5,h6⟩
    ·exact .inr ⟨b,cur,by rw[mset j hji];exact h5,h6,(hob j b hji h5).trans h7,h8⟩
  ·by_cases hji:j=id
   ·subst hji;obtain⟨d,st,h2⟩:=h2;rw[hH] at h2;obtain⟨h3,d',st',h4⟩:=hmap ⟨d,st,ybw h2⟩;rw[hm] at h1;exact⟨by rw[mself,h3];exact h1,d',st',by rw[Hself,h4]⟩
   ·exact⟨by rw[mset j hji];exact h1,by rw[Hset j hji];exact h2⟩
  ·by_cases hji:j=id
   ·subst hji;rw[hH] at h1;obtain⟨v',st',d',k1,k2,k3⟩:=hrow v s st e d (ybw h1);refine⟨v',st',d',by rw[Hself,k1],k2,λhv=> ?_⟩;obtain⟨k4,k5⟩:=k3 hv;exact⟨by rw[mself,k4, <-hm],λb cur hb hc=>k5 b cur (by rw[hm] at hb;exact ybw hb) hc⟩
   ·exact⟨v,st,d,by rw[Hset j hji];exact h1,yl _,λ_=>⟨mset j hji,λb cur hb hc=>⟨cur,(hob j b hji hb).trans hc,rfl⟩⟩⟩
 have hsame:∀j b,σ'.m[j]? =some (some b)->(σ.m[j]? =some (some b)/\(j=id->mi'=mi))\/(j=id/\σ.w.heap.size<=b/\b < σ'.w.heap.size):=by
  intro j b hj;by_cases hji:j=id
  ·subst hji;rw[mself] at hj;have hj':mi'=some b:=by simpa using hj
   rcases hmi with h3|⟨b',h3,h4,h5⟩
   ·exact .inl ⟨by rw[hm, <-h3,hj'],λ_=>h3⟩
   ·have:b'=b:=by rw[h3] at hj';exact ybw hj'
    subst this;exact .inr ⟨rfl,h4,h5⟩
  ·rw[mset j hji] at hj;exact .inl ⟨hj,λh=>absurd h hji⟩
 refine⟨⟨leaf,eF,en_,hos,htape,hout,hsize,λb hb hn=>zU b hb (λhe=>hn id (by rw[hm,he])),λj b hj=> ?_,by rw[em,yan];exact yl _⟩, ?_, ?_, ?_, ?_, ?_, ?_⟩
 ·rcases hsame j b hj with⟨h,_⟩|⟨_,h,_⟩
  ·exact .inl h
  ·exact .inr h
 ·rw[em,eH,yan,yan];exact ok.len
 ·intro i j b hi hj;rcases hsame i b hi with⟨h1,_⟩|⟨h1,h2,_⟩ <;> rcases hsame j b hj with⟨h3,_⟩|⟨h3,h4,_⟩
  ·exact ok.inj i j b h1 h3
  ·have:=ok.lt i b h1;omega
  ·have:=ok.lt j b h3;omega
  ·rw[h1,h3]
 ·intro i b hi;rcases hsame i b hi with⟨h1,_⟩|⟨_,_,h2⟩
  ·exact ycv (ok.lt i b h1) hsize
  ·exact h2
 ·intro i e a he ha;by_cases hji:i=id
  ·subst hji;rw[mself] at ha;rw[Hself] at he;cases he;cases ha;exact hent leaf
  ·rw[mset i hji] at ha;rw[Hset i hji] at he;exact Zab leaf (λb hb=>hob i b hji (by rw[ha,hb])) (ok.ent i e a he ha)
 ·intro b hb;rw[en_];exact ok.new b (ybj hsize hb)
 ·intro i b hi;rw[en_];rcases hsame i b hi with⟨h1,_⟩|⟨_,h1,_⟩
  ·exact ok.own i b h1
  ·exact ok.new b h1
theorem V0{σ σ':Sg}(ok:Ok σ){mi:yO Nat}{en:Ent}(eF:σ'.F=σ.F)(en_:σ'.B=σ.B)(eH:σ'.H=σ.H++[en])(em:σ'.m=σ.m++[mi])
 (hg:σ.w.grownBy σ'.w none) (hmi:mi=none\/∃b,mi=some b/\σ.w.heap.size<=b/\b < σ'.w.heap.size) (hent:Leaf σ σ'->entOk σ' mi en):To σ σ'/\Ok σ':=by
 have zU:∀b,b < σ.w.heap.size->σ'.w.heap[b]? =σ.w.heap[b]? :=λb hb=>hg.block b hb (by simp)
 have hml:∀j a,σ.m[j]? =some a->σ'.m[j]? =some a:=λj a h=>by
  rw[em,yba (yo.1 h).1];exact h
 have hHl:∀j e,σ.H[j]? =some e->σ'.H[j]? =some e:=λj a h=>by
  rw[eH,yba (yo.1 h).1];exact h
 have hmr:∀j a,σ'.m[j]? =some a->σ.m[j]? =some a\/(j=σ.m.length/\a=mi):=λj a h=>by
  rw[em] at h;rcases Nat.lt_or_ge j σ.m.length with h1|h1
  ·rw[yba h1] at h;exact .inl h
  ·rw[yat h1] at h;have hj:j - σ.m.length < 1:=(yo.1 h).1;have:j=σ.m.length:=by omega
   subst this;simp at h;exact .inr ⟨rfl,h.symm⟩
 have hHr:∀j e,σ'.H[j]? =some e->σ.H[j]? =some e\/(j=σ.H.length/\e=en):=λj a h=>by
  rw[eH] at h;rcases Nat.lt_or_ge j σ.H.length with h1|h1
  ·rw[yba h1] at h;exact .inl h
  ·rw[yat h1] at h;have hj:j - σ.H.length < 1:=(yo.1 h).1;have:j=σ.H.length:=by omega
   subst this;simp at h;exact .inr ⟨rfl,h.symm⟩
 have leaf:Leaf σ σ':=by
  refine⟨λb o v h1 h2=>⟨?_, ?_, ?_⟩,λj b h1 h2=> ?_,λj s len A c h1=> ?_,λj b h1 h2=> ?_,λj v s st e d h1=>⟨v,st,d,hHl _ _ h1,yl _,λ_=>⟨?_,λb cur hb hc=>⟨cur,(zU b (ok.lt j b hb)).trans hc,rfl⟩⟩⟩⟩
  ·rw[World.cell?_of_block (w:=σ.w) (zU b (Wu h1))];exact h1
  ·rcases h2.1 with h3|h3
   ·exact .inl (by rw[eF];exact h3)
   ·exact .inr (by rw[en_];exact h3)
  ·intro j e hj he;rcases hmr j _ hj with h3|⟨h3,h4⟩
   ·rcases hHr j _ he with h5|⟨h5,_⟩
    ·exact h2.2 j e h3 h5
    ·have:=(yo.1 h3).1;have:=ok.len;omega
   ·rcases hmi with h5|⟨b',h5,h6,_⟩
    ·rw[h5] at h4;cases h4
    ·rw[h5] at h4;have:=Wu h1;cases h4;omega
  ·obtain⟨d,st,h2⟩:=h2;exact⟨hml _ _ h1,d,st,hHl _ _ h2⟩
  ·obtain⟨e,ys,h2,h3,h4⟩:=h1;refine⟨e,ys,hHl _ _ h2,h3,λhl=> ?_⟩;rcases h4 hl with⟨h5,h6⟩|⟨b,cur,h5,h6,h7,h8⟩
   ·exact .inl ⟨hml _ _ h5,h6⟩
   ·exact .inr ⟨b,cur,hml _ _ h5,h6,(zU b (ok.lt j b h5)).trans h7,h8⟩
  ·obtain⟨d,st,h2⟩:=h2;exact⟨hml _ _ h1,d,st,hHl _ _ h2⟩
  ·have hj:j < σ.m.length:=by rw[ok.len];exact(yo.1 h1).1
   rw[em,yba hj]
 refine⟨⟨leaf,eF,en_,hg.os,hg.tape,hg.output,hg.size,λb hb _=>zU b hb,λj b hj=> ?_,by rw[em,yj];omega⟩, ?_, ?_, ?_, ?_, ?_, ?_⟩
 ·rcases hmr j _ hj with h|⟨_,h⟩
  ·exact .inl h
  ·rcases hmi with h5|⟨b',h5,h6,_⟩
   ·rw[h5] at h;cases h
   ·rw[h5] at h;cases h;exact .inr h6
 ·rw[em,eH,yj,yj,ok.len];rfl
 ·intro i j b hi hj;rcases hmr i _ hi with h1|⟨h1,h1'⟩ <;> rcases hmr j _ hj with h2|⟨h2,h2'⟩
  ·exact ok.inj i j b h1 h2
  ·have:=ok.lt i b h1;rcases hmi with h5|⟨b',h5,h6,_⟩
   ·rw[h5] at h2';cases h2'
   ·rw[h5] at h2';cases h2';omega
  ·have:=ok.lt j b h2;rcases hmi with h5|⟨b',h5,h6,_⟩
   ·rw[h5] at h1';cases h1'
   ·rw[h5] at h1';cases h1';omega
  ·rw[h1,h2]
 ·intro i b hi;rcases hmr i _ hi with h1|⟨_,h1⟩
  ·exact ycv (ok.lt i b h1) hg.size
  ·rcases hmi with h5|⟨b',h5,_,h6⟩
   ·rw[h5] at h1;cases h1
   ·rw[h5] at h1;cases h1;exact h6
 ·intro i e a he ha;rcases hHr i _ he with h1|⟨h1,h1'⟩ <;> rcases hmr i _ ha with h2|⟨h2,h2'⟩
  ·exact Zab leaf (λb hb=>zU b (ok.lt i b (by rw[h2,hb]))) (ok.ent i e a h1 h2)
  ·have:=(yo.1 h1).1;have:=ok.len;omega
  ·have:=(yo.1 h2).1;have:=ok.len;omega
  ·rw[h1',h2'];exact hent leaf
 ·intro b hb;rw[en_];exact ok.new b (ybj hg.size hb)
 ·intro i b hi;rw[en_];rcases hmr i _ hi with h1|⟨_,h1⟩
  ·exact ok.own i b h1
  ·rcases hmi with h5|⟨b',h5,h6,_⟩
   ·rw[h5] at h1;cases h1
   ·rw[h5] at h1;cases h1;exact ok.new b h6
end Go.Ev
end
section
namespace Go.Ev
section
variable{P:yg}{o:ym}{a:Act}{σ:Sg}{ts:yL Dv}{hs hs':yL Hint}{C:yL Prop}{d:Dv}
theorem Zb8{i:TypeInfo}(h:zOk i=true):∃z,i.zero=some z/\z.cells.size=i.size:=by
 unfold zOk at h;split at h
 ·rename_i z hz;exact⟨z,hz,by simpa using h⟩
 ·cases h
structure Src(P:yg)(w:yz)(u:yb)(size:Nat)(S:yh)(m:Nat)(zV:List yh):Prop where
 ty:(∃e',P.underlying u=some (.slice e'))\/P.underlying u=some .string
 len:∀w',(Builtin.lenOf S).run P w'=.ok m w'
 first:(Builtin.firstCells size m S).run P w=.ok zV.toArray w
 firstd:(Builtin.firstCells size m S).run P w.drew=.ok zV.toArray w.drew
 cells:zV.length=m*size
theorem Zul{w:yz}{S:Nat->Nat->Prop}{u e':yb}{s s':Nat}{xs:yL Pl}{A:yO Addr}{c:Nat}(hu:P.underlying u=some (.slice e'))(hs:s'=s\/xs=[])(hsz:allSz s' xs)
 (hr:xs≠[]->∃b o us,A=some ⟨b,o,none⟩/\repCs w S xs us/\Vt w S b o us):
 ∃zV,Src P w u s (.slice A xs.length c) xs.length zV/\repCs w S xs zV:=by
 rcases xs with _|⟨x,xs⟩
 ·refine⟨[],⟨.inl ⟨_,hu⟩,λw'=>rfl, ?_, ?_,by simp⟩,by simp[repCs]⟩
  ·cases A <;> simp[Builtin.firstCells,loadCells,loadCellsFrom]
  ·cases A <;> simp[Builtin.firstCells,loadCells,loadCellsFrom]
 ·have hss:s'=s:=by
   rcases hs with h|h
   ·exact h
   ·cases h
  subst hss;obtain⟨b,o,us,rfl,h1,h2⟩:=hr (by simp);have hl:us.length=(x::xs).length*s':=by rw[repCs_size _ _ h1,sizes_all hsz]
  refine⟨us,⟨.inl ⟨_,hu⟩,λw'=>rfl, ?_, ?_,hl⟩,h1⟩
  ·exact run_firstCells_some w s' _ ⟨b,o,none⟩ _ c us hl (λj v hv=>by rw[Addr.add_mk];exact(h2 j v hv).1)
  ·exact run_firstCells_some w.drew s' _ ⟨b,o,none⟩ _ c us hl (λj v hv=>by rw[Addr.add_mk];exact(h2 j v hv).1)
theorem ZrB{w:yz}{t u ty e:yb}{i:TypeInfo}{S:yh}{zV:yL yh}(ht:P.underlying t=some (.slice e))(hi:P.info? e=some i)(hS:Src P w u i.size S 0 zV):
 (Builtin.append_ #[t,u] ty #[.slice none 0 0,S]).run P w=.ok (.slice none 0 0) w:=by
 obtain⟨hty,hl,hf,hfd,hc⟩:=hS
 rcases hty with⟨e'',hu⟩|hu <;>
  (simp[Builtin.append_,run_underlying ht,run_underlying hu,sizeOf,typeInfo,hi,hl,hf])
theorem Zhr{w:yz}{t u ty e e':yb}{i:TypeInfo}{S:yh}{m:Nat}{zV:yL yh}(ht:P.underlying t=some (.slice e))(hi:P.info? e=some i)(hS:Src P w u i.size S m zV)
 (h1:∀v,v∈zV->v.oneCell'=true) {g n cap:Nat} {cur:Array yh} (hg:w.heap[g]? =some (.cells cur e' (0,0))) (hroom:n+m<=cap) (hcur:cur.size=cap*i.size):
 (Builtin.append_ #[t,u] ty #[.slice (some ⟨g,0,none⟩) n cap,S]).run P w=
   .ok (.slice (some ⟨g,0,none⟩) (n+m) cap) (w.setRow g (cur.toList.take (n*i.size)++zV++cur.toList.drop (n*i.size+zV.length)).toArray):=by
 obtain⟨hty,hl,hf,hfd,hc⟩:=hS;have hfit:n*i.size+zV.length<=cur.size:=by rw[hc,hcur, <-yaz];exact ybp _ hroom
 have hst:=run_storeCells_at P g (n*i.size) e' zV 0 cur w hg (by simpa using hfit) h1;simp only[ycf] at hst
 rcases hty with⟨e'',hu⟩|hu <;>
  (simp[Builtin.append_,run_underlying ht,run_underlying hu,sizeOf,typeInfo,hi,hl,hroom,hf,Addr.add_lit,hst])
theorem Zhs{w:yz}{t u ty e:yb}{i:TypeInfo}{z:yh}{S:yh}{m:Nat}{zV olds:yL yh}(ht:P.underlying t=some (.slice e))(hi:P.info? e=some i)(hz:i.zero=some z)
 (hS:Src P w u i.size S m zV) {A:yO Addr} {n cap:Nat} (hold:(Builtin.firstCells i.size n (.slice A n cap)).run P w.drew=.ok olds.toArray w.drew) (hroom:cap < n+m)
 (h63:n+m<=maxLen) (hb:(n+m)*i.bytes<=bytesBound):
 (Builtin.append_ #[t,u] ty #[.slice A n cap,S]).run P w=
   .ok (.slice (some ⟨w.heap.size,0,none⟩) (n+m) (grownCap w (n+m) cap e)) (w.drew.alloc (.cells (olds.toArray++zV.toArray++Builtin.zeroCells z.cells (grownCap w (n+m) cap e - (n+m))) e)):=by
 obtain⟨hty,hl,hf,hfd,hc⟩:=hS;have hn:¬(n+m<=cap):=by omega
 have h63':¬(9223372036854775807 < ((n:Int)+(m:Int))):=by
  simp only[maxLen] at h63;omega
 have hfit:=growslice_fits (old:=cap) hroom (by simpa[bytesBound] using hb);have h48':¬(281474976710656 < Builtin.nextslicecap (n+m) cap*i.bytes):=by omega
 rcases hty with⟨e'',hu⟩|hu <;>
  (simp[Builtin.append_,run_underlying ht,run_underlying hu,sizeOf,typeInfo,zeroValue,hi,hz,hl,hn,h63',h48',Question.forced,hfd,hold,newRow,grownCap]
   congr 2;apply Array.ext';simp[yx])
theorem Y8(w:yz)(ob:Obj)(row:yO Nat):w.grownBy (w.drew.alloc ob) row:=
 let h:=World.grownBy_alloc w.drew ob row
 ⟨h.os,h.tape,h.output,h.size,h.block⟩
theorem Zac(yK:RepT σ ts a){s:Nat}{u ut:yb}{x:yn}{ys:yL Pl}(h:srcOf P s u (argD P ts ut x)=some ys):
 ∃zV,Src P σ.w u s (a.eval x) ys.length zV/\repCs σ.w σ.stab ys zV/\(ys≠[]->allSz s ys):=by
 have hx:=Zq (P:=P) yK ut x;unfold srcOf at h;split at h
 ·rename_i e nn s' xs hu hd;split at h
  ·rename_i hc;cases h;rw[hd] at hx;obtain⟨h1,A,c,hv,h2,h3,h4,h5,h6⟩:=W8 hx;rw[hv]
   have hc':s'=s\/ys=[]:=by
    rcases hc with hc|hc
    ·exact .inl hc
    ·exact .inr (by simpa using hc)
   obtain⟨zV,k1,k2⟩:=Zul (P:=P) (w:=σ.w) (c:=c) hu hc' h1 h6;refine⟨zV,k1,k2,λhne=> ?_⟩;rcases hc' with hc|hc
   ·exact hc ▸ h1
   ·exact absurd hc hne
  ·cases h
 ·rename_i e id nn s' xs hu hd;split at h
  ·rename_i hc;cases h;rw[hd] at hx;obtain⟨h1,A,c,hv,h2,h3,h4,h5,h6,_⟩:=ZbF hx;rw[hv];obtain⟨zV,k1,k2⟩:=Zul (P:=P) (w:=σ.w) (c:=c) hu (.inl hc) h1 h6;exact⟨zV,k1,k2,λ_=>hc ▸ h1⟩
  ·cases h
 ·rename_i z hu hd;split at h
  ·rename_i hc;cases h;subst hc;rw[hd] at hx;rw[Zf2 hx];have hl:(z.data.toList.map λb=>Pl.int .u8 (b.toNat:Int)).length=z.size:=by rw[yaa,ybo];rfl
   refine⟨z.data.toList.map λb=>Value.int .u8 (b.toNat:Int),⟨.inr hu,λw'=>by rw[hl];rfl, ?_, ?_,by simp⟩, ?_,λ_=> ?_⟩
   ·rw[hl];have:=Go.Lib.run_firstCells_string (P:=P) σ.w 1 z;exact this
   ·rw[hl];have:=Go.Lib.run_firstCells_string (P:=P) σ.w.drew 1 z;exact this
   ·generalize z.data.toList=l
    induction l with
    |nil=>simp[repCs]
    |cons b r ih=>simp only[yah,repCs];exact⟨[.int .u8 b.toNat],_,rfl,by simp[repC],ih⟩
   ·intro q hq;obtain⟨b,_,rfl⟩:=ycb.1 hq;rfl
  ·cases h
 ·cases h
def ZmB(P:yg)(σ:Sg)(s:Nat)(u:yb)(S:yh)(ys:yL Pl):Prop:=∃zV,Src P σ.w u s S ys.length zV/\repCs σ.w σ.stab ys zV/\(ys≠[]->allSz s ys)
theorem Vy(ok:Ok σ)(yK:RepT σ ts a){t u ty e:yb}{i:TypeInfo}{y:yn}{ys:yL Pl}(ht:P.underlying t=some (.slice e))(hi:P.info? e=some i)(hz:zOk i=true)(hne:i.size≠0)
 (hsrc:ZmB P σ (P.cellsOf e) u (a.eval y) ys) (hb:ys.length*i.bytes<=bytesBound) (hm:ys.length<=maxLen):
 (ys=[]/\(Builtin.append_ #[t,u] ty #[.slice none 0 0,a.eval y]).run P σ.w=.ok (.slice none 0 0) σ.w)\/
 ∃zV yJ,ys≠[]/\allSz i.size ys/\repCs σ.w σ.stab ys zV/\ys.length<=grownCap σ.w ys.length 0 e/\grownCap σ.w ys.length 0 e<=maxLen/\
  (zV.toArray++yJ:Array yh).size=grownCap σ.w ys.length 0 e*i.size/\
  (Builtin.append_ #[t,u] ty #[.slice none 0 0,a.eval y]).run P σ.w=.ok (.slice (some ⟨σ.w.heap.size,0,none⟩) ys.length (grownCap σ.w ys.length 0 e)) (σ.w.drew.alloc (.cells (zV.toArray++yJ) e)):=by
 have hce:P.cellsOf e=i.size:=by simp[Program.cellsOf,hi]
 rw[hce] at hsrc;obtain⟨zV,hS,hr,zL⟩:=hsrc;rcases Nat.eq_zero_or_pos ys.length with h0|h0
 ·refine .inl ⟨ybn h0, ?_⟩;rw[h0] at hS;exact ZrB ht hi hS
 ·have hys:ys≠[]:=by
   rintro rfl;simp at h0
  obtain⟨z,hzz,hzs⟩:=Zb8 hz;have hg:=Zhs (P:=P) (ty:=ty) (A:=none) (n:=0) (cap:=0) (olds:=[]) ht hi hzz hS (by simp[Builtin.firstCells]) (by omega) (by omega) (by simpa using hb);simp only[yay] at hg;have hge:=grownCap_ge σ.w ys.length 0 e;refine .inr ⟨zV,Builtin.zeroCells z.cells (grownCap σ.w ys.length 0 e - ys.length),hys,zL hys,hr,hge,grownCap_le_maxLen σ.w ys.length 0 e hm, ?_,by simpa using hg⟩;have hl:=hS.cells;simp only[Array.size_append,List.size_toArray,size_zeroCells,hzs,hl, <-yaz];congr 1;omega
theorem ZdC{σ':Sg}{b:Nat}{cells:yL yh}{cs:Array yh}{t:yb}(hb:σ'.w.heap[b]? =some (.cells cs t (0,0)))(hst:∀o,o < cells.length->σ'.stab b o)(hp:cs.toList.take cells.length=cells):Vt σ'.w σ'.stab b 0 cells:=by
 intro j u hu;have hj:j < cells.length:=(yo.1 hu).1;rw[yay];refine⟨?_,hst j hj⟩;rw[cell_of_row σ'.w b j cs t (0,0) hb, <-ycd];rw[<-hp,ycc,yW hj] at hu;exact hu
theorem ZrC{σ':Sg}{s:Nat}{xs:yL Pl}{b c:Nat}{cells:yL yh}{cs:Array yh}{t:yb}{nn:yO Bool}(hnn:ZqF nn (some ⟨b,0,none⟩))(ok:Ok σ')(zL:allSz s xs)(hr:repCs σ'.w σ'.stab xs cells)(hb:σ'.w.heap[b]? =some (.cells cs t (0,0)))
 (hnew:σ'.B b) (hun:∀(id:Nat),σ'.m[id]? ≠some (some b)) (hp:cs.toList.take cells.length=cells) (hc:xs.length<=c) (hm:c<=maxLen):yH σ' (.p (.sl nn s xs)) (.slice (some ⟨b,0,none⟩) xs.length c):=
 YM zL hc hm hnn (by simp) (λ_=>⟨b,0,cells,rfl,hr,ZdC hb (λo _=>Zxt ok hnew hun) hp⟩)
theorem ZnI{s:Nat}{v:yh}(h:yH σ (.p (.sl (some false) s [])) v):v=.slice none 0 0:=by
 obtain⟨_,A,c,rfl,_,_,hA,hc,_⟩:=W8 h;have:A=none:=by simpa using hA false rfl
 grind
theorem Yl{x y:yn}{t u:yb}{c:Call}(ho:o.op=.call c)(hc:c.callee=.builtin .append)(yQ:c.args.toList=[x,y])(htys:c.argTypes.toList=[t,u]){v:yh}{w':yz}
 (h:(Builtin.append_ #[t,u] o.type #[a.eval x,a.eval y]).run P σ.w=.ok v w'):(execOp a.eval o).run P σ.w=.ok (.value v) w':=by
 have h1:c.args= #[x,y]:=by rw[<-ycz (xs:=c.args),yQ]
 have h2:c.argTypes= #[t,u]:=by rw[<-ycz (xs:=c.argTypes),htys]
 simp[execOp,ho,resolve,hc,h1,h2,invoke,builtin,h]
theorem Zgg{x:yn}{t:yb}{c:Call}(ho:o.op=.call c)(hc:c.callee=.builtin .len)(yQ:c.args.toList=[x])(htys:c.argTypes.toList=[t]){v:yh}
 (h:(Builtin.len_ #[t] o.type #[a.eval x]).run P σ.w=.ok v σ.w):(execOp a.eval o).run P σ.w=.ok (.value v) σ.w:=by
 have h1:c.args= #[x]:=by rw[<-ycz (xs:=c.args),yQ]
 have h2:c.argTypes= #[t]:=by rw[<-ycz (xs:=c.argTypes),htys]
 simp[execOp,ho,resolve,hc,h1,h2,invoke,builtin,h]
theorem ZfE(ok:Ok σ)(id:Nat):σ.m[id]? ≠some (some σ.w.heap.size):=λh=>by
 have:=ok.lt id _ h;omega
theorem ZtC(ok:Ok σ)(yK:RepT σ ts a){c:Call}{x y:yn}{t u e:yb}{i:TypeInfo}{ys:yL Pl}(ho:o.op=.call c)(yR:c.callee=.builtin .append)(yQ:c.args.toList=[x,y])
 (htys:c.argTypes.toList=[t,u]) (ht:P.underlying t=some (.slice e)) {s:Nat} (hx:argD P ts t x=.p (.sl (some false) s [])) (hi:P.info? e=some i) (hz:zOk i=true) (hne:i.size≠0)
 (hsrc:srcOf P (P.cellsOf e) u (argD P ts u y)=some ys) (hb:ys.length*i.bytes<=bytesBound) (hm:ys.length<=maxLen):Wd P o a σ (.p (.sl none (P.cellsOf e) ys)) σ.H:=by
 have hxv:=Zq (P:=P) yK t x;rw[hx] at hxv;have hxn:=ZnI hxv;have hce:P.cellsOf e=i.size:=by simp[Program.cellsOf,hi]
 rcases Vy (P:=P) (ty:=o.type) ok yK ht hi hz hne (Zac (P:=P) yK hsrc) hb hm with⟨rfl,zO⟩|⟨zV,yJ,hys,zL,hr,hge,hcm,hcs,zO⟩
 ·refine Zn ok (Yl ho yR yQ htys (by rw[hxn];exact zO)) ?_;exact YM (λ_ hx=>by cases hx) (yl _) (by simp[maxLen]) (Yp _) (λ_=>rfl) (λh=>absurd rfl h)
 ·obtain⟨to,ok'⟩:=ZnF ok (Y8 σ.w (.cells (zV.toArray++yJ) e) none);refine ZX (σ':={ σ with w:=σ.w.drew.alloc (.cells (zV.toArray++yJ) e)}) (Yl ho yR yQ htys (by rw[hxn];exact zO)) to ok' ?_;rw[hce];have zB:zV.length=ys.length*i.size:=by rw[repCs_size _ _ hr,sizes_all zL]
  refine ZrC (Yp _) ok' zL (repCs_mono to.leaf.cells _ _ hr) (b:=σ.w.heap.size) (cells:=zV) (heap_alloc_new σ.w.drew _) (ok.new _ (yl _)) (ZfE ok) (by simp) hge hcm
theorem ZvJ(ok:Ok σ)(yK:RepT σ ts a){c:Call}{x y:yn}{t u e:yb}{i:TypeInfo}{ys:yL Pl}(ho:o.op=.call c)(yR:c.callee=.builtin .append)(yQ:c.args.toList=[x,y])
 (htys:c.argTypes.toList=[t,u]) (ht:P.underlying t=some (.slice e)) {s:Nat} (hx:argD P ts t x=.p (.sl (some false) s [])) (hi:P.info? e=some i) (hz:zOk i=true) (hne:i.size≠0)
 (hsrc:srcOf P (P.cellsOf e) u (argD P ts u y)=some ys) (hb:ys.length*i.bytes<=bytesBound) (hm:ys.length<=maxLen):Wd P o a σ (.own σ.H.length none i.size ys) (σ.H++[.log i.size e ys]):=by
 have hxv:=Zq (P:=P) yK t x;rw[hx] at hxv;have hxn:=ZnI hxv;rcases Vy (P:=P) (ty:=o.type) ok yK ht hi hz hne (Zac (P:=P) yK hsrc) hb hm with⟨rfl,zO⟩|⟨zV,yJ,hys,zL,hr,hge,hcm,hcs,zO⟩
 ·obtain⟨to,ok'⟩:=V0 (σ':={ σ with m:=σ.m++[none],H:=σ.H++[.log i.size e []]}) ok rfl rfl rfl rfl (World.grownBy.refl σ.w none) (.inl rfl) (λ_=>.inl ⟨rfl,rfl⟩);refine ZX (σ':={ σ with m:=σ.m++[none],H:=σ.H++[.log i.size e []]}) (Yl ho yR yQ htys (by rw[hxn];exact zO)) to ok' ?_;rw[Zi rfl];simp only[yG];refine⟨λ_ hx=>(by cases hx),none,0,rfl,yl _,by simp[maxLen],Yp _,λ_=>rfl,λh=>absurd rfl h,e,[],by simp,yl _,λ_=>.inl ⟨?_,rfl,rfl⟩⟩;rw[yat (by rw[ok.len];exact yl _),ok.len];simp
 ·let σ':Sg:={ σ with m:=σ.m++[some σ.w.heap.size],H:=σ.H++[.log i.size e ys],w:=σ.w.drew.alloc (.cells (zV.toArray++yJ) e)};have zB:zV.length=ys.length*i.size:=by rw[repCs_size _ _ hr,sizes_all zL]
  have zU:σ'.w.heap[σ.w.heap.size]? =some (.cells (zV.toArray++yJ) e (0,0)):=heap_alloc_new σ.w.drew _
  have hmlast:σ'.m[σ.H.length]? =some (some σ.w.heap.size):=by
   show(σ.m++[some σ.w.heap.size])[σ.H.length]? =_;rw[yat (by rw[ok.len];exact yl _),ok.len];simp
  obtain⟨to,ok'⟩:=V0 (σ':=σ') ok rfl rfl rfl rfl (Y8 σ.w (.cells (zV.toArray++yJ) e) none) (.inr ⟨_,rfl,yl _,by simp[σ']⟩)
   (λleaf=>.inr ⟨σ.w.heap.size,_,grownCap σ.w ys.length 0 e,rfl,zU,hcs,hge,hcm,zL,by
     rw[<-zB];simpa using repCs_mono leaf.cells _ _ hr⟩)
  refine ZX (σ':=σ') (Yl ho yR yQ htys (by rw[hxn];exact zO)) to ok' ?_;have hemp:(!ys.isEmpty)=true:=by cases ys <;> first|exact absurd rfl hys|rfl
  rw[Zi rfl];simp only[yG]
  refine⟨zL,_,_,rfl,hge,hcm,Yp _,λh=>(by cases h),λ_=>⟨σ.w.heap.size,0,zV,rfl,repCs_mono to.leaf.cells _ _ hr,ZdC zU (λo ho=>⟨.inr (ok.new _ (yl _)),λid e' h1 h2=> ?_⟩) (by simp)⟩,
   e,ys,by simp[σ'],yl _,λ_=>.inr ⟨_,_,hmlast,rfl,zU,hcs⟩⟩
  have:id=σ.H.length:=ok'.inj id σ.H.length _ h1 hmlast;subst this;have h3:σ'.H[σ.H.length]? =some (.log i.size e ys):=by simp[σ']
  rw[h3] at h2;cases h2;show o < ys.length*i.size;omega
theorem ZvK(ok:Ok σ)(yK:RepT σ ts a){c:Call}{x y:yn}{t u e:yb}{i:TypeInfo}{xs ys:yL Pl}{id s:Nat}{nn:yO Bool}(ho:o.op=.call c)(yR:c.callee=.builtin .append)
 (yQ:c.args.toList=[x,y]) (htys:c.argTypes.toList=[t,u]) (ht:P.underlying t=some (.slice e)) (hx:argD P ts t x=.own id nn s xs) (hi:P.info? e=some i) (hz:zOk i=true) (hs:i.size=s) (hne:s≠0)
 (hsrc:ZmB P σ s u (a.eval y) ys) (hH:σ.H[id]? =some (.log s e xs)) (hb:(xs.length+ys.length)*i.bytes<=bytesBound) (hm:xs.length+ys.length<=maxLen):
 Wd P o a σ (.own id none s (xs++ys)) (σ.H.set id (.log s e (xs++ys))):=by
 subst hs;have hxv:=Zq (P:=P) yK t x;rw[hx] at hxv;obtain⟨h1,A,cp,hv,h2,h3,h4,h5,h6,e0,ys0,h7,h8,h9⟩:=ZbF hxv;rw[hH] at h7;cases h7;have hsrc2:=hsrc;obtain⟨zV,hS,hr,zL⟩:=hsrc2;obtain⟨z,hzz,hzs⟩:=Zb8 hz;have hH':=hH;have hidlt:id < σ.m.length:=by rw[ok.len];exact(yo.1 hH).1
 have hmi:σ.m[id]? =some σ.m[id]:=yad hidlt;have hent:=ok.ent id _ _ hH hmi
 have hall':allSz i.size (xs++ys):=by
  by_cases hy:ys=[]
  ·grind
  ·exact WU h1 (zL hy)
 have hnl:zV.length=ys.length*i.size:=hS.cells;have hone:∀v,v∈zV->v.oneCell'=true:=repCs_one _ _ hr;have zB:(xs++ys).length=xs.length+ys.length:=yj;rcases h9 rfl with⟨k1,rfl,rfl⟩|⟨b,cur,k1,rfl,k3,k4⟩
 ·
  have hxs:xs=[]:=by
   all_goals grind
  subst hxs;have hmn:σ.m[id]=none:=by rw[hmi] at k1;exact ybw k1
  skip
  skip
  rcases Vy (P:=P) (ty:=o.type) (u:=u) (y:=y) (ys:=ys) ok yK ht hi hz hne (by simpa[Program.cellsOf,hi] using hsrc) (by simpa using hb) (by simpa using hm) with⟨rfl,zO⟩|⟨news',yJ,hys,hall2,hr2,hge,hcm,hcs,zO⟩
  ·obtain⟨to,ok'⟩:=XR (σ':={ σ with m:=σ.m.set id none,H:=σ.H.set id (.log i.size e ([]++[]))}) (mi:=none) (mi':=none) ok hH (by rw[hmi,hmn]) rfl rfl rfl rfl rfl rfl rfl (yl _)
    (λ_ _ _=>rfl) (λb o v h=>by cases h) (λo _ h=>h) (.inl rfl) (λ⟨d,st,h⟩=>by cases h) (λ⟨d,st,h⟩=>by cases h) (λs e' xs h=>⟨[],by cases h;rfl,by cases h;exact yl _,λ_=>⟨rfl,λ_ _=>rfl⟩⟩) (λ_=>.inl ⟨rfl,rfl⟩)
   refine ZX (σ':={ σ with m:=σ.m.set id none,H:=σ.H.set id (.log i.size e ([]++[]))}) (Yl ho yR yQ htys (by rw[hv];exact zO)) to ok' ?_;rw[Zi rfl];simp only[yG];exact⟨λ_ hx=>(by cases hx),none,0,rfl,yl _,by simp[maxLen],Yp _,λ_=>rfl,λh=>absurd rfl h,e,[],getElem?_set_eq' hH,yl _,λ_=>.inl ⟨getElem?_set_eq' hmi,rfl,rfl⟩⟩
  ·let σ':Sg:={ σ with m:=σ.m.set id (some σ.w.heap.size),H:=σ.H.set id (.log i.size e ([]++ys)),w:=σ.w.drew.alloc (.cells (news'.toArray++yJ) e)};have hl2:news'.length=ys.length*i.size:=by rw[repCs_size _ _ hr2,sizes_all hall2]
   have zU:σ'.w.heap[σ.w.heap.size]? =some (.cells (news'.toArray++yJ) e (0,0)):=heap_alloc_new σ.w.drew _;have hg:=Y8 σ.w (.cells (news'.toArray++yJ) e) none;have hblk':∀b,b < σ.w.heap.size->σ'.w.heap[b]? =σ.w.heap[b]? :=λb hb=>hg.block b hb (by simp);have hmset:σ'.m[id]? =some (some σ.w.heap.size):=getElem?_set_eq' hmi;have hHset:σ'.H[id]? =some (.log i.size e ([]++ys)):=getElem?_set_eq' hH
   obtain⟨to,ok'⟩:=XR (σ':=σ') (mi:=none) (mi':=some σ.w.heap.size) ok hH (by rw[hmi,hmn]) rfl rfl rfl rfl rfl rfl rfl hg.size
    (λb hb _=>hblk' b hb) (λb o v h=>by cases h) (λo h _=>by cases h) (.inr ⟨_,rfl,yl _,by simp[σ']⟩) (λ⟨d,st,h⟩=>by cases h) (λ⟨d,st,h⟩=>by cases h)
    (λs' e' xs' h=>⟨ys,by cases h;rfl,by cases h;exact Nat.zero_le _,λhh=>by
      cases h;exact absurd (ybn (by simpa using hh)) hys⟩)
    (λleaf=>.inr ⟨σ.w.heap.size,_,grownCap σ.w ys.length 0 e,rfl,zU,hcs,hge,hcm,hall2,by
      show repCs σ'.w σ'.stab ([]++ys) _;rw[List.nil_append, <-hl2];simpa using repCs_mono leaf.cells _ _ hr2⟩)
   refine ZX (σ':=σ') (Yl ho yR yQ htys (by rw[hv];exact zO)) to ok' ?_;have hemp:(!ys.isEmpty)=true:=by cases ys <;> first|exact absurd rfl hys|rfl
   rw[Zi rfl];simp only[yG]
   refine⟨hall2,_,_,rfl,hge,hcm,Yp _,λh=>(by cases h),λ_=>⟨σ.w.heap.size,0,news',rfl,repCs_mono to.leaf.cells _ _ hr2,ZdC zU (λo ho=>⟨.inr (ok.new _ (yl _)),λj e' g1 g2=> ?_⟩) (by simp)⟩,
    e,_,hHset,yl _,λ_=>.inr ⟨_,_,hmset,rfl,zU,hcs⟩⟩
   have:j=id:=ok'.inj j id _ g1 hmset;subst this;rw[hHset] at g2;cases g2;show o < ([]++ys).length*i.size;grind
 ·have hmb:σ.m[id]=some b:=by rw[hmi] at k1;exact ybw k1
  rcases hent with⟨h,_⟩|⟨b',cur',cap,h,g3,g4,g5,g6,g7,g8⟩
  ·grind
  ·rw[hmb] at h;cases h;rw[k3] at g3;cases g3
   have hcap:cp=cap:=by
    have:cp*i.size=cap*i.size:=by rw[<-k4, <-g4]
    exact Nat.eq_of_mul_eq_mul_right (Nat.pos_of_ne_zero hne) this
   subst hcap;have hus:(cur.toList.take (xs.length*i.size)).length=xs.length*i.size:=by rw[repCs_size _ _ g8,sizes_all h1]
   skip
   skip
   by_cases hroom:xs.length+ys.length<=cp
   ·
    have zO:=Zhr (P:=P) (ty:=o.type) ht hi hS hone k3 hroom g4;let ncur:Array yh:=(cur.toList.take (xs.length*i.size)++zV++cur.toList.drop (xs.length*i.size+zV.length)).toArray;let σ':Sg:={ σ with m:=σ.m.set id (some b),H:=σ.H.set id (.log i.size e (xs++ys)),w:=σ.w.setRow b ncur};have hfit:xs.length*i.size+zV.length<=cur.size:=by rw[hnl,g4, <-yaz];exact ybp _ hroom
    have hncs:ncur.size=cp*i.size:=by
     grind
    have zU:σ'.w.heap[b]? =some (.cells ncur e (0,0)):=setRow_heap σ.w b cur _ e _ k3;have hoth:∀j,b≠j->σ'.w.heap[j]? =σ.w.heap[j]? :=λj hj=>setRow_other σ.w b j _ (Ne.symm hj);have hmset:σ'.m[id]? =some (some b):=getElem?_set_eq' hmi;have hHset:σ'.H[id]? =some (.log i.size e (xs++ys)):=getElem?_set_eq' hH
    have hpre:∀o,o < xs.length*i.size->ncur[o]? =cur[o]? :=by
     grind
    have hcl:(cur.toList.take (xs.length*i.size)++zV).length=(xs++ys).length*i.size:=by
     grind
    have htk:ncur.toList.take ((xs++ys).length*i.size)=cur.toList.take (xs.length*i.size)++zV:=by
     grind
    have hbl:ys.length=0->ncur=cur:=by
     intro h0;have:zV=[]:=ybn (by rw[hnl,h0];simp);grind
    obtain⟨to,ok'⟩:=XR (σ':=σ') (mi:=some b) (mi':=some b) ok hH (by rw[hmi,hmb]) rfl rfl rfl rfl rfl rfl rfl (by simp[σ'])
     (λj hj hne=>hoth j (λhh=>hne (by rw[hh]))) (λb' o v hb' hu hcell=>by
       cases hb';rw[cell_of_row σ.w b o cur e (0,0) k3] at hcell;show(σ.w.setRow b ncur).cell? ⟨b,o,none⟩=some v;rw[cell_of_row _ b o ncur e (0,0) zU,hpre o hu];exact hcell)
     (λo _ hu=>by
       have hu':o < xs.length*i.size:=hu;show o < (xs++ys).length*i.size;rw[zB,yaz];omega) (.inl rfl) (λ⟨d,st,h⟩=>by cases h) (λ⟨d,st,h⟩=>by cases h)
     (λs' e' xs' h=>⟨xs++ys,by cases h;rfl,by cases h;simp,λhh=>by
       cases h;refine⟨rfl,λj _=> ?_⟩;have h0:ys.length=0:=by rw[zB] at hh;omega
       by_cases hj:b=j
       ·subst hj;rw[zU,k3,hbl h0]
       ·exact hoth j hj⟩)
     (λleaf=>.inr ⟨b,ncur,cp,rfl,zU,hncs,by rw[zB];exact hroom,h3,hall',by
       rw[htk];exact Yt (repCs_mono leaf.cells _ _ g8) (repCs_mono leaf.cells _ _ hr)⟩)
    refine ZX (σ':=σ') (Yl ho yR yQ htys (by rw[hv];exact zO)) to ok' ?_;rw[Zi rfl];simp only[yG,Bool.true_or]
    refine⟨hall',some ⟨b,0,none⟩,cp,by rw[zB],by rw[zB];exact hroom,h3,Yp _,λh=>(by cases h),λ_=>⟨b,0,cur.toList.take (xs.length*i.size)++zV,rfl,
     Yt (repCs_mono to.leaf.cells _ _ g8) (repCs_mono to.leaf.cells _ _ hr),ZdC zU (λo ho=> ?_) ?_⟩,e,_,hHset,yl _,λ_=>.inr ⟨b,ncur,hmset,rfl,zU,hncs⟩⟩
    ·refine⟨.inr (ok.own id b k1),λj e' g1 g2=> ?_⟩;have:j=id:=ok'.inj j id _ g1 hmset;subst this;rw[hHset] at g2;cases g2;show o < (xs++ys).length*i.size;grind
    grind
   ·
    have hgr:cp < xs.length+ys.length:=by omega
    have hold:(Builtin.firstCells i.size xs.length (.slice (some ⟨b,0,none⟩) xs.length cp)).run P σ.w.drew=.ok (cur.toList.take (xs.length*i.size)).toArray σ.w.drew:=
     run_firstCells_some σ.w.drew i.size _ ⟨b,0,none⟩ _ cp _ hus (λj v hj=>by
      rw[Addr.add_mk,yay];show σ.w.cell? ⟨b,j,none⟩=some v
      have hj2:j < xs.length*i.size:=by
       grind
      rw[cell_of_row σ.w b j cur e (0,0) k3];rw[ycc,yW hj2] at hj;simpa using hj)
    have zO:=Zhs (P:=P) (ty:=o.type) ht hi hzz hS hold hgr hm hb;have hge:=grownCap_ge σ.w (xs.length+ys.length) cp e;have hcm:=grownCap_le_maxLen σ.w (xs.length+ys.length) cp e hm;let q:Nat:=grownCap σ.w (xs.length+ys.length) cp e;let yJ:Array yh:=Builtin.zeroCells z.cells (q - (xs.length+ys.length));let ncur:Array yh:=(cur.toList.take (xs.length*i.size)).toArray++zV.toArray++yJ;let σ':Sg:={ σ with m:=σ.m.set id (some σ.w.heap.size),H:=σ.H.set id (.log i.size e (xs++ys)),w:=σ.w.drew.alloc (.cells ncur e)}
    have hcl:(cur.toList.take (xs.length*i.size)++zV).length=(xs++ys).length*i.size:=by
     grind
    have hncs:ncur.size=q*i.size:=by
     simp only[ncur,yJ,Array.size_append,List.size_toArray,size_zeroCells,hzs,hus,hnl, <-yaz];congr 1;omega
    have htk:ncur.toList.take ((xs++ys).length*i.size)=cur.toList.take (xs.length*i.size)++zV:=by
     grind
    have zU:σ'.w.heap[σ.w.heap.size]? =some (.cells ncur e (0,0)):=heap_alloc_new σ.w.drew _;have hg:=Y8 σ.w (.cells ncur e) none;have hblk':∀b,b < σ.w.heap.size->σ'.w.heap[b]? =σ.w.heap[b]? :=λb hb=>hg.block b hb (by simp);have hmset:σ'.m[id]? =some (some σ.w.heap.size):=getElem?_set_eq' hmi;have hHset:σ'.H[id]? =some (.log i.size e (xs++ys)):=getElem?_set_eq' hH
    obtain⟨to,ok'⟩:=XR (σ':=σ') (mi:=some b) (mi':=some σ.w.heap.size) ok hH (by rw[hmi,hmb]) rfl rfl rfl rfl rfl rfl rfl hg.size
     (λb hb _=>hblk' b hb) (λb' o v hb' _ hcell=>by
       rw[World.cell?_of_block (w:=σ.w) (hblk' b' (Wu hcell))];exact hcell)
     (λo h _=>by
       have:=ok.lt id b k1;cases h;omega) (.inr ⟨_,rfl,yl _,by simp[σ']⟩) (λ⟨d,st,h⟩=>by cases h) (λ⟨d,st,h⟩=>by cases h)
     (λs' e' xs' h=>⟨xs++ys,by cases h;rfl,by cases h;simp,λhh=>by
       cases h;rw[zB] at hh;omega⟩)
     (λleaf=>.inr ⟨σ.w.heap.size,ncur,q,rfl,zU,hncs,by rw[zB];exact hge,hcm,hall',by
       rw[htk];exact Yt (repCs_mono leaf.cells _ _ g8) (repCs_mono leaf.cells _ _ hr)⟩)
    refine ZX (σ':=σ') (Yl ho yR yQ htys (by rw[hv];exact zO)) to ok' ?_;rw[Zi rfl];simp only[yG,Bool.true_or]
    refine⟨hall',some ⟨σ.w.heap.size,0,none⟩,q,by rw[zB],by rw[zB];exact hge,hcm,Yp _,λh=>(by cases h),λ_=>⟨σ.w.heap.size,0,cur.toList.take (xs.length*i.size)++zV,rfl,
     Yt (repCs_mono to.leaf.cells _ _ g8) (repCs_mono to.leaf.cells _ _ hr),ZdC zU (λo ho=> ?_) ?_⟩,e,_,hHset,yl _,λ_=>.inr ⟨_,ncur,hmset,rfl,zU,hncs⟩⟩
    ·refine⟨.inr (ok.new _ (yl _)),λj e' g1 g2=> ?_⟩;have:j=id:=ok'.inj j id _ g1 hmset;subst this;rw[hHset] at g2;cases g2;show o < (xs++ys).length*i.size;grind
    grind
theorem ZqZ{t:yb}{len:Nat}{parts:Array (Nat×yn)}(ho:o.op=.buildSlice t len parts){v:yh}{w':yz}
 (h:(Instr.buildSlice t len (parts.map λq=>(q.1,a.eval q.2))).run P σ.w=.ok v w'):(execOp a.eval o).run P σ.w=.ok (.value v) w':=by
 simp[execOp,ho,h]
theorem ZnJ(yK:RepT σ ts a){t e:yb}{i:TypeInfo}{len:Nat}{parts:Array (Nat×yn)}{xs:yL Pl}(hu:P.underlying t=some (.slice e))(hi:P.info? e=some i)(hz:zOk i=true)
 (hsz:len*i.size<=16777216) (hl:WL P ts e (P.cellsOf e) len parts.toList=some xs):
 ∃cells:Array yh,(Instr.buildSlice t len (parts.map λq=>(q.1,a.eval q.2))).run P σ.w=.ok (.slice (some ⟨σ.w.heap.size,0,none⟩) len len) (σ.w.alloc (.cells cells e))/\
  repCs σ.w σ.stab xs cells.toList/\xs.length=len/\allSz i.size xs/\cells.size=len*i.size:=by
 have hce:P.cellsOf e=i.size:=by simp[Program.cellsOf,hi]
 rw[hce] at hl
 obtain⟨cells,h1,h2,h3,h4⟩:=ZrA (P:=P) (t:=t) (parts:=parts.map λq=>(q.1,a.eval q.2)) (Q:=λcells=>repCs σ.w σ.stab xs cells.toList/\xs.length=len/\allSz i.size xs) σ.w hu hi hz hsz (λZ hZ=>by
  obtain⟨cells,k1,k2⟩:=ZCQ (P:=P) yK hl Z hZ;exact⟨cells,by rw[Array.toList_map];exact k1,k2⟩)
 exact⟨cells,h1,h2,h3,h4,by rw[<-ybo,repCs_size _ _ h2,sizes_all h4,h3]⟩
theorem ZrD(ok:Ok σ)(yK:RepT σ ts a){t e:yb}{i:TypeInfo}{len:Nat}{parts:Array (Nat×yn)}{xs:yL Pl}(ho:o.op=.buildSlice t len parts)(hu:P.underlying t=some (.slice e))
 (hi:P.info? e=some i) (hz:zOk i=true) (hne:i.size≠0) (hsz:len*i.size<=16777216) (hl:WL P ts e (P.cellsOf e) len parts.toList=some xs):Wd P o a σ (.p (.sl (some true) i.size xs)) σ.H:=by
 obtain⟨cells,zO,hr,zB,zL,hcs⟩:=ZnJ (P:=P) yK hu hi hz hsz hl;obtain⟨to,ok'⟩:=ZnF ok (World.grownBy_alloc σ.w (.cells cells e) none)
 have hle:len<=maxLen:=by
  have:=Nat.le_mul_of_pos_right len (Nat.pos_of_ne_zero hne);simp only[maxLen];omega
 refine ZX (σ':={ σ with w:=σ.w.alloc (.cells cells e)}) (ZqZ ho zO) to ok' ?_;rw[<-zB];exact ZrC (Zdy rfl) ok' zL (repCs_mono to.leaf.cells _ _ hr) (b:=σ.w.heap.size) (heap_alloc_new σ.w _) (ok.new _ (yl _)) (ZfE ok) (ybr (yl _)) (yl _) (by rw[zB];exact hle)
theorem ZCR(ok:Ok σ)(yK:RepT σ ts a){t e:yb}{i:TypeInfo}{len:Nat}{parts:Array (Nat×yn)}{xs:yL Pl}(ho:o.op=.buildSlice t len parts)(hu:P.underlying t=some (.slice e))
 (hi:P.info? e=some i) (hz:zOk i=true) (hne:i.size≠0) (hsz:len*i.size<=16777216) (hl:WL P ts e (P.cellsOf e) len parts.toList=some xs):
 Wd P o a σ (.own σ.H.length (some true) i.size xs) (σ.H++[.log i.size e xs]):=by
 obtain⟨cells,zO,hr,zB,zL,hcs⟩:=ZnJ (P:=P) yK hu hi hz hsz hl
 have hle:len<=maxLen:=by
  have:=Nat.le_mul_of_pos_right len (Nat.pos_of_ne_zero hne);simp only[maxLen];omega
 let σ':Sg:={ σ with m:=σ.m++[some σ.w.heap.size],H:=σ.H++[.log i.size e xs],w:=σ.w.alloc (.cells cells e)};have zU:σ'.w.heap[σ.w.heap.size]? =some (.cells cells e (0,0)):=heap_alloc_new σ.w _
 have hmlast:σ'.m[σ.H.length]? =some (some σ.w.heap.size):=by
  show(σ.m++[some σ.w.heap.size])[σ.H.length]? =_;rw[yat (by rw[ok.len];exact yl _),ok.len];simp
 have htk:cells.toList.take (xs.length*i.size)=cells.toList:=ybr (by rw[zB, <-hcs];simp)
 obtain⟨to,ok'⟩:=V0 (σ':=σ') ok rfl rfl rfl rfl (World.grownBy_alloc σ.w (.cells cells e) none) (.inr ⟨_,rfl,yl _,by simp[σ']⟩)
  (λleaf=>.inr ⟨σ.w.heap.size,cells,len,rfl,zU,hcs,by rw[zB];exact yl _,hle,zL,by rw[htk];exact repCs_mono leaf.cells _ _ hr⟩)
 refine ZX (σ':=σ') (ZqZ ho zO) to ok' ?_;rw[Zi rfl];simp only[yG]
 refine⟨zL,some ⟨σ.w.heap.size,0,none⟩,len,by rw[zB],by rw[zB];exact yl _,hle,Zdy rfl,λh=>(by cases h),λ_=>⟨σ.w.heap.size,0,cells.toList,rfl,repCs_mono to.leaf.cells _ _ hr,ZdC zU (λo' ho'=>⟨.inr (ok.new _ (yl _)),λid e' h1 h2=> ?_⟩) (ybr (yl _))⟩,
  e,xs,by simp[σ'],yl _,λ_=>.inr ⟨_,cells,hmlast,rfl,zU,hcs⟩⟩
 have:id=σ.H.length:=ok'.inj id σ.H.length _ h1 hmlast;subst this;have h3:σ'.H[σ.H.length]? =some (.log i.size e xs):=by simp[σ']
 rw[h3] at h2;cases h2;show o' < xs.length*i.size;rw[zB, <-hcs];simpa using ho'
theorem ZBf(ok:Ok σ){t:yb}{dd:Dv}{v:yh}{st:Bool}(hsol:dd.solid=true)(hr:yH σ dd v)(hx:(execOp a.eval o).run P σ.w=.ok (.value (.pointer (some ⟨σ.w.heap.size,0,none⟩))) (σ.w.alloc (.cells v.cells t))):
 Wd P o a σ (.ref σ.H.length 0 []) (σ.H++[.var dd st]):=by
 have hcells:=ZbG hsol hr;let σ':Sg:={ σ with m:=σ.m++[some σ.w.heap.size],H:=σ.H++[.var dd st],w:=σ.w.alloc (.cells v.cells t)};have zU:σ'.w.heap[σ.w.heap.size]? =some (.cells v.cells t (0,0)):=heap_alloc_new σ.w _;have hsz:=W6 _ _ hcells
 have hmlast:σ'.m[σ.H.length]? =some (some σ.w.heap.size):=by
  show(σ.m++[some σ.w.heap.size])[σ.H.length]? =_;rw[yat (by rw[ok.len];exact yl _),ok.len];simp
 obtain⟨to,ok'⟩:=V0 (σ':=σ') ok rfl rfl rfl rfl (World.grownBy_alloc σ.w (.cells v.cells t) none) (.inr ⟨_,rfl,yl _,by simp[σ']⟩)
  (λleaf=>⟨σ.w.heap.size,v.cells,t,rfl,zU,by rw[<-hsz,ybr (yl _)];exact Yk leaf dd _ hcells,by rw[<-hsz];simp⟩)
 refine ZX (σ':=σ') hx to ok' ?_;rw[Zi rfl];simp only[yG];exact⟨_,hmlast,⟨dd,st,by simp[σ']⟩,rfl⟩
theorem ZIS(ok:Ok σ){t:yb}{dd:Dv}{v:yh}{st:Bool}{id:Nat}(hid:σ.H[id]? =some .gone)(hsol:dd.solid=true)(hr:yH σ dd v)(hx:(execOp a.eval o).run P σ.w=.ok (.value (.pointer (some ⟨σ.w.heap.size,0,none⟩))) (σ.w.alloc (.cells v.cells t))):
 Wd P o a σ (.ref id 0 []) (σ.H.set id (.var dd st)):=by
 have hcells:=ZbG hsol hr;have hlt:id < σ.m.length:=by rw[ok.len];exact(yo.1 hid).1
 have hm:σ.m[id]? =some σ.m[id]:=yad hlt;let σ':Sg:={ σ with m:=σ.m.set id (some σ.w.heap.size),H:=σ.H.set id (.var dd st),w:=σ.w.alloc (.cells v.cells t)};have zU:σ'.w.heap[σ.w.heap.size]? =some (.cells v.cells t (0,0)):=heap_alloc_new σ.w _;have hg:=World.grownBy_alloc σ.w (.cells v.cells t) none;have hsz:=W6 _ _ hcells;have hself:σ'.m[id]? =some (some σ.w.heap.size):=getElem?_set_eq' hm;have hHself:σ'.H[id]? =some (.var dd st):=getElem?_set_eq' hid
 obtain⟨to,ok'⟩:=XR (σ':=σ') (mi:=σ.m[id]) (mi':=some σ.w.heap.size) ok hid hm rfl rfl rfl rfl rfl rfl rfl hg.size
  (λj hj _=>hg.block j hj (by simp)) (λb o v hb _ hc=>by
    have hj:=ok.lt id b (by rw[hm,hb]);rw[World.cell?_of_block (w:=σ.w) (hg.block b hj (by simp))];exact hc) (λo he hu=>by
    have hj:=ok.lt id _ (by rw[hm, <-he]);omega) (.inr ⟨_,rfl,yl _,by simp[σ']⟩) (λ⟨d,st,h⟩=>by cases h) (λ⟨d,st,h⟩=>by cases h) (λs e xs h=>by cases h)
  (λleaf=>⟨σ.w.heap.size,v.cells,t,rfl,zU,by rw[<-hsz,ybr (yl _)];exact Yk leaf dd _ hcells,by rw[<-hsz];simp⟩)
  (λv s st e d h=>by cases h)
 refine ZX (σ':=σ') hx to ok' ?_;rw[Zi rfl];simp only[yG];exact⟨_,hself,⟨dd,st,hHself⟩,rfl⟩
theorem ZzI(ok:Ok σ){t:yb}{i:TypeInfo}{id:Nat}(hid:σ.H[id]? =some .gone)(ho:o.op=.alloc t)(hi:P.info? t=some i)(hz:i.zero.isSome=true)(hk:okT P t (zeroD P t)=true)(hsol:(zeroD P t).solid=true):
 Wd P o a σ (.ref id 0 []) (σ.H.set id (.var (zeroD P t) true)):=by
 cases hzz:i.zero with
 |none=>simp[hzz] at hz
 |some z=>
  have hr:yH σ (zeroD P t) z:=by
   unfold zeroD;rw[hi];simp only[hzz];exact Zaa
  refine ZIS (v:=z) (t:=t) ok hid hsol hr ?_;simp[execOp,ho,Instr.alloc,zeroValue,typeInfo,hi,hzz,newVar,newRow]
theorem ZHb(ok:Ok σ){t:yb}{i:TypeInfo}(ho:o.op=.alloc t)(hi:P.info? t=some i)(hz:i.zero.isSome=true)(hk:okT P t (zeroD P t)=true)(hsol:(zeroD P t).solid=true):
 Wd P o a σ (.ref σ.H.length 0 []) (σ.H++[.var (zeroD P t) true]):=by
 cases hzz:i.zero with
 |none=>simp[hzz] at hz
 |some z=>
  have hr:yH σ (zeroD P t) z:=by
   unfold zeroD;rw[hi];simp only[hzz];exact Zaa
  refine ZBf (v:=z) (t:=t) ok hsol hr ?_;simp[execOp,ho,Instr.alloc,zeroValue,typeInfo,hi,hzz,newVar,newRow]
theorem ZKA(ok:Ok σ){t:yb}{x:yn}{dd:Dv}(ho:o.op=.box t x)(hsol:dd.solid=true)(hr:yH σ dd (a.eval x)):Wd P o a σ (.ref σ.H.length 0 []) (σ.H++[.var dd true]):=by
 refine ZBf (v:=a.eval x) (t:=t) ok hsol hr ?_;simp[execOp,ho,Instr.box,newVar,newRow]
theorem ZbH{σ:Sg}:∀(yM:yL Nat)(dd:Dv)(hs hs':yL Hint)(C:yL Prop)(off:Nat)(sub:Dv)(us:yL yh),YE dd yM hs=some (C,off,sub,hs')->AllP C->yG σ dd us->
 ∃x y z,us=x++(y++z)/\x.length=off/\yG σ sub y
 |[],dd,hs,hs',C,off,sub,us,h,hc,hr=>by
  simp only[YE,yq,yab] at h;obtain⟨rfl,rfl,rfl,rfl⟩:=h
  exact⟨[],us,[],by simp,rfl,hr⟩
 |i::yM,dd,hs,hs',C,off,sub,us,h,hc,hr=>by
  cases dd with
  |p q=>
   cases q with
   |agg xs=>
    simp only[YE] at h;split at h
    ·rename_i x hx;simp only[yu,yab] at h;obtain⟨⟨C1,off1,sub1,hs1⟩,h1,rfl,rfl,rfl,rfl⟩:=h;simp only[yG,repC] at hr;obtain⟨p1,p2,p3,rfl,h2,h3,_⟩:=Zb4 hr hx;obtain⟨q1,q2,q3,rfl,h4,h5⟩:=ZbH yM (.p x) _ _ _ _ _ p2 h1 hc (by simpa[yG] using h3);exact⟨p1++q1,q2,q3++p3,by simp,by rw[yj,h2,h4],h5⟩
    ·cases h
   |arr n s xs=>
    simp only[YE] at h;split at h
    ·rename_i y hs1;simp only[yu,yab] at h;obtain⟨⟨C1,off1,sub1,hs1⟩,h1,rfl,rfl,rfl,rfl⟩:=h;obtain⟨hx,hc⟩:=hc;simp only[yG,repC] at hr;obtain⟨hl,zL,hr⟩:=hr;obtain⟨p1,p2,p3,rfl,h2,h3,_⟩:=Zb4 hr hx;obtain⟨q1,q2,q3,rfl,h4,h5⟩:=ZbH yM (.p y) _ _ _ _ _ p2 h1 hc (by simpa[yG] using h3);have hi:i < xs.length:=(yo.1 hx).1;exact⟨p1++q1,q2,q3++p3,by simp,by rw[yj,h2,h4,sizes_all (Qm zL i),yv,ybg (Nat.le_of_lt hi)],h5⟩
    ·cases h
   |_=>simp[YE] at h
  |agg xs=>
   simp only[YE] at h;split at h
   ·rename_i x hx;simp only[yu,yab] at h;obtain⟨⟨C1,off1,sub1,hs1⟩,h1,rfl,rfl,rfl,rfl⟩:=h;simp only[yG] at hr;obtain⟨p1,p2,p3,rfl,h2,h3,_⟩:=Zgc hr hx;obtain⟨q1,q2,q3,rfl,h4,h5⟩:=ZbH yM x _ _ _ _ _ p2 h1 hc h3;exact⟨p1++q1,q2,q3++p3,by simp,by rw[yj,h2,h4],h5⟩
   ·cases h
  |arr n s xs=>
   simp only[YE] at h;split at h
   ·rename_i x hx;simp only[yu,yab] at h;obtain⟨⟨C1,off1,sub1,hs1⟩,h1,rfl,rfl,rfl,rfl⟩:=h;simp only[yG] at hr;obtain⟨hl,zL,hr⟩:=hr;obtain⟨p1,p2,p3,rfl,h2,h3,_⟩:=Zgc hr hx;obtain⟨q1,q2,q3,rfl,h4,h5⟩:=ZbH yM x _ _ _ _ _ p2 h1 hc h3;have hi:i < xs.length:=(yo.1 hx).1;exact⟨p1++q1,q2,q3++p3,by simp,by rw[yj,h2,h4,dsizes_all (λy hy=>zL y (ycg hy)),yv,ybg (Nat.le_of_lt hi)],h5⟩
   ·cases h
  |_=>simp[YE] at h
theorem ZnK(ok:Ok σ){id off:Nat}{yM:yL Nat}{dd sub:Dv}{st:Bool}{b:Nat}{C:yL Prop}{off':Nat}(hm:σ.m[id]? =some (some b))(hH:σ.H[id]? =some (.var dd st))(hg:YE dd yM hs=some (C,off',sub,hs'))(hc:AllP C)(he:off'=off):
 ∃cs t x y z,σ.w.heap[b]? =some (.cells cs t (0,0))/\dd.size<=cs.size/\cs.toList.take dd.size=x++(y++z)/\x.length=off/\yG σ sub y/\yG σ dd (cs.toList.take dd.size)/\
  (∀(j:Nat)(u:yh),y[j]? =some u->σ.w.cell? ⟨b,off+j,none⟩=some u):=by
 obtain⟨b',cs,t,h1,h2,h3,h4⟩:=ok.ent id _ _ hH hm;cases h1;obtain⟨x,y,z,h5,h6,h7⟩:=ZbH yM dd hs hs' C off' sub _ hg hc h3;subst he;refine⟨cs,t,x,y,z,h2,h4,h5,h6,h7,h3,λj u hu=> ?_⟩;rw[cell_of_row σ.w b _ cs t (0,0) h2, <-ycd, <-h6];have hj:j < y.length:=(yo.1 hu).1
 have hlt:x.length+j < dd.size:=by
  have:=congrArg List.length h5;simp only[yv,ybo,yj] at this;omega
 have h8:(cs.toList.take dd.size)[x.length+j]? =some u:=by
  rw[h5,yat (by omega),yba (by omega)];simpa using hu
 rw[ycc,yW hlt] at h8;exact h8
theorem Zum{d:Dv}{s N:Nat}(h:rowN d s=some N):d.size=N*s:=by
 unfold rowN at h;split at h
 ·split at h
  ·rename_i e;cases h;rw[e];rfl
  ·cases h
 ·split at h
  ·rename_i e;cases h;rw[e];rfl
  ·cases h
 ·cases h
theorem ZCS(ok:Ok σ){id off v s N:Nat}{yM:yL Nat}{dd sub:Dv}{st:Bool}{e:yb}{b:Nat}{C:yL Prop}{off':Nat}(hm:σ.m[id]? =some (some b))(hH:σ.H[id]? =some (.row v s st e dd))(hN:rowN dd s=some N)
 (hg:YE dd yM hs=some (C,off',sub,hs')) (hc:AllP C) (he:off'=off):
 ∃cs cap x y z,σ.w.heap[b]? =some (.cells cs e (0,0))/\cs.size=cap*s/\N<=cap/\cap<=maxLen/\dd.size<=cs.size/\cs.toList.take dd.size=x++(y++z)/\x.length=off/\yG σ sub y/\yG σ dd (cs.toList.take dd.size)/\
  (∀(j:Nat)(u:yh),y[j]? =some u->σ.w.cell? ⟨b,off+j,none⟩=some u):=by
 obtain⟨N',hN',h⟩:=ok.ent id _ _ hH hm;rw[hN] at hN';cases hN';rcases h with⟨h,_⟩|⟨b',cs,cap,h1,h2,h4,h5,h6,h3⟩
 ·cases h
 cases h1;have hsz:=Zum hN;rw[<-hsz] at h3;have hle:dd.size<=cs.size:=by rw[hsz,h4];exact ybp _ h5
 obtain⟨x,y,z,k5,k6,k7⟩:=ZbH yM dd hs hs' C off' sub _ hg hc h3;subst he;refine⟨cs,cap,x,y,z,h2,h4,h5,h6,hle,k5,k6,k7,h3,λj u hu=> ?_⟩;rw[cell_of_row σ.w b _ cs e (0,0) h2, <-ycd, <-k6];have hj:j < y.length:=(yo.1 hu).1
 have hlt:x.length+j < dd.size:=by
  have:=congrArg List.length k5;simp only[yv,ybo,yj] at this;omega
 have h8:(cs.toList.take dd.size)[x.length+j]? =some u:=by
  rw[k5,yat (by omega),yba (by omega)];simpa using hu
 rw[ycc,yW hlt] at h8;exact h8
theorem ZHc(ok:Ok σ){id v s b:Nat}{st:Bool}{e:yb}{dd:Dv}(hm:σ.m[id]? =some (some b))(hH:σ.H[id]? =some (.row v s st e dd)):∃N,rowN dd s=some N:=by
 obtain⟨N',hN',_⟩:=ok.ent id _ _ hH hm;exact⟨N',hN'⟩
theorem Zxw{id v off v' s:Nat}{yM:yL Nat}{st:Bool}{e:yb}{dd:Dv}{u:yh}(hx:yH σ (.rref id v off yM) u)(hH:σ.H[id]? =some (.row v' s st e dd))(hv:v'=v):∃b,u=.pointer (some ⟨b,off,none⟩)/\σ.m[id]? =some (some b):=by
 obtain⟨b,o',h1,v2,s2,st2,e2,d2,h2,h3,h4⟩:=ZnG hx;rw[hH] at h2;cases h2;obtain⟨h5,h6⟩:=h4 hv;exact⟨b,by rw[h1,h6],h5⟩
theorem ZIT(ok:Ok σ)(yK:RepT σ ts a){t:yb}{x:yn}(ho:o.op=.load t x)(h:evR P o ts σ.H hs=some (C,d,hs'))(hc:AllP C):Wd P o a σ d σ.H:=by
 simp only[evR,ho] at h;have hx:=Zq (P:=P) yK 0 x;split at h
 ·rename_i id off yM hd;rw[hd] at hx;split at h
  ·rename_i dd st hH;split at h
   ·rename_i C1 off' sub hs1 hg;split at h
    ·rename_i hk;cases h;unfold okT at hk;simp only[yi,yT] at hk;obtain⟨⟨⟨k1,k2⟩,k3⟩,k4⟩:=hk;obtain⟨hc1,hc2⟩:=Zk.1 hc;obtain⟨b,hm,hv,hx⟩:=Zhq hx;obtain⟨cs,t',p1,p2,p3,_,_,_,_,h5,_,h6⟩:=ZnK ok hm hH hg hc1 hc2.1;obtain⟨v,h7,h8⟩:=Zhp (P:=P) h5 h6 k1 k4 k3 k2;exact Zn ok (by simp[execOp,ho,hx,Instr.loadAt,Instr.sureAddr,h7]) h8
    ·cases h
   ·cases h
  ·cases h
 ·rename_i id v off yM hd;rw[hd] at hx;split at h
  ·rename_i v' s' st e dd hH;split at h
   ·rename_i C1 off' sub hs1 hg;split at h
    ·rename_i hk;cases h;unfold okT at hk;simp only[yi,yT] at hk;obtain⟨⟨⟨⟨k1,k2⟩,k3⟩,k4⟩,hv⟩:=hk;obtain⟨hc1,hc2⟩:=Zk.1 hc;obtain⟨b,hx,hm⟩:=Zxw hx hH hv;obtain⟨N,hN⟩:=ZHc ok hm hH;obtain⟨cs,cap,p1,p2,p3,_,_,_,_,_,_,_,h5,_,h6⟩:=ZCS ok hm hH hN hg hc1 hc2.1;obtain⟨v,h7,h8⟩:=Zhp (P:=P) h5 h6 k1 k4 k3 k2;exact Zn ok (by simp[execOp,ho,hx,Instr.loadAt,Instr.sureAddr,h7]) h8
    ·cases h
   ·cases h
  ·cases h
 ·cases h
end
end Go.Ev
end
